/- Words on memory, kind by kind, for the machine side (turned and cut down by a program of this session out of the kit's printed words). No condition. -/
import Derived.Test.YtdbmmkhaeghjaaaUFnPartsOkWords
import Derived.Test.YtdbmmkhaeghjaaaUFnPartsOkLast
import Derived.Test.YtdbmmkhaeghjaaaUFnPartsOkQPut
import Derived.Test.YtdbmmkhaeghjaaaUFnPartsOkApart
import Derived.Test.YtdbmmkhaeghjaaaUFnPartsOkZeros
import Derived.Test.YtdbmmkhaeghjaaaUFnPartsOkFoot
import Derived.Test.YtdbmmkhaeghjaaaUFnPartsOkKept
import Derived.Test.YtdbmmkhaeghjaaaUFnPartsOkNEv
import Derived.Test.YtdbmmkhaeghjaaaUFnPartsOkTab
import Derived.Test.YtdbmmkhaeghjaaaUFnPartsOkShare
import Derived.KernelRfl
namespace Go.Proofs.YtdbmmkhaeghjaaaUFnPartsOk.PrintMore
open Go.RowKit Go.Proofs.YtdbmmkhaeghjaaaUFnPartsOk.PrintWords
namespace Kd
open Go.Proofs.YtdbmmkhaeghjaaaUFnPartsOk.PrintWords.Kd
end Kd
namespace Kd
open Go.Proofs.YtdbmmkhaeghjaaaUFnPartsOk.PrintWords.Kd
section
variable {α : Type} {d : Kd α} {e base g N : Nat} {ok : Nat → Prop} {W w1 : World} {u v : Value} {xs : List α}
theorem R_oldK (hu : d.R e W base (fun k => ok k ∧ k ≠ g) u xs) (hk : KeepBut W w1 g none) : d.R e w1 base (fun k => ok k ∧ k < W.heap.size) u xs :=
  R_mono (R_keep (R_bound hu) hk (fun _ h => h.1.2)) (fun _ h => ⟨h.1.1, h.2.2.1⟩)
theorem R_told (h : d.R e w1 base (fun k => ok k ∧ k < N) u xs) (hbase : ∀ k, v.ownBlock = some k → N ≤ k) : d.R e w1 base (fun k => (ok k ∧ some k ≠ v.ownBlock) ∧ k < N) u xs :=
  R_mono h (fun k hk => ⟨⟨hk.1, fun e => Nat.lt_irrefl _ (Nat.lt_of_lt_of_le hk.2 (hbase k e.symm))⟩, hk.2⟩)
end
end Kd
theorem max2_int (k k' : IntKind) (x y : Int) : Builtin.max2 (.int k x) (.int k' y) = pure (.int k (if x < y then y else x)) := by simp only [Builtin.max2, gt_iff_lt]
theorem min2_int (k k' : IntKind) (x y : Int) : Builtin.min2 (.int k x) (.int k' y) = pure (.int k (if y < x then y else x)) := by simp only [Builtin.min2]
theorem max_two (ats : Array TypeId) (ty : TypeId) (a b : Value) : Builtin.max_ ats ty #[a, b] = (Builtin.max2 a b >>= fun s => pure s) := by simp only [Builtin.max_, List.foldlM_cons, List.foldlM_nil]
theorem min_two (ats : Array TypeId) (ty : TypeId) (a b : Value) : Builtin.min_ ats ty #[a, b] = (Builtin.min2 a b >>= fun s => pure s) := by simp only [Builtin.min_, List.foldlM_cons, List.foldlM_nil]
theorem max_three (ats : Array TypeId) (ty : TypeId) (a b c : Value) : Builtin.max_ ats ty #[a, b, c] = (Builtin.max2 a b >>= fun s => Builtin.max2 s c >>= fun s => pure s) := by simp only [Builtin.max_, List.foldlM_cons, List.foldlM_nil]
theorem min_three (ats : Array TypeId) (ty : TypeId) (a b c : Value) : Builtin.min_ ats ty #[a, b, c] = (Builtin.min2 a b >>= fun s => Builtin.min2 s c >>= fun s => pure s) := by simp only [Builtin.min_, List.foldlM_cons, List.foldlM_nil]
theorem max_four (ats : Array TypeId) (ty : TypeId) (a b c d : Value) : Builtin.max_ ats ty #[a, b, c, d] = (Builtin.max2 a b >>= fun s => Builtin.max2 s c >>= fun s => Builtin.max2 s d >>= fun s => pure s) := by simp only [Builtin.max_, List.foldlM_cons, List.foldlM_nil]
theorem min_four (ats : Array TypeId) (ty : TypeId) (a b c d : Value) : Builtin.min_ ats ty #[a, b, c, d] = (Builtin.min2 a b >>= fun s => Builtin.min2 s c >>= fun s => Builtin.min2 s d >>= fun s => pure s) := by simp only [Builtin.min_, List.foldlM_cons, List.foldlM_nil]
end Go.Proofs.YtdbmmkhaeghjaaaUFnPartsOk.PrintMore
namespace Go.Proofs.YtdbmmkhaeghjaaaUFnPartsOk.PrintWords
open Go.RowKit
section
variable {P : Program} {ops : Array Oper} {rest : List Oper} {o : Oper} {a : Act} {Q : Exit → Act → World → Prop} {W : World}
theorem gate_callee {f : FuncId} {as : Array Operand} {ts : Array TypeId} (_ho : o.op = .call { callee := .value (.func f), args := as, argTypes := ts }) (h : wpList P ops Q (o :: rest) a W) : wpList P ops Q (o :: rest) a W := h
theorem gate_builtin {b : Builtin} {xs : Array Operand} {ts : Array TypeId} (_ho : o.op = .call { callee := .builtin b, args := xs, argTypes := ts }) (h : wpList P ops Q (o :: rest) a W) : wpList P ops Q (o :: rest) a W := h
end
def mn (a b : Int) : Int := if b < a then b else a
def shl (k : IntKind) (x y : Int) : Int := k.wrap (x * 2 ^ min y.toNat k.bits)
theorem shl_small {k : IntKind} {x y j : Int} (h : shl k x y = j) (hy : y ≤ k.bits) : k.wrap (x * 2 ^ y.toNat) = j := by rw [← h]; unfold shl; rw [Nat.min_eq_left (by omega)]
namespace Kd
section
variable {α : Type} {d : Kd α} {e base : Nat} {ok : Nat → Prop} {W w1 : World} {v : Value} {xs : List α}
end
section
variable {α : Type} {d : Kd α} {e base g n cap : Nat} {ok oki okp : Nat → Prop} {W : World} {xs : List α} {i : Int} {c : List Value}
end
section
variable {α : Type} {d : Kd α} {e base b b' g N : Nat} {ok ok1 : Nat → Prop} {W W2 w1 : World} {u v : Value} {xs ys : List α} {S : Nat → Prop}
end
end Kd
end Go.Proofs.YtdbmmkhaeghjaaaUFnPartsOk.PrintWords
namespace Go.Proofs.YtdbmmkhaeghjaaaUFnPartsOk.PrintWords
open Go.RowKit
namespace Kd
def V {α : Type} (d : Kd α) (_e : Nat) (W : World) (_base : Nat) (ok : Nat → Prop) (v : Value) (xs : List α) : Prop := ∃ A c, v = .slice A xs.length c ∧ xs.length ≤ c ∧ F d W ok A xs.length xs
section
variable {α β : Type} {d : Kd α} {e base base' n m c g N' lo hi : Nat} {ok ok' S : Nat → Prop} {w W w1 : World} {A : Option Addr} {ad : Addr} {u v v1 : Value} {xs : List α}
theorem V_map (h : V d e W base ok v xs) (hF : ∀ A, F d W ok A xs.length xs → F d w1 ok' A xs.length xs) : V d e w1 base' ok' v xs := by
  obtain ⟨A, c, hv, hl, hf⟩ := h
  exact ⟨A, c, hv, hl, hF A hf⟩
theorem V_mk (hl : xs.length ≤ c) (hf : F d W ok A xs.length xs) : V d e W base ok (.slice A xs.length c) xs := ⟨A, c, rfl, hl, hf⟩
theorem V_slice (h : V d e W base ok v xs) : ∃ A c, v = .slice A xs.length c := by
  obtain ⟨A, c, hv, _⟩ := h
  exact ⟨A, c, hv⟩
theorem V_at (h : V d e W base ok (.slice A n c) xs) : n = xs.length ∧ n ≤ c ∧ F d W ok A xs.length xs := by
  obtain ⟨A', c', hv, hl, hf⟩ := h
  injection hv with ha hn hc
  subst ha; subst hc
  exact ⟨hn, by rw [hn]; exact hl, hf⟩
theorem V_reads' (h : V d e W base ok (.slice A n c) xs) : n = xs.length ∧ n ≤ c ∧ d.C W A xs.length xs := ⟨(V_at h).1, (V_at h).2.1, F_now (V_at h).2.2⟩
theorem V_F (h : V d e W base ok (.slice A n c) xs) : F d W ok A n xs := by
  obtain ⟨hn, _, hf⟩ := V_at h
  rw [hn]
  exact hf
theorem V_nil (d : Kd α) (e : Nat) (W : World) (base : Nat) (ok : Nat → Prop) : V d e W base ok (.slice none 0 0) [] := ⟨none, 0, rfl, Nat.le_refl _, F_nil d W ok⟩
theorem R_V (h : d.R e W base ok v xs) : V d e W base' ok v xs := by
  obtain ⟨A, c, rfl⟩ := R_slice h
  exact ⟨A, c, rfl, (R_reads' h).2.1, R_F h⟩
theorem N_V (h : N d e W base ok v xs) : V d e W base' ok v xs := by
  obtain ⟨A, c, rfl⟩ := N_slice h
  exact ⟨A, c, rfl, (N_reads' h).2.1, N_F h⟩
theorem V_mono (h : V d e W base ok v xs) (hok : ∀ k, ok k → ok' k) : V d e W base ok' v xs := V_map h (fun _ hf => F_mono hf hok)
theorem V_lower (h : V d e W base ok v xs) (_ : base' ≤ base) : V d e W base' ok v xs := h
theorem V_below (h : V d e W base ok v xs) (hb : Below W.heap.size W w1) : V d e w1 base ok v xs := V_map h (fun _ hf => F_below hf hb)
theorem V_alloc (h : V d e W base ok v xs) (o : Obj) : V d e (W.alloc o) base ok v xs := V_map h (fun _ hf => F_alloc hf o)
theorem V_drew (h : V d e W base ok v xs) : V d e W.drew base ok v xs := V_map h (fun _ hf => F_drew hf)
theorem V_drewN (h : V d e W base ok v xs) (m : Nat) : V d e (W.drewN m) base ok v xs := V_map h (fun _ hf => F_drewN hf m)
theorem V_far (h : V d e W base ok v xs) {p : Addr} (hok : ∀ k, ok k → k ≠ p.block) (u : Value) : V d e (W.setCell p u) base ok v xs := V_map h (fun _ hf => F_far hf hok u)
theorem V_keep (h : V d e W base ok v xs) (hk : KeepBut W w1 g none) (hok : ∀ k, ok k → k ≠ g) : V d e w1 base ok v xs := V_map h (fun _ hf => F_keep hf hk hok)
theorem V_after (h : V d e W base (fun k => ok k ∧ some k ≠ u.ownBlock) v xs) (hg : W.grownBy w1 u.ownBlock) (hat : v1.ownBlock = u.ownBlock ∨ ∃ b, v1.ownBlock = some b ∧ W.heap.size ≤ b) : V d e w1 base (fun k => ok k ∧ some k ≠ v1.ownBlock) v xs := V_map h (fun _ hf => F_after hf hg hat)
theorem V_afterv (h : V d e W base (fun k => ok k ∧ some k ≠ v.ownBlock) u xs) (hg : W.grownBy w1 v.ownBlock) (hat : v1.ownBlock = v.ownBlock ∨ ∃ b, v1.ownBlock = some b ∧ W.heap.size ≤ b) : V d e w1 base (fun k => ok k ∧ some k ≠ v1.ownBlock) u xs := V_after h hg hat
theorem N_afterv (h : N d e W base (fun k => ok k ∧ some k ≠ v.ownBlock) u xs) (hg : W.grownBy w1 v.ownBlock) (hat : v1.ownBlock = v.ownBlock ∨ ∃ b, v1.ownBlock = some b ∧ W.heap.size ≤ b) : N d e w1 base (fun k => ok k ∧ some k ≠ v1.ownBlock) u xs := N_after h hg hat
theorem V_elderB (h : V d e W base ok v xs) (a : Nat) (ha : W.heap.size ≤ a) : V d e W base (fun k => ok k ∧ k ≠ a) v xs := V_map h (fun _ hf => F_elderB hf a ha)
theorem V_old (h : V d e W base ok v xs) (hb : Below W.heap.size W w1) : V d e w1 base (fun k => ok k ∧ k < W.heap.size) v xs := V_map h (fun _ hf => F_old hf hb)
theorem V_oldK (h : V d e W base (fun k => ok k ∧ k ≠ g) v xs) (hk : KeepBut W w1 g none) : V d e w1 base (fun k => ok k ∧ k < W.heap.size) v xs := V_map h (fun _ hf => F_oldK hf hk)
theorem V_told (h : V d e w1 base (fun k => ok k ∧ k < N') v xs) (hbase : ∀ k, u.ownBlock = some k → N' ≤ k) : V d e w1 base (fun k => (ok k ∧ some k ≠ u.ownBlock) ∧ k < N') v xs := V_map h (fun _ hf => F_told hf hbase)
theorem F_take (h : F d W ok A xs.length xs) (hm : m ≤ xs.length) : F d W ok A (xs.take m).length (xs.take m) := F_imp h (fun _ hC => C_take hC hm)
theorem R_newM {M : Nat → Prop} (h : d.R e w1 W.heap.size ok v xs) (hle : w.heap.size ≤ W.heap.size) (hM : ∀ k, w.heap.size ≤ k → M k) : d.R e w1 W.heap.size (fun k => M k ∧ ok k) v xs := R_mono (R_bound h) (fun k hk => ⟨hM k (Nat.le_trans hle hk.2.1), hk.1⟩)
end
end Kd
end Go.Proofs.YtdbmmkhaeghjaaaUFnPartsOk.PrintWords
namespace Go.Proofs.YtdbmmkhaeghjaaaUFnPartsOk.PrintMore
open Go.RowKit Go.Proofs.YtdbmmkhaeghjaaaUFnPartsOk.PrintWords Go.Proofs.YtdbmmkhaeghjaaaUFnPartsOk.PrintLast
theorem zs : (∀ (a : Act) (n : Tmp) (v : Value), a.put (some n) v = { a with tmps := a.tmps.setIfInBounds n v }) ∧ (∀ (a : Act) (v : Value), a.put none v = a) ∧
    (∀ (l : List Value) (n : Nat) (v : Value), l.toArray.setIfInBounds n v = (l.set n v).toArray) ∧ (∀ (x : Value) (l : List Value) (v : Value), (x :: l).set 0 v = v :: l) ∧
    (∀ (x : Value) (l : List Value) (n : Nat) (v : Value), (x :: l).set (n + 1) v = x :: l.set n v) ∧ (∀ n : Int, IntKind.i64.wrap n = wrap64 n) ∧ (∀ n : Int, IntKind.i32.wrap n = wrap32 n) :=
  ⟨fun _ _ _ => rfl, fun _ _ => rfl, fun _ _ _ => List.setIfInBounds_toArray _ _ _, fun _ _ _ => rfl, fun _ _ _ _ => rfl, i64_w, i32_w⟩
theorem yl {a b c : Prop} (h1 : a) (h2 : b) : (a ∧ b) ∨ c := Or.inl ⟨h1, h2⟩
theorem zc2 {w : World} {g t : Nat} {v0 v1 : Value} (h : w.heap[g]? = some (.cells #[v0, v1] t (0, 0))) : w.cell? ⟨g, 0, none⟩ = some v0 ∧ w.cell? ⟨g, 1, none⟩ = some v1 ∧ w.frozen? ⟨g, 0, none⟩ = false ∧ w.frozen? ⟨g, 1, none⟩ = false :=
  ⟨(blk_cell h 0).trans rfl, (blk_cell h 1).trans rfl, blk_frozen h 0, blk_frozen h 1⟩
theorem zc9 {w : World} {g t : Nat} {v0 v1 v2 v3 v4 v5 v6 v7 v8 : Value} (h : w.heap[g]? = some (.cells #[v0, v1, v2, v3, v4, v5, v6, v7, v8] t (0, 0))) : w.cell? ⟨g, 0, none⟩ = some v0 ∧ w.cell? ⟨g, 1, none⟩ = some v1 ∧ w.cell? ⟨g, 2, none⟩ = some v2 ∧ w.cell? ⟨g, 3, none⟩ = some v3 ∧ w.cell? ⟨g, 4, none⟩ = some v4 ∧ w.cell? ⟨g, 5, none⟩ = some v5 ∧ w.cell? ⟨g, 6, none⟩ = some v6 ∧ w.cell? ⟨g, 7, none⟩ = some v7 ∧ w.cell? ⟨g, 8, none⟩ = some v8 ∧ w.frozen? ⟨g, 0, none⟩ = false ∧ w.frozen? ⟨g, 1, none⟩ = false ∧ w.frozen? ⟨g, 2, none⟩ = false ∧ w.frozen? ⟨g, 3, none⟩ = false ∧ w.frozen? ⟨g, 4, none⟩ = false ∧ w.frozen? ⟨g, 5, none⟩ = false ∧ w.frozen? ⟨g, 6, none⟩ = false ∧ w.frozen? ⟨g, 7, none⟩ = false ∧ w.frozen? ⟨g, 8, none⟩ = false :=
  ⟨(blk_cell h 0).trans rfl, (blk_cell h 1).trans rfl, (blk_cell h 2).trans rfl, (blk_cell h 3).trans rfl, (blk_cell h 4).trans rfl, (blk_cell h 5).trans rfl, (blk_cell h 6).trans rfl, (blk_cell h 7).trans rfl, (blk_cell h 8).trans rfl, blk_frozen h 0, blk_frozen h 1, blk_frozen h 2, blk_frozen h 3, blk_frozen h 4, blk_frozen h 5, blk_frozen h 6, blk_frozen h 7, blk_frozen h 8⟩
theorem zk {w w' : World} {p : Addr} {v : Value} (hb : Below w.heap.size w w') (h : w.cell? p = some v) : w'.cell? p = some v := (hb.cell (World.block_lt_of_cell? w _ h)).trans h
theorem zl {α : Type} : (∀ (n : Nat) (l : List α), (l.drop n).length = l.length - n) ∧ (∀ (n : Nat) (l : List α), (l.take n).length = min n l.length) := ⟨fun _ _ => List.length_drop .., fun _ _ => List.length_take ..⟩
theorem zm {α β : Type} (f : α → β) : (∀ l : List α, l.toArray.map f = (l.map f).toArray) ∧ (∀ (x : α) (l : List α), (x :: l).map f = f x :: l.map f) ∧ (([] : List α).map f = []) :=
  ⟨fun _ => List.map_toArray .., fun _ _ => rfl, rfl⟩
section
variable {P : Program} {ops : Array Oper} {Q : Exit → Act → World → Prop} {md : Region.Mode} {S : World → Prop} {ds : List Nat} {T : Bool × List (List Nat × List Nat)} {B : List Nat}
theorem zr {p : Prop} (h : p := by first | (go_simp; done) | (go_simp; rfl)) : p := h
theorem zB {w w1 W : World} (h : Aside0 (Below w.heap.size w w1)) (e : Below w.heap.size w w1 → Below w.heap.size w W := by
  intro h_; repeat (first | (with_reducible first | exact h_ | apply below_alloc | apply pw_below_drewN | apply below_drew1 | refine below_set ?_ (Aside0.out (by assumption))) | exact h_)) : Below w.heap.size w W := e h.out
theorem zkf {w W : World} {g g' j : Nat} {row : Option Nat} {u : Value} (h : KeepBut w W g row) (hp : Aside0 (w.heap.size ≤ g')) : KeepBut w (W.setCell ⟨g', j, none⟩ u) g row := keep_far h hp.out u
theorem zJ {w w1 W : World} {g : Nat} {row : Option Nat} (h : Aside0 (KeepBut w w1 g row)) (e : KeepBut w w1 g row → KeepBut w W g row := by
  intro h_; repeat (first | (with_reducible first | exact h_ | apply KeepBut.set_ | apply keep_drewN | apply keep_drew | apply keep_alloc | refine zkf ?_ (by assumption)) | exact h_)) : KeepBut w W g row := e h.out
theorem zK {w W : World} {g : Nat} {o : Obj} (h : Aside0 (w.heap[g]? = some o)) (e : w.heap[g]? = some o → W.heap[g]? = some o := by intro h_; (with_reducible repeat (first | apply blk_drewN | apply blk_drew | apply blk_alloc)); exact h_) : W.heap[g]? = some o := e h.out
theorem zpt {w : World} {g i : Nat} {t : TypeId} {cs : Array Value} {u : Value} (h : w.heap[g]? = some (.cells cs t (0, 0))) : (w.setCell ⟨g, i, none⟩ u).heap[g]? = some (.cells (cs.setIfInBounds i u) t (0, 0)) := blk_put h i u rfl
theorem zfr {w : World} {g : Nat} {t : TypeId} {cs : Array Value} {u : Value} {p : Addr} (hp : Aside0 (g ≠ p.block)) (h : w.heap[g]? = some (.cells cs t (0, 0))) : (w.setCell p u).heap[g]? = some (.cells cs t (0, 0)) := blk_far h hp.out u
theorem zW {W : World} {g : Nat} {t : TypeId} {cs cs' : Array Value} (h : W.heap[g]? = some (.cells cs t (0, 0))) (e : cs = cs' := by (simp only [List.setIfInBounds_toArray, List.set_cons_zero, List.set_cons_succ]) <;> rfl) : W.heap[g]? = some (.cells cs' t (0, 0)) := e ▸ h
theorem zO {p q : Prop} (h : Aside0 q) (e : q → p := by
  intro h_; (with_reducible repeat (first | exact h_ | apply Kd.S_alloc | apply Kd.S_drewN | apply Kd.S_drew | apply Kd.R_alloc | apply Kd.R_drewN | apply Kd.R_drew | apply Kd.N_alloc | apply Kd.N_drewN | apply Kd.N_drew | apply Kd.V_alloc | apply Kd.V_drewN | apply Kd.V_drew)); try exact h_) : p := e h.out
theorem zC {p q r : Prop} (h : Aside0 q) (hb : Aside0 r) (e : q → r → p := by
  intro h_ hb_; repeat (first | exact Kd.C_below h_ hb_ | (with_reducible first | refine Kd.C_alloc ?_ _ | refine Kd.C_drewN ?_ _ | refine Kd.C_drew ?_))) : p := e h.out hb.out
theorem zq {w W w' : World} {g : Nat} {o : Obj} (h : Aside0 (w.heap[g]? = some o)) (hb : Below W.heap.size W w') (e : w.heap[g]? = some o → W.heap[g]? = some o := by intro h_; (with_reducible repeat (first | apply blk_drewN | apply blk_drew | apply blk_alloc)); exact h_) : Aside0 (w'.heap[g]? = some o) := ⟨blk_below (e h.out) hb⟩
theorem zbb {w w1 W w' : World} (h : Aside0 (Below w.heap.size w w1)) (hb : Below W.heap.size W w') (e : Below w.heap.size w w1 → Below w.heap.size w W := by
  intro h_; repeat (first | (with_reducible first | exact h_ | apply below_alloc | apply pw_below_drewN | apply below_drew1 | refine below_set ?_ (Aside0.out (by assumption))) | exact h_)) : Aside0 (Below w.heap.size w w') := ⟨below_step (e h.out) hb⟩
theorem zg {w w1 W : World} {g : Nat} (h : Aside0 (Below w.heap.size w w1)) (hg : g = W.heap.size) (e : Below w.heap.size w w1 → Below w.heap.size w W := by
  intro h_; repeat (first | (with_reducible first | exact h_ | apply below_alloc | apply pw_below_drewN | apply below_drew1 | refine below_set ?_ (Aside0.out (by assumption))) | exact h_)) : Aside0 (w.heap.size ≤ g) := ⟨by rw [hg]; exact below_size (e h.out)⟩
theorem zlt {w W : World} {g g' : Nat} {o : Obj} (h : Aside0 (w.heap[g]? = some o)) (hg : g' = W.heap.size) (e : w.heap[g]? = some o → W.heap[g]? = some o := by intro h_; (with_reducible repeat (first | apply blk_drewN | apply blk_drew | apply blk_alloc)); exact h_) : Aside0 (g ≠ g') := ⟨by rw [hg]; exact Nat.ne_of_lt (blk_lt (e h.out))⟩
theorem zgt {w W : World} {g g' : Nat} {o : Obj} (h : Aside0 (w.heap[g]? = some o)) (hg : g' = W.heap.size) (e : w.heap[g]? = some o → W.heap[g]? = some o := by intro h_; (with_reducible repeat (first | apply blk_drewN | apply blk_drew | apply blk_alloc)); exact h_) : Aside0 (g' ≠ g) := ⟨by rw [hg]; exact Nat.ne_of_gt (blk_lt (e h.out))⟩
theorem zcell {w : World} {g i : Nat} {t : TypeId} {cs : Array Value} {v : Value} (h : Aside0 (w.heap[g]? = some (.cells cs t (0, 0)))) (e : cs[i]? = some v := by rfl) : w.cell? ⟨g, i, none⟩ = some v := (blk_cell h.out i).trans e
theorem zH {p : Prop} (h : p := by repeat' (first | apply And.intro | exact zcell (by assumption) | exact zk (Aside0.out (by assumption)) (by assumption))) : p := h
theorem zp {i : Nat} {N : Option Tmp} {oi : Oper} {v : Value} {fuel : Nat} {l : Array Bool} {a a' : Act} {w : World} (l' : Array Bool) (HT : Aside0 (rtab md ops = T)) (h : wpAnyLast P md ops Q S ds fuel l' a' w)
    (hi : ops[i]? = some oi := by rfl) (hN : oi.dst = N := by rfl) (hc : anyT T l.toList l'.toList i = true := by kernel_rfl) (hQ : ∀ c a w, Q (.panic c) (a.put oi.dst v) w → Q (.panic c) a w := by exact (fun _ _ _ => id))
    (hy : Yields P ops oi v a := by refine yl (by rfl) ?_; intro w'; go_simp; with_reducible rfl) (ha : a.put N v = a' := by simp only [zs]; rfl) : wpAnyLast P md ops Q S ds (fuel + 1) l a w := pure_ l' hi hN (any_of HT.out hc) hQ hy ha h
theorem zu {i : Nat} {N : Option Tmp} {oi : Oper} {fuel : Nat} {l : Array Bool} {a a' : Act} {w : World} (l' : Array Bool) (HT : Aside0 (rtab md ops = T)) (h : wpAnyLast P md ops Q S ds fuel l' a' w)
    (hi : ops[i]? = some oi := by rfl) (hN : oi.dst = N := by rfl) (hc : anyT T l.toList l'.toList i = true := by kernel_rfl) (hQ : ∀ c a w, Q (.panic c) (a.put oi.dst undef) w → Q (.panic c) a w := by exact (fun _ _ _ => id))
    (hy : Yields P ops oi undef a := by exact Or.inr ⟨by rfl, rfl⟩) (ha : a.put N undef = a' := by simp only [zs]; rfl) : wpAnyLast P md ops Q S ds (fuel + 1) l a w := pure_ l' hi hN (any_of HT.out hc) hQ hy ha h
theorem zt {i : Nat} {N : Option Tmp} {oi : Oper} {v : Value} {fuel : Nat} {l : Array Bool} {a a' : Act} {w : World} (l' : Array Bool) (HT : Aside0 (rtab md ops = T)) (HW : Aside0 (waitsOk T.2 B = true)) (hS : S w) (h : wpAnyLast P md ops Q S ds fuel l' a' w)
    (hi : ops[i]? = some oi := by rfl) (hN : oi.dst = N := by rfl) (hc : takeW T B ds l.toList l'.toList i = true := by kernel_rfl) (hQ : ∀ c a w, Q (.panic c) (a.put oi.dst v) w → Q (.panic c) a w := by exact (fun _ _ _ => id))
    (hy : YieldsIf P ops S oi v a := by refine yl (by rfl) ?_; intro w' h_; (repeat (have s_ := h_.1; replace h_ := h_.2)); go_simp; with_reducible rfl) (ha : a.put N v = a' := by simp only [zs]; rfl) : wpAnyLast P md ops Q S ds (fuel + 1) l a w := take_ l' hi hN (take_ofW HT.out HW.out hc) hQ hy hS ha h
theorem zone {i : Nat} {N : Option Tmp} {oi : Oper} {fuel : Nat} {l : Array Bool} {a : Act} {w : World} (l' : Array Bool) (HT : Aside0 (rtab md ops = T))
    (h : ∀ K : Act → World → Prop, Shut (∀ a' w', S w' → (S w' → wpAnyLast P md ops Q S ds fuel l' a' w') → K a' w') → if Region.wanted oi (yielded ops a.tmps) = true then Oper.wp P oi a w K Q else K (a.put N undef) w)
    (hi : ops[i]? = some oi := by rfl) (hN : oi.dst = N := by rfl) (hc : (readyT T.2 l.toList == [i] && l.toList.set i true == l'.toList) = true := by kernel_rfl) (hd : i ∉ ds := by decide) : wpAnyLast P md ops Q S ds (fuel + 1) l a w := one_ l' hi hN (one_of HT.out hc) hd h
theorem znorm {fuel : Nat} {l : Array Bool} {a a' : Act} {w : World} (h : wpAnyLast P md ops Q S ds fuel l a' w) (ha : a = a' := by (show Act.put _ (some _) _ = _); simp only [zs]; rfl) : wpAnyLast P md ops Q S ds fuel l a w := norm_ ha h
theorem zf {α β : Type} {x : Option α} {f : α → Option β} {b : β} (h : x.bind f = some b) : ∃ a, Aside0 (x = some a) ∧ f a = some b := by
  obtain ⟨a, h1, h2⟩ := Option.bind_eq_some_iff.mp h
  exact ⟨a, ⟨h1⟩, h2⟩
theorem zy {α β : Type} {x : α} {f : α → Option β} {b : β} (h : (some x).bind f = some b) : ∃ y, Aside0 (y = x) ∧ f y = some b := ⟨x, ⟨rfl⟩, h⟩
theorem zM {p : Prop} (h : p := by (try simp only [zm]); first | done | rfl | (simp only [zl]; rfl)) : p := h
theorem z1 {p : Prop} (h : p := by first | rfl | (simp; done) | (simp [*]; done)) : p := h
theorem z2 {p : Prop} (h : p := by first | omega | exact Nat.le_refl _) : p := h
theorem zNf {α : Type} {d : Kd α} {e base : Nat} {ok : Nat → Prop} {w : World} {v : Value} {xs : List α} {p : Addr} {u : Value} (h : Kd.N d e w base ok v xs) (hok : ∀ k, ok k → k ≠ p.block := by exact (fun _ hk => hk.2)) : Kd.N d e (w.setCell p u) base ok v xs := Kd.N_far h hok u
theorem zRf {α : Type} {d : Kd α} {e base : Nat} {ok : Nat → Prop} {w : World} {v : Value} {xs : List α} {p : Addr} {u : Value} (h : Kd.R d e w base ok v xs) (hok : ∀ k, ok k → k ≠ p.block := by exact (fun _ hk => hk.2)) : Kd.R d e (w.setCell p u) base ok v xs := Kd.R_far h hok u
theorem zSf {α : Type} {d : Kd α} {e base : Nat} {ok : Nat → Prop} {w : World} {v : Value} {xs : List α} {p : Addr} {u : Value} (h : Kd.S d e w base ok v xs) (hok : ∀ k, ok k → k ≠ p.block := by exact (fun _ hk => hk.2)) : Kd.S d e (w.setCell p u) base ok v xs := Kd.S_far h hok u
theorem zVf {α : Type} {d : Kd α} {e base : Nat} {ok : Nat → Prop} {w : World} {v : Value} {xs : List α} {p : Addr} {u : Value} (h : Kd.V d e w base ok v xs) (hok : ∀ k, ok k → k ≠ p.block := by exact (fun _ hk => hk.2)) : Kd.V d e (w.setCell p u) base ok v xs := Kd.V_far h hok u
theorem zv {p q : Prop} (h : q) (e : q → p := by intro h_; first | exact h_ | (rw [add_block]; exact h_) | (show (Addr.add _ _).block ≠ _; rw [add_block]; exact h_) | (dsimp only; exact h_)) : p := e h
end
end Go.Proofs.YtdbmmkhaeghjaaaUFnPartsOk.PrintMore

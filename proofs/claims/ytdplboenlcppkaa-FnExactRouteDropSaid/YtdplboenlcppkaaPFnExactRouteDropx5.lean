/- The machine side of some functions: each comes to its pure answer (written by a program of this session with the kit's print). No condition. -/
import Derived.Test.YtdplboenlcppkaaPFnExactRouteDropx0
import Derived.Test.YtdplboenlcppkaaPFnExactRouteDropx1
import Derived.Test.YtdplboenlcppkaaPFnExactRouteDropx2
import Derived.Test.YtdplboenlcppkaaPFnExactRouteDropx3
import Derived.Test.YtdplboenlcppkaaPFnExactRouteDropx4
namespace Go.Proofs.Ytdplboenlcppkaa.PFnExactRouteDrop
open Go.RowKit Go.Proofs.YtdplboenlcppkaaUFnExactRouteDrop.PrintWords Go.Proofs.YtdplboenlcppkaaUFnExactRouteDrop.PrintLast Go.Proofs.YtdplboenlcppkaaUFnExactRouteDrop.PrintMore
attribute [local go_sem] max2_int min2_int max_two min_two max_three min_three max_four min_four   -- for this text's walks alone
set_option linter.unusedVariables false
set_option linter.unusedSimpArgs false

/-! ### impl_RouteDrop: function 56 -/
/-! #### a route that is dropped -/
def dropB (a b : Int) (x : S65) : Bool := x.f0 == a && x.f1 == b
theorem dropRd (xs : List (S65)) (i : Nat) (h : i < xs.length) : rd_T65 xs (i : Int) = xs[i] := by
 unfold rd_T65; simp [List.getD_eq_getElem?_getD, List.getElem?_eq_getElem h]
/-- The first place of a route that is dropped; -1 if there is none. -/
def dropIdx (a b : Int) (xs : List (S65)) : Int := match xs.findIdx? (dropB a b) with | some i => (i : Int) | none => -1
theorem dropIdx_hit (a b : Int) (xs : List (S65)) (k : Nat) (hk : k < xs.length) (hp : dropB a b (rd_T65 xs (k : Int)) = true) (no : ∀ j : Nat, j < k → dropB a b (rd_T65 xs (j : Int)) = false) : dropIdx a b xs = (k : Int) := by
 have e : xs.findIdx? (dropB a b) = some k := by
  rw [List.findIdx?_eq_some_iff_getElem]
  refine ⟨hk, by rw [← dropRd xs k hk]; exact hp, fun j hj => ?_⟩;have := no j hj
  rw [dropRd xs j (by omega)] at this
  simp [this]
 unfold dropIdx; rw [e]
theorem dropIdx_miss (a b : Int) (xs : List (S65)) (no : ∀ j : Nat, j < xs.length → dropB a b (rd_T65 xs (j : Int)) = false) : dropIdx a b xs = -1 := by
 have e : xs.findIdx? (dropB a b) = none := by
  rw [List.findIdx?_eq_none_iff]
  intro x hx;obtain ⟨j, hj, rfl⟩ := List.getElem_of_mem hx
  rw [← dropRd xs j hj]
  exact no j hj
 unfold dropIdx; rw [e]
/-- None is dropped, or the first one that is stands at some place. -/
theorem dropIdx_spec (a b : Int) (xs : List (S65)) : (dropIdx a b xs = -1 ∧ xs.filter (fun x => !dropB a b x) = xs) ∨ ∃ m : Nat, m < xs.length ∧ dropIdx a b xs = (m : Int) ∧ (xs.take (m + 1)).filter (fun x => !dropB a b x) = xs.take m := by
 unfold dropIdx
 cases h : xs.findIdx? (dropB a b) with
 | none =>
  rw [List.findIdx?_eq_none_iff] at h
  exact .inl ⟨rfl, List.filter_eq_self.2 (fun x hx => by rw [h x hx]; rfl)⟩
 | some m =>
  obtain ⟨hm, hp, hn⟩ := List.findIdx?_eq_some_iff_getElem.1 h;refine .inr ⟨m, hm, rfl, ?_⟩
  rw [List.take_succ_eq_append_getElem hm, List.filter_append, List.filter_eq_self.2 (fun x hx => ?_)]
  ·simp [hp]
  ·obtain ⟨j, hj, rfl⟩ := List.getElem_of_mem hx
   rw [List.length_take] at hj
   rw [List.getElem_take]
   have := hn j (by omega)
   simp [this]
set_option maxHeartbeats 2000000 in
/-- The closure of the search. -/
theorem dropEq.calls (x : S65) (a b : Int) (ga gb : Nat) (w : World) (ha : w.cell? ⟨ga, 0, none⟩ = some (.int .i64 a)) (hb : w.cell? ⟨gb, 0, none⟩ = some (.int .i64 b)) :
  Calls Try.prog 107 #[.agg #[.int .i64 x.f0, .int .i64 x.f1, .int .i64 x.f2, .int .i64 x.f3], .pointer (some ⟨ga, 0, none⟩), .pointer (some ⟨gb, 0, none⟩)] w fun e w' => e = .returned (.bool (dropB a b x)) ∧ Below w.heap.size w w' := by
 have hsa := World.block_lt_of_cell? w _ ha;have hsb := World.block_lt_of_cell? w _ hb;have HB := Aside0.mk (Below.refl w.heap.size w);have HXA := Aside0.mk ha;have HXB := Aside0.mk hb;clear ha hb
 cases hq : (x.f0 == a) with
 | true =>
  have e : dropB a b x = (x.f1 == b) := by unfold dropB; rw [hq]; rfl
  rw [e]
  clear e
  go_enter Try.func107, Try.ntmps107
  go_wp2_with (first | ((with_reducible refine gate_dst (N := 3) rfl ?_); refine box_event ?hg (N := 3) ?hd (cs := #[.int .i64 x.f0, .int .i64 x.f1, .int .i64 x.f2, .int .i64 x.f3]) (t := 65) ?hr ?_; (case hd => rfl); (case hg => rfl); (case hr => first | (go_simp; done) | (go_simp; rfl)); intro ge hg w1 hbox hb; have hxa := (hb.cell (p := ⟨ga, 0, none⟩) hsa).trans HXA.out; have hxb := (hb.cell (p := ⟨gb, 0, none⟩) hsb).trans HXB.out; have h0 : w1.cell? ⟨ge, 0, none⟩ = some (.int .i64 x.f0) := (blk_cell hbox 0).trans rfl; have h1 : w1.cell? ⟨ge, 1, none⟩ = some (.int .i64 x.f1) := (blk_cell hbox 1).trans rfl; have HB1 := Aside0.mk (below_step HB.out hb); clear HB; clear hb hbox hg))
  go_ret;exact ⟨rfl, HB1.out⟩
 | false =>
  have e : dropB a b x = false := by unfold dropB; rw [hq]; rfl
  rw [e]
  clear e
  go_enter Try.func107, Try.ntmps107
  go_wp2_with (first | ((with_reducible refine gate_dst (N := 3) rfl ?_); refine box_event ?hg (N := 3) ?hd (cs := #[.int .i64 x.f0, .int .i64 x.f1, .int .i64 x.f2, .int .i64 x.f3]) (t := 65) ?hr ?_; (case hd => rfl); (case hg => rfl); (case hr => first | (go_simp; done) | (go_simp; rfl)); intro ge hg w1 hbox hb; have hxa := (hb.cell (p := ⟨ga, 0, none⟩) hsa).trans HXA.out; have hxb := (hb.cell (p := ⟨gb, 0, none⟩) hsb).trans HXB.out; have h0 : w1.cell? ⟨ge, 0, none⟩ = some (.int .i64 x.f0) := (blk_cell hbox 0).trans rfl; have h1 : w1.cell? ⟨ge, 1, none⟩ = some (.int .i64 x.f1) := (blk_cell hbox 1).trans rfl; have HB1 := Aside0.mk (below_step HB.out hb); clear HB; clear hb hbox hg))
  go_ret;exact ⟨rfl, HB1.out⟩
set_option maxHeartbeats 1000000 in
/-- slices.IndexFunc over the routes. -/
theorem dropIdx.calls (a b : Int) (ga gb : Nat) (A : Option Addr) (c : Nat) (xs : List (S65)) (w : World) (hr : Kd.C k65 w A xs.length xs) (hbig : xs.length ≤ 9223372036854775807) (ha : w.cell? ⟨ga, 0, none⟩ = some (.int .i64 a)) (hb : w.cell? ⟨gb, 0, none⟩ = some (.int .i64 b)) :
  Calls Try.prog 136 #[.slice A xs.length c, .func (.func 107) #[] #[.pointer (some ⟨ga, 0, none⟩), .pointer (some ⟨gb, 0, none⟩)]] w fun e w' => e = .returned (.int .i64 (dropIdx a b xs)) ∧ Below w.heap.size w w' := by
 have hsa := World.block_lt_of_cell? w _ ha;have hsb := World.block_lt_of_cell? w _ hb;have HXA := Aside0.mk ha;have HXB := Aside0.mk hb;have HR := Aside0.mk hr;clear hr ha hb
 go_enter Try.func136, Try.ntmps136
 go_wp2
 go_loopg [5, 8] xs.length (fun gg _ s8 wr => ∃ kk : Nat, kk ≤ xs.length ∧ xs.length - kk ≤ gg ∧ s8 = .int .i64 kk ∧ Aside (Below w.heap.size w wr) ∧ Aside (∀ j : Nat, j < kk → dropB a b (rd_T65 xs (j : Int)) = false))
 case atStart => exact ⟨0, Nat.zero_le _, by omega, rfl, Below.refl _ w, fun j hj => absurd hj (Nat.not_lt_zero _)⟩
 case round =>
  obtain ⟨kk, hkk, hg, rfl, BW, NO⟩ := hrel
  by_cases hlt : kk < xs.length
  ·have hltz : (kk : Int) < (xs.length : Int) := by omega
   have h0z : (0 : Int) ≤ (kk : Int) := by omega
   obtain ⟨ad, eA, hx0, hx1, hx2, hx3⟩ := at_T65 HR.out (kk : Int) h0z hltz
   subst eA
   replace hx0 := (BW.out.cell (World.block_lt_of_cell? w _ hx0)).trans hx0;replace hx1 := (BW.out.cell (World.block_lt_of_cell? w _ hx1)).trans hx1;replace hx2 := (BW.out.cell (World.block_lt_of_cell? w _ hx2)).trans hx2;replace hx3 := (BW.out.cell (World.block_lt_of_cell? w _ hx3)).trans hx3;simp only [Int.toNat_natCast] at hx0 hx1 hx2 hx3;have HC := Aside0.mk (dropEq.calls (rd_T65 xs (kk : Int)) a b ga gb wr ((BW.out.cell (p := ⟨ga, 0, none⟩) hsa).trans HXA.out) ((BW.out.cell (p := ⟨gb, 0, none⟩) hsb).trans HXB.out))
   generalize hy : rd_T65 xs (kk : Int) = y at hx0 hx1 hx2 hx3 HC
   have B : Aside (rd_T65 xs (kk : Int) = y) := hy;clear hy
   cases hq : dropB a b y with
   | true =>
    rw [hq] at HC
    go_wp2_with (go_at_call 107; refine HC.out.mono ?_; rintro e w' ⟨rfl, hb'⟩)
    go_ret;refine ⟨?_, below_step BW.out hb'⟩
    rw [dropIdx_hit a b xs kk hlt (by rw [B.out]; exact hq) NO.out]
    rfl
   | false =>
    rw [hq] at HC
    go_wp2_with (go_at_call 107; refine HC.out.mono ?_; rintro e w' ⟨rfl, hb'⟩)
    go_roundg (xs.length - (kk + 1))
    case measure => omega
    case rel =>
     refine ⟨kk + 1, by omega, by omega, by go_num, below_step BW.out hb', (show Aside _ from fun j hj => ?_)⟩
     by_cases e : j = kk
     ·subst e
      rw [B.out]; exact hq
     ·exact NO.out j (by omega)
  ·have hltz : ¬ (kk : Int) < (xs.length : Int) := by omega
   obtain rfl : kk = xs.length := by omega
   go_wp2
   go_ret;exact ⟨by rw [dropIdx_miss a b xs NO.out]; rfl, BW.out⟩
theorem below_cells {w0 : World} {g : Nat} (hg : w0.heap.size ≤ g) : ∀ (vs : List Value) (o : Nat) (W : World), Below w0.heap.size w0 W → Below w0.heap.size w0 (W.setCells g o vs)
 | [], _, _, h => h
 | _ :: r, o, _, h => below_cells hg r (o + 1) _ (below_set h hg)
theorem cells_app (g : Nat) : ∀ (u v : List Value) (o : Nat) (W : World), W.setCells g o (u ++ v) = (W.setCells g o u).setCells g (o + u.length) v
 | [], _, _, _ => rfl
 | x :: u, v, o, W => by
  show (W.setCell ⟨g, o, none⟩ x).setCells g (o + 1) (u ++ v) = _
  rw [cells_app g u v (o + 1) _, List.length_cons, show o + 1 + u.length = o + (u.length + 1) by omega]
  rfl
/-- What clear leaves of a row of routes. -/
theorem clear_rows {base : Nat} {ok : Nat → Prop} {g n c : Nat} : ∀ (m i : Nat) (W : World) (ys : List (S65)), i + m = n → ys.length = n → Kd.R k65 65 W base ok (.slice (some ⟨g, 0, none⟩) n c) ys →
  ∃ zs, Kd.R k65 65 (W.setCells g (i * 4) (List.replicate (m * 4) (.int .i64 0))) base ok (.slice (some ⟨g, 0, none⟩) n c) zs ∧ zs.length = n ∧ zs.take i = ys.take i := by
 intro m
 induction m with
 | zero => intro i W ys hi hl h; exact ⟨ys, h, hl, rfl⟩
 | succ m ih =>
  intro i W ys hi hl h;obtain ⟨ce, hcl, hM, hcc, hfr⟩ := Kd.R_elem h z65 (i : Int) (by omega) (by omega);obtain rfl := k65_openM hM;have HP := (Kd.R_seg h (i : Int) (by omega) (by omega) (seg := [.int .i64 0, .int .i64 0, .int .i64 0, .int .i64 0]) (j := 0) hcl hcc (show 4 ≤ 4 from by decide) (x' := z65) (k65_mkM _ _ _ z65) (fun _ hk => hk)).1;obtain ⟨zs, hz, hzl, hzt⟩ := ih (i + 1) _ _ (by omega) (by rw [List.length_set]; exact hl) HP;refine ⟨zs, ?_, hzl, ?_⟩
  ·have e : List.replicate ((m + 1) * 4) (Value.int .i64 0) = [.int .i64 0, .int .i64 0, .int .i64 0, .int .i64 0] ++ List.replicate (m * 4) (.int .i64 0) := by
    rw [show (m + 1) * 4 = 4 + m * 4 by omega, ← List.replicate_append_replicate]; rfl
   rw [e, cells_app]
   have e2 : (i + 1) * 4 = i * 4 + 4 := by omega
   rw [e2] at hz
   exact hz
  ·have h2 := congrArg (List.take i) hzt
   rw [List.take_take, List.take_take, Nat.min_eq_left (by omega)] at h2
   rw [h2]
   exact List.take_set_of_le (Nat.le_refl i)
/-- clear over the end of a row of routes. -/
theorem clear_run {base : Nat} {ok : Nat → Prop} {g n c : Nat} {W : World} {ys : List (S65)} (h : Kd.R k65 65 W base ok (.slice (some ⟨g, 0, none⟩) n c) ys) (hl : ys.length = n) (i m : Nat) (him : i + m = n) (hm : 0 < m) (c' : Nat) :
  ∀ ty, (Builtin.clear_ #[61] ty #[.slice (some ⟨g, i * 4, none⟩) m c']).run Try.prog W = .ok (.tuple #[]) (W.setCells g (i * 4) (List.replicate (m * 4) (.int .i64 0))) := by
 intro ty
 have hcell : ∀ j, j < m * 4 → (W.cell? ⟨g, i * 4 + j, none⟩).isSome = true ∧ W.frozen? ⟨g, i * 4 + j, none⟩ = false := fun j hj => by
  have hdm := Nat.div_add_mod j 4;have hlt := Nat.mod_lt j (show 0 < 4 by decide);obtain ⟨ce, hcl, hM, hcc, hfr⟩ := Kd.R_elem h z65 ((i + j / 4 : Nat) : Int) (by omega) (by omega)
  have ea : i * 4 + j = (((i + j / 4 : Nat) : Int)).toNat * (k65).sz + j % 4 := by
   rw [Int.toNat_natCast]
   show i * 4 + j = (i + j / 4) * 4 + j % 4
   omega
  rw [ea]
  refine ⟨?_, hfr _⟩
  have hce : j % 4 < ce.length := by rw [hcl]; exact hlt
  rw [hcc (j % 4) _ (List.getElem?_eq_getElem hce)]
  rfl
 have hst := run_storeCells_cells (P := Try.prog) g (i * 4) (List.replicate (m * 4) (.int .i64 0)) 0 W (by intro j hj; rw [List.length_replicate] at hj; exact (hcell j hj).1) (by intro j hj; rw [List.length_replicate] at hj; exact (hcell j hj).2) (by intro v hv; rw [List.eq_of_mem_replicate hv]; rfl);simp only [Nat.add_zero] at hst
 have hv : (zeroValue 65).run Try.prog W = .ok (.agg #[.int .i64 0, .int .i64 0, .int .i64 0, .int .i64 0]) W := by
  obtain ⟨i0, hi0, hz0, _⟩ := info_parts info65
  simp [zeroValue, typeInfo, hi0, hz0]
 have hzc : (Builtin.zeroCells (Value.agg #[.int .i64 0, .int .i64 0, .int .i64 0, .int .i64 0]).cells m).toList = List.replicate (m * 4) (.int .i64 0) := by
  have e : (Value.agg #[.int .i64 0, .int .i64 0, .int .i64 0, .int .i64 0]).cells = #[.int .i64 0, .int .i64 0, .int .i64 0, .int .i64 0] := by simp [Value.cells]
  rw [e]
  simp only [Builtin.zeroCells]
  apply List.ext_getElem
  ·simp
  ·intro k h1 h2;simp only [Array.toList_map, List.getElem_map, List.getElem_replicate]
   have : ∀ q, q % 4 = 0 ∨ q % 4 = 1 ∨ q % 4 = 2 ∨ q % 4 = 3 := fun q => by omega
   have hk := this k
   simp
   rcases hk with e | e | e | e <;> simp [e]
 obtain ⟨q, rfl⟩ : ∃ q, m = q + 1 := ⟨m - 1, by omega⟩
 simp [Builtin.clear_, run_underlying Try.underlying61, hv, hzc, hst]
/-- The second loop's relation: j places have been looked at, i of them are kept. -/
structure DelInv (a b : Int) (xs : List (S65)) (i j : Nat) (ys : List (S65)) : Prop where
 len : ys.length = xs.length
 lt : i < j
 low : ys.take i = (xs.take j).filter (fun x => !dropB a b x)
 high : ys.drop j = xs.drop j
theorem DelInv.at_ {a b : Int} {xs ys : List (S65)} {i j : Nat} (h : DelInv a b xs i j ys) (hj : j < xs.length) : xs[j] = rd_T65 ys (j : Int) := by
 have hl := h.len
 rw [dropRd ys j (by omega)]
 have e := h.high
 rw [List.drop_eq_getElem_cons hj, List.drop_eq_getElem_cons (show j < ys.length by omega)] at e
 exact (List.cons.inj e).1.symm
theorem DelInv.next {a b : Int} {xs ys : List (S65)} {i j : Nat} (h : DelInv a b xs i j ys) (hj : j < xs.length) : ys.drop (j + 1) = xs.drop (j + 1) := by
 have e := congrArg (List.drop 1) h.high
 rw [List.drop_drop, List.drop_drop] at e
 exact e
theorem DelInv.keep {a b : Int} {xs ys : List (S65)} {i j : Nat} (h : DelInv a b xs i j ys) (hj : j < xs.length) (hk : dropB a b (rd_T65 ys (j : Int)) = false) : DelInv a b xs (i + 1) (j + 1) (ys.set i (rd_T65 ys (j : Int))) where
 len := by rw [List.length_set]; exact h.len
 lt := by have := h.lt; omega
 low := by
  have hl := h.len;have hi := h.lt
  rw [List.take_succ_eq_append_getElem (by rw [List.length_set]; omega), List.take_set_of_le (Nat.le_refl i), h.low, List.take_succ_eq_append_getElem hj, List.filter_append, h.at_ hj]
  simp [hk]
 high := by
  have hi := h.lt
  rw [List.drop_set_of_lt (by omega)]
  exact h.next hj
theorem DelInv.skip {a b : Int} {xs ys : List (S65)} {i j : Nat} (h : DelInv a b xs i j ys) (hj : j < xs.length) (hk : dropB a b (rd_T65 ys (j : Int)) = true) : DelInv a b xs i (j + 1) ys where
 len := h.len
 lt := by have := h.lt; omega
 low := by
  rw [List.take_succ_eq_append_getElem hj, List.filter_append, h.at_ hj, h.low]
  simp [hk]
 high := h.next hj
set_option maxHeartbeats 4000000 in
set_option maxRecDepth 100000 in
/-- slices.DeleteFunc over a row of one's own. -/
theorem dropDel.calls (a b : Int) (ga gb : Nat) (A : Option Addr) (c : Nat) (xs : List (S65)) (w0 w : World) (hO : Kd.R k65 65 w w0.heap.size (fun _ => True) (.slice A xs.length c) xs) (hB : Below w0.heap.size w0 w) (hbig : xs.length ≤ 1099511627776) (ha : w0.cell? ⟨ga, 0, none⟩ = some (.int .i64 a)) (hb : w0.cell? ⟨gb, 0, none⟩ = some (.int .i64 b)) :
  Calls Try.prog 105 #[.slice A xs.length c, .func (.func 107) #[] #[.pointer (some ⟨ga, 0, none⟩), .pointer (some ⟨gb, 0, none⟩)]] w fun e w' => ∃ v, e = .returned v ∧ Kd.R k65 65 w' w0.heap.size (fun _ => True) v (xs.filter (fun x => !dropB a b x)) ∧ Below w0.heap.size w0 w' := by
 have hsa := World.block_lt_of_cell? w0 _ ha;have hsb := World.block_lt_of_cell? w0 _ hb;have HI := Aside0.mk (dropIdx.calls a b ga gb A c xs w (Kd.R_reads' hO).2.2 (by omega) ((hB.cell (p := ⟨ga, 0, none⟩) hsa).trans ha) ((hB.cell (p := ⟨gb, 0, none⟩) hsb).trans hb));have HO := Aside0.mk hO;have HB := Aside0.mk hB;have HC := Aside0.mk (fun (y : S65) (W : World) (hW : Below w0.heap.size w0 W) => dropEq.calls y a b ga gb W ((hW.cell (p := ⟨ga, 0, none⟩) hsa).trans ha) ((hW.cell (p := ⟨gb, 0, none⟩) hsb).trans hb));clear hO hB ha hb hsa hsb
 rcases dropIdx_spec a b xs with ⟨e1, hall⟩ | ⟨m, hm, e1, hfil⟩
 ·rw [e1] at HI
  rw [hall]
  clear e1 hall HC
  go_enter Try.func105, Try.ntmps105
  go_wp2_with (go_at_call 136; refine HI.out.mono ?_; rintro e w1 ⟨rfl, hb'⟩)
  go_ret;exact ⟨_, rfl, Kd.R_below HO.out hb', below_step HB.out hb'⟩
 ·rw [e1] at HI
  obtain ⟨g, c', eA, hbg, hlg, _⟩ := Kd.R_form HO.out (by omega)
  obtain ⟨rfl, rfl⟩ : A = some ⟨g, 0, none⟩ ∧ c = c' := by injection eA with h1 h2 h3; exact ⟨h1, h3⟩
  clear eA e1 hlg;have GB := Aside0.mk hbg;clear hbg;have hne1 : ((m : Int) == -1) = false := beq_eq_false_iff_ne.2 (by omega)
  have hm1 : wrap64 ((m : Int) + 1) = ((m + 1 : Nat) : Int) := by unfold wrap64; omega
  have HT := Aside0.mk (Kd.R_mono (ok' := fun k_ => k_ = g) (Kd.R_tight rfl HO.out) (fun k_ hk => by simpa [Value.ownBlock] using hk));have HF := Aside0.mk hfil;have HL := Aside0.mk hbig;clear HO hfil hbig
  go_enter Try.func105, Try.ntmps105
  go_wp2_with (go_at_call 136; refine HI.out.mono ?_; rintro e w1 ⟨rfl, hb'⟩; have HT1 := Aside0.mk (Kd.R_below HT.out hb'); have HB1 := Aside0.mk (below_step HB.out hb'); clear HT HB; clear hb')
  go_loopg [5, 6] xs.length (fun gg s5 s6 wr => ∃ (i j : Nat) (ys : List (S65)), s5 = .int .i64 i ∧ s6 = .int .i64 j ∧ j ≤ xs.length ∧ xs.length - j ≤ gg ∧ Aside0 (Kd.R k65 65 wr w0.heap.size (fun k_ => k_ = g) (.slice (some ⟨g, 0, none⟩) xs.length c) ys) ∧ Aside0 (Below w0.heap.size w0 wr) ∧ Aside0 (DelInv a b xs i j ys))
  case atStart => exact ⟨m, m + 1, xs, rfl, by go_num, by omega, by omega, HT1, HB1, ⟨⟨rfl, Nat.lt_succ_self _, HF.out.symm, rfl⟩⟩⟩
  case round =>
   clear HT1 HB1 HI hm1 hne1;obtain ⟨i, j, ys, rfl, rfl, hjn, hgg, HR, HB, HD⟩ := hrel;have hL := HL.out;have hij := HD.out.lt;have hyl := HD.out.len
   by_cases hlt : j < xs.length
   ·have hltz : (j : Int) < (xs.length : Int) := by omega
    have h0z : (0 : Int) ≤ (j : Int) := by omega
    obtain ⟨ce, hcl, hM, hcc, hfr⟩ := Kd.R_elem HR.out z65 (j : Int) h0z hltz;obtain rfl := k65_openM hM;have hj0 : wr.cell? ⟨g, j * 4, none⟩ = some (.int .i64 (rd_T65 ys (j : Int)).f0) := hcc 0 _ rfl;have hj1 : wr.cell? ⟨g, j * 4 + 1, none⟩ = some (.int .i64 (rd_T65 ys (j : Int)).f1) := hcc 1 _ rfl;have hj2 : wr.cell? ⟨g, j * 4 + 2, none⟩ = some (.int .i64 (rd_T65 ys (j : Int)).f2) := hcc 2 _ rfl;have hj3 : wr.cell? ⟨g, j * 4 + 3, none⟩ = some (.int .i64 (rd_T65 ys (j : Int)).f3) := hcc 3 _ rfl;clear hcl hM hcc hfr
    generalize hy : rd_T65 ys (j : Int) = y at hj0 hj1 hj2 hj3
    have Y := Aside0.mk hy;clear hy
    cases hq : dropB a b y with
    | false =>
     go_wp2_with (first
      | ((with_reducible refine gate_dst (N := 7) rfl ?_); refine box_event ?hg (N := 7) ?hd (cs := #[.int .i64 0, .int .i64 0, .int .i64 0, .int .i64 0]) (t := 65) ?hr ?_; (case hd => rfl); (case hg => rfl); (case hr => first | (go_simp; done) | (go_simp; rfl)); intro ge hge w1 hbox hb; have NE := Aside0.mk (show g ≠ ge from by have h_ := Kd.R_lt HR.out g rfl; omega); have GE := Aside0.mk (show w0.heap.size ≤ ge from by have h_ := HB.out.size; omega); have HR1 := Aside0.mk (Kd.R_below HR.out hb); have HB1 := Aside0.mk (below_step HB.out hb); have BK := Aside0.mk hbox; replace hj0 := (hb.cell (p := ⟨g, j * 4, none⟩) (World.block_lt_of_cell? _ _ hj0)).trans hj0; replace hj1 := (hb.cell (p := ⟨g, j * 4 + 1, none⟩) (World.block_lt_of_cell? _ _ hj1)).trans hj1; replace hj2 := (hb.cell (p := ⟨g, j * 4 + 2, none⟩) (World.block_lt_of_cell? _ _ hj2)).trans hj2; replace hj3 := (hb.cell (p := ⟨g, j * 4 + 3, none⟩) (World.block_lt_of_cell? _ _ hj3)).trans hj3; have hc0 : w1.cell? ⟨ge, 0, none⟩ = some (.int .i64 0) := (blk_cell hbox 0).trans rfl; have hc1 : w1.cell? ⟨ge, 1, none⟩ = some (.int .i64 0) := (blk_cell hbox 1).trans rfl; have hc2 : w1.cell? ⟨ge, 2, none⟩ = some (.int .i64 0) := (blk_cell hbox 2).trans rfl; have hc3 : w1.cell? ⟨ge, 3, none⟩ = some (.int .i64 0) := (blk_cell hbox 3).trans rfl; have hf0 := blk_frozen hbox 0; have hf1 := blk_frozen hbox 1; have hf2 := blk_frozen hbox 2; have hf3 := blk_frozen hbox 3; clear hb hbox hge)
      | (go_at_call 107; refine (HC.out y _ ?hbw).mono ?_; (case hbw => exact (by with_reducible repeat (first | exact HB1.out | refine below_set ?_ GE.out))); rw [hq]; rintro e w2 ⟨rfl, hb⟩; have HR2 := Aside0.mk (show Kd.R k65 65 w2 w0.heap.size (fun k_ => k_ = g) (.slice (some ⟨g, 0, none⟩) xs.length c) ys from Kd.R_below (by repeat (first | with_reducible exact HR1.out | (with_reducible refine Kd.R_far (p := ⟨ge, _, none⟩) ?_ (fun k_ hk => by rw [hk]; exact NE.out) _))) hb); have HB2 := Aside0.mk (below_step (by with_reducible repeat (first | exact HB1.out | refine below_set ?_ GE.out)) hb); have BK2 := Aside0.mk (blk_below (g := ge) (o := .cells #[.int .i64 y.f0, .int .i64 y.f1, .int .i64 y.f2, .int .i64 y.f3] 65 (0, 0)) (by (with_reducible repeat (first | apply blk_drewN | apply blk_drew | apply blk_alloc)); refine blk_put (cs := #[.int .i64 y.f0, .int .i64 y.f1, .int .i64 y.f2, .int .i64 0]) ?_ 3 _ rfl; refine blk_put (cs := #[.int .i64 y.f0, .int .i64 y.f1, .int .i64 0, .int .i64 0]) ?_ 2 _ rfl; refine blk_put (cs := #[.int .i64 y.f0, .int .i64 0, .int .i64 0, .int .i64 0]) ?_ 1 _ rfl; refine blk_put (cs := #[.int .i64 0, .int .i64 0, .int .i64 0, .int .i64 0]) ?_ 0 _ rfl; exact BK.out) hb); clear HB1 HR1; clear hj0 hj1 hj2 hj3 hc0 hc1 hc2 hc3 hf0 hf1 hf2 hf3; clear hb; have hv0 : w2.cell? ⟨ge, 0, none⟩ = some (.int .i64 y.f0) := (blk_cell BK2.out 0).trans rfl; have hv1 : w2.cell? ⟨ge, 1, none⟩ = some (.int .i64 y.f1) := (blk_cell BK2.out 1).trans rfl; have hv2 : w2.cell? ⟨ge, 2, none⟩ = some (.int .i64 y.f2) := (blk_cell BK2.out 2).trans rfl; have hv3 : w2.cell? ⟨ge, 3, none⟩ = some (.int .i64 y.f3) := (blk_cell BK2.out 3).trans rfl; have hiz : (i : Int) < (xs.length : Int) := (by omega); have hi0z : (0 : Int) ≤ (i : Int) := (by omega); have hiN : i < xs.length := (by omega); obtain ⟨ce, hcl, hM, hcc, hfr⟩ := Kd.R_elem HR2.out z65 (i : Int) hi0z hiz; obtain rfl := k65_openM hM; have HP := Aside0.mk (Kd.R_seg HR2.out (i : Int) hi0z hiz (seg := [.int .i64 y.f0, .int .i64 y.f1, .int .i64 y.f2, .int .i64 y.f3]) (j := 0) hcl hcc (show 4 ≤ 4 from by decide) (x' := y) (k65_mkM _ _ _ y) (fun _ hk => hk)).1; have hx0 : w2.cell? ⟨g, i * 4, none⟩ = some (.int .i64 (rd_T65 ys (i : Int)).f0) := hcc 0 _ rfl; have hx1 : w2.cell? ⟨g, i * 4 + 1, none⟩ = some (.int .i64 (rd_T65 ys (i : Int)).f1) := hcc 1 _ rfl; have hx2 : w2.cell? ⟨g, i * 4 + 2, none⟩ = some (.int .i64 (rd_T65 ys (i : Int)).f2) := hcc 2 _ rfl; have hx3 : w2.cell? ⟨g, i * 4 + 3, none⟩ = some (.int .i64 (rd_T65 ys (i : Int)).f3) := hcc 3 _ rfl; have hg0 : w2.frozen? ⟨g, i * 4, none⟩ = false := hfr 0; have hg1 : w2.frozen? ⟨g, i * 4 + 1, none⟩ = false := hfr 1; have hg2 : w2.frozen? ⟨g, i * 4 + 2, none⟩ = false := hfr 2; have hg3 : w2.frozen? ⟨g, i * 4 + 3, none⟩ = false := hfr 3; clear hcl hM hcc hfr)
      | ((with_reducible refine gate_store (t := 65) (p := 33) rfl ?_); refine store_event (t := 65) (p := 33) (v := ?vo_) (w1 := ((((w2.setCell ⟨g, i * 4, none⟩ (.int .i64 y.f0)).setCell ⟨g, i * 4 + 1, none⟩ (.int .i64 y.f1)).setCell ⟨g, i * 4 + 2, none⟩ (.int .i64 y.f2)).setCell ⟨g, i * 4 + 3, none⟩ (.int .i64 y.f3))) ?hg ?ho ?hn ?hr ?_; (case ho => rfl); (case hg => rfl); (case hn => rfl); (case hr => first | (go_simp; done) | (go_simp; rfl)); intro w3 hw; have HR3 := Aside0.mk (show Kd.R k65 65 w3 w0.heap.size (fun k_ => k_ = g) (.slice (some ⟨g, 0, none⟩) xs.length c) (ys.set i y) from by rw [hw]; exact HP.out); have HB3 := Aside0.mk (show Below w0.heap.size w0 w3 from by rw [hw]; exact below_set (below_set (below_set (below_set HB2.out GB.out) GB.out) GB.out) GB.out); clear HP HR2 HB2; clear hx0 hx1 hx2 hx3 hg0 hg1 hg2 hg3 hv0 hv1 hv2 hv3 hw))
     go_roundg (xs.length - (j + 1))
     case measure => omega
     case rel => exact ⟨i + 1, j + 1, _, by go_num, by go_num, by omega, by omega, HR3, HB3, ⟨by have := HD.out.keep hlt (by rw [Y.out]; exact hq); rw [Y.out] at this; exact this⟩⟩
    | true =>
     go_wp2_with (first
      | ((with_reducible refine gate_dst (N := 7) rfl ?_); refine box_event ?hg (N := 7) ?hd (cs := #[.int .i64 0, .int .i64 0, .int .i64 0, .int .i64 0]) (t := 65) ?hr ?_; (case hd => rfl); (case hg => rfl); (case hr => first | (go_simp; done) | (go_simp; rfl)); intro ge hge w1 hbox hb; have NE := Aside0.mk (show g ≠ ge from by have h_ := Kd.R_lt HR.out g rfl; omega); have GE := Aside0.mk (show w0.heap.size ≤ ge from by have h_ := HB.out.size; omega); have HR1 := Aside0.mk (Kd.R_below HR.out hb); have HB1 := Aside0.mk (below_step HB.out hb); have BK := Aside0.mk hbox; replace hj0 := (hb.cell (p := ⟨g, j * 4, none⟩) (World.block_lt_of_cell? _ _ hj0)).trans hj0; replace hj1 := (hb.cell (p := ⟨g, j * 4 + 1, none⟩) (World.block_lt_of_cell? _ _ hj1)).trans hj1; replace hj2 := (hb.cell (p := ⟨g, j * 4 + 2, none⟩) (World.block_lt_of_cell? _ _ hj2)).trans hj2; replace hj3 := (hb.cell (p := ⟨g, j * 4 + 3, none⟩) (World.block_lt_of_cell? _ _ hj3)).trans hj3; have hc0 : w1.cell? ⟨ge, 0, none⟩ = some (.int .i64 0) := (blk_cell hbox 0).trans rfl; have hc1 : w1.cell? ⟨ge, 1, none⟩ = some (.int .i64 0) := (blk_cell hbox 1).trans rfl; have hc2 : w1.cell? ⟨ge, 2, none⟩ = some (.int .i64 0) := (blk_cell hbox 2).trans rfl; have hc3 : w1.cell? ⟨ge, 3, none⟩ = some (.int .i64 0) := (blk_cell hbox 3).trans rfl; have hf0 := blk_frozen hbox 0; have hf1 := blk_frozen hbox 1; have hf2 := blk_frozen hbox 2; have hf3 := blk_frozen hbox 3; clear hb hbox hge)
      | (go_at_call 107; refine (HC.out y _ ?hbw).mono ?_; (case hbw => exact (by with_reducible repeat (first | exact HB1.out | refine below_set ?_ GE.out))); rw [hq]; rintro e w2 ⟨rfl, hb⟩; have HR2 := Aside0.mk (show Kd.R k65 65 w2 w0.heap.size (fun k_ => k_ = g) (.slice (some ⟨g, 0, none⟩) xs.length c) ys from Kd.R_below (by repeat (first | with_reducible exact HR1.out | (with_reducible refine Kd.R_far (p := ⟨ge, _, none⟩) ?_ (fun k_ hk => by rw [hk]; exact NE.out) _))) hb); have HB2 := Aside0.mk (below_step (by with_reducible repeat (first | exact HB1.out | refine below_set ?_ GE.out)) hb); have BK2 := Aside0.mk (blk_below (g := ge) (o := .cells #[.int .i64 y.f0, .int .i64 y.f1, .int .i64 y.f2, .int .i64 y.f3] 65 (0, 0)) (by (with_reducible repeat (first | apply blk_drewN | apply blk_drew | apply blk_alloc)); refine blk_put (cs := #[.int .i64 y.f0, .int .i64 y.f1, .int .i64 y.f2, .int .i64 0]) ?_ 3 _ rfl; refine blk_put (cs := #[.int .i64 y.f0, .int .i64 y.f1, .int .i64 0, .int .i64 0]) ?_ 2 _ rfl; refine blk_put (cs := #[.int .i64 y.f0, .int .i64 0, .int .i64 0, .int .i64 0]) ?_ 1 _ rfl; refine blk_put (cs := #[.int .i64 0, .int .i64 0, .int .i64 0, .int .i64 0]) ?_ 0 _ rfl; exact BK.out) hb); clear HB1 HR1; clear hj0 hj1 hj2 hj3 hc0 hc1 hc2 hc3 hf0 hf1 hf2 hf3; clear hb))
     go_roundg (xs.length - (j + 1))
     case measure => omega
     case rel => exact ⟨i, j + 1, ys, rfl, by go_num, by omega, by omega, HR2, HB2, ⟨HD.out.skip hlt (by rw [Y.out]; exact hq)⟩⟩
   ·obtain rfl : j = xs.length := by omega
    have hltz : ¬ (xs.length : Int) < (xs.length : Int) := by omega
    have hiz : (i : Int) ≤ (xs.length : Int) := by omega
    have hroom := (Kd.R_reads' HR.out).2.1;obtain ⟨i0, hi0, _, hsz, _⟩ := info_parts info65;have hcut := cut_from (P := Try.prog) 61 65 .i64 Try.underlying61 hi0 4 hsz (some ⟨g, 0, none⟩) xs.length c (i : Int) (by omega) hiz;have hcut2 := cut_to (P := Try.prog) 61 65 .i64 Try.underlying61 hi0 (some ⟨g, 0, none⟩) xs.length c (i : Int) (by omega) hiz hroom
    rw [if_neg (show ¬ c = ((i : Int)).toNat by omega), show (some (⟨g, 0, none⟩ : Addr)).map (·.add (((i : Int)).toNat * 4)) = some ⟨g, i * 4, none⟩ from by rw [Int.toNat_natCast]; exact congrArg some (by unfold Addr.add; split <;> simp_all), Int.toNat_natCast] at hcut
    rw [Int.toNat_natCast] at hcut2
    have hclr := clear_run HR.out hyl i (xs.length - i) (by omega) (by omega) (c - i);obtain ⟨zs, hz, hzl, hzt⟩ := clear_rows (xs.length - i) i wr ys (by omega) hyl HR.out;have HZ := Aside0.mk (Kd.R_mono (ok' := fun _ => True) (Kd.R_take hz (m := i) (by omega)) (fun _ _ => trivial));have HZB := Aside0.mk (below_cells GB.out (List.replicate ((xs.length - i) * 4) (Value.int .i64 0)) (i * 4) wr HB.out);have HE : Aside0 (zs.take i = xs.filter (fun x => !dropB a b x)) := ⟨by rw [hzt, HD.out.low, List.take_length]⟩;clear hz hzl hzt hi0 hsz hroom hyl HB
    go_wp2
    go_ret;exact ⟨_, rfl, by rw [← HE.out]; exact HZ.out, HZB.out⟩
set_option maxHeartbeats 1000000 in
/-- slices.Clone of routes. -/
theorem dropClone.calls (A0 : Option Addr) (c0 : Nat) (l0 : List (S65)) (w : World) (hr0 : Kd.C k65 w A0 l0.length l0) (hbig : l0.length ≤ 1099511627776) :
  Calls Try.prog 106 #[.slice A0 l0.length c0] w fun e w' => ∃ v, e = .returned v ∧ Kd.R k65 65 w' w.heap.size (fun _ => True) v l0 ∧ Below w.heap.size w w' := by
 cases A0 with
 | none =>
  have h0 : l0 = [] := by
   cases l0 with
   | nil => rfl
   | cons x xs =>
    obtain ⟨ad, e, _⟩ := at_T65 hr0 0 (by omega) (by simp only [List.length_cons]; omega)
    cases e
  subst h0
  clear hr0 hbig;simp only [List.length_nil];have he : ∀ w, (binOp .eql 61 (.slice none 0 c0) (.slice none 0 0)).run Try.prog w = .ok (.bool true) w := fun w => Lib.run_eql_slice_nil w _ _ none 0 c0 0 0 Try.underlying61
  go_enter Try.func106, Try.ntmps106
  go_wp2
  go_ret;exact ⟨_, rfl, Kd.R_nil _ _ _ _ _, Below.refl _ _⟩
 | some ad =>
  have he : ∀ w, (binOp .eql 61 (.slice (some ad) l0.length c0) (.slice none 0 0)).run Try.prog w = .ok (.bool false) w := fun w => Lib.run_eql_slice_nil w _ _ (some ad) _ c0 0 0 Try.underlying61;have HR := Aside0.mk hr0;have HL := Aside0.mk hbig;clear hr0 hbig
  go_enter Try.func106, Try.ntmps106
  go_wp2_with (first
   | ((with_reducible refine gate_dst (N := 5) rfl ?_); refine Kd.R_lit k65 _ 65 ?hg (N := 5) ?hd (xs := ([] : List (S65))) (inner := []) (ok := fun _ => True) (okp := fun _ => True) ?hr ?hp (fun _ hk => hk) trivial (Below.refl _ _) (Nat.le_refl _) (by simp) ?_; (case hd => rfl); (case hg => rfl); (case hr => first | (go_simp; done) | (go_simp; rfl)); (case hp => exact (Reps.none _ _)); intro v1 w1 ho5 hb hg_ hnew_; have HV := Aside0.mk ho5; have HB := Aside0.mk hb; clear ho5 hb hg_ hnew_)
   | ((with_reducible refine gate_builtin (b := .append) (xs := #[.tmp 5, .tmp 6]) rfl ?_); at_builtin; refine Kd.R_append_rows k65 (w0 := w) w.heap.size rfl (.tmp 5) (.tmp 6) 61 65 (.agg #[(.int .i64 0), (.int .i64 0), (.int .i64 0), (.int .i64 0)]) 32 rfl Try.underlying61 info65 rfl (by decide) (by omega) v1 [] l0 _ _ _ (fun _ => True) (fun _ => False) rfl rfl HV.out (Kd.C_below HR.out HB.out) (fun _ _ h => h) (fun _ h => h.elim) (fun _ _ => trivial) HB.out HB.out.size (by have h_ := HL.out; simp only [List.length_nil]; omega) ?_; intro v2 w2 ho hb1 hg hat; rw [List.nil_append] at ho; have HO := Aside0.mk ho; have HB2 := Aside0.mk hb1; clear ho hb1 hg hat; clear HV HB))
  go_ret;exact ⟨_, rfl, HO.out, HB2.out⟩
def impl_RouteDrop.f (k : Nat) (l0 : List (S65)) (a1 : Int) (a2 : Int) : Option ((List (S65)) × Bool) := (impl_RoutesOk.f k l0).bind fun t => if t = true then (if l0.length ≤ 1099511627776 then some (l0.filter (fun x => !dropB a1 a2 x), decide ((l0.filter (fun x => !dropB a1 a2 x)).length < l0.length)) else none) else some ([], false)
theorem impl_RouteDrop.mono : ∀ a0 a1 a2 k, LeO (impl_RouteDrop.f k a0 a1 a2) (impl_RouteDrop.f (k + 1) a0 a1 a2) := by
 intro a0 a1 a2 k
 unfold impl_RouteDrop.f
 exact LeO.bind (impl_RoutesOk.mono _ _) (fun _ => LeO.refl _)
set_option maxHeartbeats 2000000 in
set_option maxRecDepth 100000 in
theorem impl_RouteDrop.calls (k : Nat) (A0 : Option Addr) (c0 : Nat) (l0 : List (S65)) (a1 : Int) (a2 : Int) (r1 : List (S65)) (r2 : Bool) (w : World) (hr0 : Kd.C k65 w A0 l0.length l0) (hc0 : l0.length ≤ c0) (h : impl_RouteDrop.f k l0 a1 a2 = some (r1, r2)) :
  Calls Try.prog 56 #[.slice A0 l0.length c0, .int .i64 a1, .int .i64 a2] w fun e w' => ∃ v0_ : Value, e = .returned (.tuple #[v0_, .bool r2]) ∧ Kd.R k65 65 w' w.heap.size (fun _ => True) v0_ r1 ∧ Below w.heap.size w w' := by
 unfold impl_RouteDrop.f at h
 replace h := Option.bind_eq_some_iff.mp h;obtain ⟨t, hok, h⟩ := h;have HR := Aside0.mk hr0;have HC := Aside0.mk hc0;have OK := Aside0.mk hok;have HB := Aside0.mk (Below.refl w.heap.size w);clear hr0 hc0 hok
 cases t with
 | false =>
  rw [if_neg (by decide)] at h
  obtain ⟨rfl, rfl⟩ := Prod.mk.inj (Option.some.inj h);clear h
  go_enter Try.func56, Try.ntmps56
  go_wp2_with (first
   | ((with_reducible refine gate_dst (N := 4) rfl ?_); refine box_event ?hg (N := 4) ?hd (cs := #[.int .i64 a1]) (t := 3) ?hr ?_; (case hd => rfl); (case hg => rfl); (case hr => first | (go_simp; done) | (go_simp; rfl)); intro ga hga w1 hbox hb; have XA1 := Aside0.mk (show w1.cell? ⟨ga, 0, none⟩ = some (.int .i64 a1) from (blk_cell hbox 0).trans rfl); have HB1 := Aside0.mk (below_step HB.out hb); clear HB; clear hb hbox hga)
   | ((with_reducible refine gate_dst (N := 5) rfl ?_); refine box_event ?hg (N := 5) ?hd (cs := #[.int .i64 a2]) (t := 3) ?hr ?_; (case hd => rfl); (case hg => rfl); (case hr => first | (go_simp; done) | (go_simp; rfl)); intro gb hgb w2 hbox hb; have XB2 := Aside0.mk (show w2.cell? ⟨gb, 0, none⟩ = some (.int .i64 a2) from (blk_cell hbox 0).trans rfl); have XA2 := Aside0.mk ((hb.cell (p := ⟨ga, 0, none⟩) (World.block_lt_of_cell? _ _ XA1.out)).trans XA1.out); have HB2 := Aside0.mk (below_step HB1.out hb); clear HB1 XA1; clear hb hbox hgb)
   | (go_at_call 37; refine (impl_RoutesOk.calls k A0 c0 l0 false _ (Kd.C_below HR.out HB2.out) HC.out OK.out).mono ?_; rintro e w3 ⟨rfl, hb⟩; have HB3 := Aside0.mk (below_step HB2.out hb); clear HB2; clear hb))
  go_ret2
  exact ⟨_, rfl, Kd.R_nil _ _ _ _ _, HB3.out⟩
 | true =>
  rw [if_pos rfl] at h
  by_cases hbig : l0.length ≤ 1099511627776
  ·rw [if_pos hbig] at h
   obtain ⟨rfl, rfl⟩ := Prod.mk.inj (Option.some.inj h);clear h;have HL := Aside0.mk hbig;have HF := Aside0.mk (Nat.le_trans (List.length_filter_le (fun x => !dropB a1 a2 x) l0) hbig);clear hbig
   generalize hF : l0.filter (fun x => !dropB a1 a2 x) = F at HF
   have EF := Aside0.mk hF;clear hF
   go_enter Try.func56, Try.ntmps56
   go_wp2_with (first
    | ((with_reducible refine gate_dst (N := 4) rfl ?_); refine box_event ?hg (N := 4) ?hd (cs := #[.int .i64 a1]) (t := 3) ?hr ?_; (case hd => rfl); (case hg => rfl); (case hr => first | (go_simp; done) | (go_simp; rfl)); intro ga hga w1 hbox hb; have XA1 := Aside0.mk (show w1.cell? ⟨ga, 0, none⟩ = some (.int .i64 a1) from (blk_cell hbox 0).trans rfl); have HB1 := Aside0.mk (below_step HB.out hb); clear HB; clear hb hbox hga)
    | ((with_reducible refine gate_dst (N := 5) rfl ?_); refine box_event ?hg (N := 5) ?hd (cs := #[.int .i64 a2]) (t := 3) ?hr ?_; (case hd => rfl); (case hg => rfl); (case hr => first | (go_simp; done) | (go_simp; rfl)); intro gb hgb w2 hbox hb; have XB2 := Aside0.mk (show w2.cell? ⟨gb, 0, none⟩ = some (.int .i64 a2) from (blk_cell hbox 0).trans rfl); have XA2 := Aside0.mk ((hb.cell (p := ⟨ga, 0, none⟩) (World.block_lt_of_cell? _ _ XA1.out)).trans XA1.out); have HB2 := Aside0.mk (below_step HB1.out hb); clear HB1 XA1; clear hb hbox hgb)
    | (go_at_call 37; refine (impl_RoutesOk.calls k A0 c0 l0 true _ (Kd.C_below HR.out HB2.out) HC.out OK.out).mono ?_; rintro e w3 ⟨rfl, hb⟩; have HB3 := Aside0.mk (below_step HB2.out hb); have XA3 := Aside0.mk ((hb.cell (p := ⟨ga, 0, none⟩) (World.block_lt_of_cell? _ _ XA2.out)).trans XA2.out); have XB3 := Aside0.mk ((hb.cell (p := ⟨gb, 0, none⟩) (World.block_lt_of_cell? _ _ XB2.out)).trans XB2.out); clear HB2 XA2 XB2; clear hb)
    | (go_at_call 106; refine (dropClone.calls A0 c0 l0 w3 (Kd.C_below HR.out HB3.out) HL.out).mono ?_; rintro e w4 ⟨v4, rfl, hO4, hb⟩; obtain ⟨A4, c4, e4⟩ := Kd.R_slice hO4; subst e4; have HO4 := Aside0.mk hO4; have HB4 := Aside0.mk hb; clear hO4 hb)
    | (go_at_call 105; refine (dropDel.calls a1 a2 ga gb A4 c4 l0 w3 w4 HO4.out HB4.out HL.out XA3.out XB3.out).mono ?_; rintro e w5 ⟨v5, rfl, hO5, hb⟩; rw [EF.out] at hO5; obtain ⟨A5, c5, e5⟩ := Kd.R_slice hO5; subst e5; have HO5 := Aside0.mk hO5; have HB5 := Aside0.mk (below_step HB3.out hb); clear hO5 hb; clear HO4 HB4 XA3 XB3)
    | (go_at_call 101; refine (impl_Route_101.calls A5 c5 F F w5 (Kd.R_reads' HO5.out).2.2 (Kd.R_reads' HO5.out).2.1 (by unfold impl_Route_101.f; exact if_pos HF.out)).mono ?_; rintro e w6 ⟨v6, rfl, hO6, hb⟩; have HO6 := Aside0.mk (Kd.R_lower hO6 HB5.out.size); have HB6 := Aside0.mk (below_step HB5.out hb); clear hO6 hb; clear HB5))
   go_ret2
   exact ⟨_, rfl, HO6.out, HB6.out⟩
  ·rw [if_neg hbig] at h; cases h

/-! ### laws_FnExactRouteDrop: function 11 -/
mutual
def laws_FnExactRouteDrop.j0 : Nat → List (S125) → Int → Int → List (S65) → Bool → List (S65) → List (S65) → Bool → Bool → Option (Bool)
 | 0, _, _, _, _, _, _, _, _, _ => none
 | k + 1, x0, x1, x2, x8, x9, x10, x11, x12, x48 => if x48 = true then (some false) else ((laws_toRouteS.f k x0).bind fun t199 => ((laws_eqRouteS.f k x10 t199).bind fun t202 => (if t202 = true then ((laws_markRouteS.f k x10 1).bind fun bt203 => (if bt203.1 < 0 then (laws_FnExactRouteDrop.j1 k x0 x1 x2 x8 x9 x11 true) else ((laws_eqRouteS.f k x11 x8).bind fun t205 => (if t205 = true then (laws_FnExactRouteDrop.j1 k x0 x1 x2 x8 x9 x11 (x12 != x9)) else (laws_FnExactRouteDrop.j1 k x0 x1 x2 x8 x9 x11 true))))) else (some false))))
def laws_FnExactRouteDrop.j1 : Nat → List (S125) → Int → Int → List (S65) → Bool → List (S65) → Bool → Option (Bool)
 | 0, _, _, _, _, _, _, _ => none
 | k + 1, x0, x1, x2, x8, x9, x11, x69 => if x69 = true then (some false) else ((laws_markRouteS.f k x11 1).bind fun bt206 => ((laws_heldRouteS.f k bt206.2 1).bind fun t208 => (if t208 < 0 then (some false) else (if t208 = bt206.1 then ((laws_toRouteS.f k x0).bind fun t209 => ((impl_RouteDrop.f k t209 x1 x2).bind fun bt212 => ((laws_eqRouteS.f k bt212.1 x8).bind fun t216 => (if t216 = true then (laws_FnExactRouteDrop.j2 k bt206.2 bt206.1 (bt212.2 != x9)) else (laws_FnExactRouteDrop.j2 k bt206.2 bt206.1 true))))) else (some false)))))
def laws_FnExactRouteDrop.j2 : Nat → List (S65) → Int → Bool → Option (Bool)
 | 0, _, _, _ => none
 | k + 1, x11, x14, x97 => if x97 = true then (some false) else ((laws_heldRouteS.f k x11 1).bind fun t217 => (if t217 < 0 then (some false) else (if t217 = x14 then (some true) else (some false))))
end
def laws_FnExactRouteDrop.f (k : Nat) (l0 : List (S125)) (a1 : Int) (a2 : Int) : Option (Bool) := (laws_szRouteS.f l0 1048576).bind fun t183 => (if t183 < 0 then (some true) else ((laws_toRouteS.f k l0).bind fun t184 => ((spec_RouteDrop.f k t184 a1 a2).bind fun bt187 => ((laws_toRouteS.f k l0).bind fun t191 => ((impl_RouteDrop.f k t191 a1 a2).bind fun bt194 => ((laws_eqRouteS.f k bt194.1 bt187.1).bind fun t198 => (if t198 = true then (laws_FnExactRouteDrop.j0 k l0 a1 a2 bt187.1 bt187.2 t191 bt194.1 bt194.2 (bt194.2 != bt187.2)) else (laws_FnExactRouteDrop.j0 k l0 a1 a2 bt187.1 bt187.2 t191 bt194.1 bt194.2 true))))))))
theorem laws_FnExactRouteDrop.mono_l : ∀ k, (∀ y0 y1 y2 y3 y4 y5 y6 y7 y8, LeO (laws_FnExactRouteDrop.j0 k y0 y1 y2 y3 y4 y5 y6 y7 y8) (laws_FnExactRouteDrop.j0 (k + 1) y0 y1 y2 y3 y4 y5 y6 y7 y8)) ∧ (∀ y0 y1 y2 y3 y4 y5 y6, LeO (laws_FnExactRouteDrop.j1 k y0 y1 y2 y3 y4 y5 y6) (laws_FnExactRouteDrop.j1 (k + 1) y0 y1 y2 y3 y4 y5 y6)) ∧ (∀ y0 y1 y2, LeO (laws_FnExactRouteDrop.j2 k y0 y1 y2) (laws_FnExactRouteDrop.j2 (k + 1) y0 y1 y2))
 | 0 => ⟨fun _ _ _ _ _ _ _ _ _ r h => by simp [laws_FnExactRouteDrop.j0] at h, fun _ _ _ _ _ _ _ r h => by simp [laws_FnExactRouteDrop.j1] at h, fun _ _ _ r h => by simp [laws_FnExactRouteDrop.j2] at h⟩
 | k + 1 => by
  obtain ⟨ih0, ih1, ih2⟩ := laws_FnExactRouteDrop.mono_l k;refine ⟨?_, ?_, ?_⟩
  ·intro y0 y1 y2 y3 y4 y5 y6 y7 y8
   unfold laws_FnExactRouteDrop.j0
   repeat' first
   | (with_reducible exact ih0 _ _ _ _ _ _ _ _ _)
   | (with_reducible exact ih1 _ _ _ _ _ _ _)
   | (with_reducible exact ih2 _ _ _)
   | (with_reducible exact impl_RouteDrop.mono _ _ _ _)
   | (with_reducible exact laws_eqRouteS.mono _ _ _)
   | (with_reducible exact laws_heldRouteS.mono _ _ _)
   | (with_reducible exact laws_markRouteS.mono _ _ _)
   | (with_reducible exact laws_toRouteS.mono _ _)
   | (with_reducible exact spec_RouteDrop.mono _ _ _ _)
   | (with_reducible exact LeO.refl _)
   | (with_reducible exact LeO.none _)
   | (with_reducible refine LeO.ite ?_ ?_)
   | (with_reducible refine LeO.bind ?_ (fun _ => ?_))
   | exact ih0 _ _ _ _ _ _ _ _ _
   | exact ih1 _ _ _ _ _ _ _
   | exact ih2 _ _ _
   | exact impl_RouteDrop.mono _ _ _ _
   | exact laws_eqRouteS.mono _ _ _
   | exact laws_heldRouteS.mono _ _ _
   | exact laws_markRouteS.mono _ _ _
   | exact laws_toRouteS.mono _ _
   | exact spec_RouteDrop.mono _ _ _ _
   | exact LeO.none _
   | refine LeO.ite ?_ ?_
   | refine LeO.bind ?_ (fun _ => ?_)
  ·intro y0 y1 y2 y3 y4 y5 y6
   unfold laws_FnExactRouteDrop.j1
   repeat' first
   | (with_reducible exact ih0 _ _ _ _ _ _ _ _ _)
   | (with_reducible exact ih1 _ _ _ _ _ _ _)
   | (with_reducible exact ih2 _ _ _)
   | (with_reducible exact impl_RouteDrop.mono _ _ _ _)
   | (with_reducible exact laws_eqRouteS.mono _ _ _)
   | (with_reducible exact laws_heldRouteS.mono _ _ _)
   | (with_reducible exact laws_markRouteS.mono _ _ _)
   | (with_reducible exact laws_toRouteS.mono _ _)
   | (with_reducible exact spec_RouteDrop.mono _ _ _ _)
   | (with_reducible exact LeO.refl _)
   | (with_reducible exact LeO.none _)
   | (with_reducible refine LeO.ite ?_ ?_)
   | (with_reducible refine LeO.bind ?_ (fun _ => ?_))
   | exact ih0 _ _ _ _ _ _ _ _ _
   | exact ih1 _ _ _ _ _ _ _
   | exact ih2 _ _ _
   | exact impl_RouteDrop.mono _ _ _ _
   | exact laws_eqRouteS.mono _ _ _
   | exact laws_heldRouteS.mono _ _ _
   | exact laws_markRouteS.mono _ _ _
   | exact laws_toRouteS.mono _ _
   | exact spec_RouteDrop.mono _ _ _ _
   | exact LeO.none _
   | refine LeO.ite ?_ ?_
   | refine LeO.bind ?_ (fun _ => ?_)
  ·intro y0 y1 y2
   unfold laws_FnExactRouteDrop.j2
   repeat' first
   | (with_reducible exact ih0 _ _ _ _ _ _ _ _ _)
   | (with_reducible exact ih1 _ _ _ _ _ _ _)
   | (with_reducible exact ih2 _ _ _)
   | (with_reducible exact impl_RouteDrop.mono _ _ _ _)
   | (with_reducible exact laws_eqRouteS.mono _ _ _)
   | (with_reducible exact laws_heldRouteS.mono _ _ _)
   | (with_reducible exact laws_markRouteS.mono _ _ _)
   | (with_reducible exact laws_toRouteS.mono _ _)
   | (with_reducible exact spec_RouteDrop.mono _ _ _ _)
   | (with_reducible exact LeO.refl _)
   | (with_reducible exact LeO.none _)
   | (with_reducible refine LeO.ite ?_ ?_)
   | (with_reducible refine LeO.bind ?_ (fun _ => ?_))
   | exact ih0 _ _ _ _ _ _ _ _ _
   | exact ih1 _ _ _ _ _ _ _
   | exact ih2 _ _ _
   | exact impl_RouteDrop.mono _ _ _ _
   | exact laws_eqRouteS.mono _ _ _
   | exact laws_heldRouteS.mono _ _ _
   | exact laws_markRouteS.mono _ _ _
   | exact laws_toRouteS.mono _ _
   | exact spec_RouteDrop.mono _ _ _ _
   | exact LeO.none _
   | refine LeO.ite ?_ ?_
   | refine LeO.bind ?_ (fun _ => ?_)
theorem laws_FnExactRouteDrop.mono : ∀ a0 a1 a2 k, LeO (laws_FnExactRouteDrop.f k a0 a1 a2) (laws_FnExactRouteDrop.f (k + 1) a0 a1 a2) := by
 intro a0 a1 a2 k;obtain ⟨ih0, ih1, ih2⟩ := laws_FnExactRouteDrop.mono_l k
 unfold laws_FnExactRouteDrop.f
 repeat' first
   | (with_reducible exact ih0 _ _ _ _ _ _ _ _ _)
   | (with_reducible exact ih1 _ _ _ _ _ _ _)
   | (with_reducible exact ih2 _ _ _)
   | (with_reducible exact impl_RouteDrop.mono _ _ _ _)
   | (with_reducible exact laws_eqRouteS.mono _ _ _)
   | (with_reducible exact laws_heldRouteS.mono _ _ _)
   | (with_reducible exact laws_markRouteS.mono _ _ _)
   | (with_reducible exact laws_toRouteS.mono _ _)
   | (with_reducible exact spec_RouteDrop.mono _ _ _ _)
   | (with_reducible exact LeO.refl _)
   | (with_reducible exact LeO.none _)
   | (with_reducible refine LeO.ite ?_ ?_)
   | (with_reducible refine LeO.bind ?_ (fun _ => ?_))
   | exact ih0 _ _ _ _ _ _ _ _ _
   | exact ih1 _ _ _ _ _ _ _
   | exact ih2 _ _ _
   | exact impl_RouteDrop.mono _ _ _ _
   | exact laws_eqRouteS.mono _ _ _
   | exact laws_heldRouteS.mono _ _ _
   | exact laws_markRouteS.mono _ _ _
   | exact laws_toRouteS.mono _ _
   | exact spec_RouteDrop.mono _ _ _ _
   | exact LeO.none _
   | refine LeO.ite ?_ ?_
   | refine LeO.bind ?_ (fun _ => ?_)
set_option maxHeartbeats 8000000 in
set_option maxRecDepth 100000 in
theorem laws_FnExactRouteDrop.calls (k : Nat) (A0 : Option Addr) (c0 : Nat) (l0 : List (S125)) (a1 : Int) (a2 : Int) (r : Bool) (w : World) (hr0 : Kd.C k125 w A0 l0.length l0) (hc0 : l0.length ≤ c0) (h : laws_FnExactRouteDrop.f k l0 a1 a2 = some r) :
  Calls Try.prog 11 #[.slice A0 l0.length c0, .int .i64 a1, .int .i64 a2] w fun e w' => e = .returned (.bool r) ∧ Below w.heap.size w w' := by
 have HR0 := Aside0.mk hr0;have HC0 := Aside0.mk hc0;clear hr0 hc0;have HB := Aside0.mk (Below.refl w.heap.size w);have H : ((laws_szRouteS.f l0 1048576).bind fun t183 => (if t183 < 0 then (some true) else ((laws_toRouteS.f k l0).bind fun t184 => ((spec_RouteDrop.f k t184 a1 a2).bind fun bt187 => ((laws_toRouteS.f k l0).bind fun t191 => ((impl_RouteDrop.f k t191 a1 a2).bind fun bt194 => ((laws_eqRouteS.f k bt194.1 bt187.1).bind fun t198 => (if t198 = true then (laws_FnExactRouteDrop.j0 k l0 a1 a2 bt187.1 bt187.2 t191 bt194.1 bt194.2 (bt194.2 != bt187.2)) else (laws_FnExactRouteDrop.j0 k l0 a1 a2 bt187.1 bt187.2 t191 bt194.1 bt194.2 true))))))))) = some r := h;clear h;replace H := ze H;obtain ⟨t183, A40, H⟩ := H;replace H : (if t183 < 0 then (some true) else ((laws_toRouteS.f k l0).bind fun t184 => ((spec_RouteDrop.f k t184 a1 a2).bind fun bt187 => ((laws_toRouteS.f k l0).bind fun t191 => ((impl_RouteDrop.f k t191 a1 a2).bind fun bt194 => ((laws_eqRouteS.f k bt194.1 bt187.1).bind fun t198 => (if t198 = true then (laws_FnExactRouteDrop.j0 k l0 a1 a2 bt187.1 bt187.2 t191 bt194.1 bt194.2 (bt194.2 != bt187.2)) else (laws_FnExactRouteDrop.j0 k l0 a1 a2 bt187.1 bt187.2 t191 bt194.1 bt194.2 true)))))))) = some r := H;have A4 := Aside0.mk A40;clear A40
 by_cases c5 : t183 < 0
 ·rw [if_pos c5] at H
  have c5b0 : decide (t183 < 0) = true := decide_eq_true c5;clear c5;obtain rfl := Option.some.inj H
  go_enter Try.func11, Try.ntmps11
  go_wp2_with (first | ((with_reducible refine gate_callee (f := 45) rfl ?_); refine goesL_ (some 20) rfl rfl Try.func45 (by kernel_rfl) rfl #[.slice A0 l0.length c0, .int .i64 1048576] rfl (by (try simp only [zm]); first | done | rfl | (simp only [zl]; rfl)) ?_; (with_reducible refine (laws_szRouteS.calls _ _ l0 1048576 t183 _ ?side1 ?side2 A4.out).mono ?_); (case side1 => repeat (first | exact HR0.out | (with_reducible first | refine Kd.C_alloc ?_ _ | refine Kd.C_drewN ?_ _ | refine Kd.C_drew ?_))); (case side2 => exact HC0.out); rintro e w' ⟨rfl, ⟨nd, rfl⟩⟩; refine ⟨_, rfl, ?_⟩))
  go_ret;exact ⟨by first | rfl | (simp <;> rfl) | (simp [*] <;> rfl), by repeat (first | (with_reducible first | exact HB.out | apply below_alloc | apply pw_below_drewN | apply below_drew1) | exact HB.out)⟩
 ·rw [if_neg c5] at H
  have c5b0 : decide (t183 < 0) = false := decide_eq_false c5;clear c5;replace H := ze H;obtain ⟨t184, A60, H⟩ := H;replace H : ((spec_RouteDrop.f k t184 a1 a2).bind fun bt187 => ((laws_toRouteS.f k l0).bind fun t191 => ((impl_RouteDrop.f k t191 a1 a2).bind fun bt194 => ((laws_eqRouteS.f k bt194.1 bt187.1).bind fun t198 => (if t198 = true then (laws_FnExactRouteDrop.j0 k l0 a1 a2 bt187.1 bt187.2 t191 bt194.1 bt194.2 (bt194.2 != bt187.2)) else (laws_FnExactRouteDrop.j0 k l0 a1 a2 bt187.1 bt187.2 t191 bt194.1 bt194.2 true)))))) = some r := H;have A6 := Aside0.mk A60;clear A60;replace H := ze H;obtain ⟨⟨t187, t188⟩, A70, H⟩ := H;replace H : ((laws_toRouteS.f k l0).bind fun t191 => ((impl_RouteDrop.f k t191 a1 a2).bind fun bt194 => ((laws_eqRouteS.f k bt194.1 t187).bind fun t198 => (if t198 = true then (laws_FnExactRouteDrop.j0 k l0 a1 a2 t187 t188 t191 bt194.1 bt194.2 (bt194.2 != t188)) else (laws_FnExactRouteDrop.j0 k l0 a1 a2 t187 t188 t191 bt194.1 bt194.2 true))))) = some r := H;have A7 := Aside0.mk A70;clear A70;replace H := ze H;obtain ⟨t191, A80, H⟩ := H;replace H : ((impl_RouteDrop.f k t191 a1 a2).bind fun bt194 => ((laws_eqRouteS.f k bt194.1 t187).bind fun t198 => (if t198 = true then (laws_FnExactRouteDrop.j0 k l0 a1 a2 t187 t188 t191 bt194.1 bt194.2 (bt194.2 != t188)) else (laws_FnExactRouteDrop.j0 k l0 a1 a2 t187 t188 t191 bt194.1 bt194.2 true)))) = some r := H;have A8 := Aside0.mk A80;clear A80;replace H := ze H;obtain ⟨⟨t194, t195⟩, A90, H⟩ := H;replace H : ((laws_eqRouteS.f k t194 t187).bind fun t198 => (if t198 = true then (laws_FnExactRouteDrop.j0 k l0 a1 a2 t187 t188 t191 t194 t195 (t195 != t188)) else (laws_FnExactRouteDrop.j0 k l0 a1 a2 t187 t188 t191 t194 t195 true))) = some r := H;have A9 := Aside0.mk A90;clear A90;have HC10 := Aside0.mk H;clear H
  go_enter Try.func11, Try.ntmps11
  go_upto_region 8 with (first | ((with_reducible refine gate_callee (f := 45) rfl ?_); refine goesL_ (some 20) rfl rfl Try.func45 (by kernel_rfl) rfl #[.slice A0 l0.length c0, .int .i64 1048576] rfl (by (try simp only [zm]); first | done | rfl | (simp only [zl]; rfl)) ?_; (with_reducible refine (laws_szRouteS.calls _ _ l0 1048576 t183 _ ?side1 ?side2 A4.out).mono ?_); (case side1 => repeat (first | exact HR0.out | (with_reducible first | refine Kd.C_alloc ?_ _ | refine Kd.C_drewN ?_ _ | refine Kd.C_drew ?_))); (case side2 => exact HC0.out); rintro e w' ⟨rfl, ⟨nd, rfl⟩⟩; refine ⟨_, rfl, ?_⟩) | ((with_reducible refine gate_callee (f := 47) rfl ?_); refine goesL_ (some 25) rfl rfl Try.func47 (by kernel_rfl) rfl #[.slice A0 l0.length c0] rfl (by (try simp only [zm]); first | done | rfl | (simp only [zl]; rfl)) ?_; (with_reducible refine (laws_toRouteS.calls k _ _ l0 t184 _ ?side1 ?side2 A6.out).mono ?_); (case side1 => repeat (first | exact HR0.out | (with_reducible first | refine Kd.C_alloc ?_ _ | refine Kd.C_drewN ?_ _ | refine Kd.C_drew ?_))); (case side2 => exact HC0.out); rintro e w11 ⟨v185, rfl, ho0, hb⟩; refine ⟨_, rfl, ?_⟩; have n0_ := Aside0.mk (Kd.R_lower ho0 (below_size (by repeat (first | (with_reducible first | exact HB.out | apply below_alloc | apply pw_below_drewN | apply below_drew1) | exact HB.out)))); have n1_ := Aside0.mk (below_step (by repeat (first | (with_reducible first | exact HB.out | apply below_alloc | apply pw_below_drewN | apply below_drew1) | exact HB.out)) hb); clear HB; have HO186 := n0_; have HB := n1_; clear n0_ n1_; (try clear hb); (try clear hb2); (try clear hk); (try clear hi); (try clear ho0); obtain ⟨Ao12, co12, eo12⟩ := Kd.R_slice HO186.out; subst eo12) | ((with_reducible refine gate_callee (f := 55) rfl ?_); refine goesL_ (some 28) rfl rfl Try.func55 (by kernel_rfl) rfl #[.slice Ao12 t184.length co12, .int .i64 a1, .int .i64 a2] rfl (by (try simp only [zm]); first | done | rfl | (simp only [zl]; rfl)) ?_; (with_reducible refine (spec_RouteDrop.calls k _ _ t184 a1 a2 t187 t188 _ ?side1 ?side2 A7.out).mono ?_); (case side1 => repeat (first | exact (Kd.R_reads' HO186.out).2.2 | (with_reducible first | refine Kd.C_alloc ?_ _ | refine Kd.C_drewN ?_ _ | refine Kd.C_drew ?_))); (case side2 => exact (Kd.R_reads' HO186.out).2.1); rintro e w13 ⟨v189, rfl, ho0, hb⟩; refine ⟨_, rfl, ?_⟩; have n0_ := Aside0.mk (Kd.R_elder' (by (with_reducible repeat (first | apply Kd.R_alloc | apply Kd.R_drewN | apply Kd.R_drew)); exact HO186.out) (Kd.R_base ho0) hb); have n1_ := Aside0.mk (Kd.R_lower (Kd.R_new' ho0 (Kd.R_lt (by (with_reducible repeat (first | apply Kd.R_alloc | apply Kd.R_drewN | apply Kd.R_drew)); exact HO186.out))) (below_size (by repeat (first | (with_reducible first | exact HB.out | apply below_alloc | apply pw_below_drewN | apply below_drew1) | exact HB.out)))); have n2_ := Aside0.mk (below_step (by repeat (first | (with_reducible first | exact HB.out | apply below_alloc | apply pw_below_drewN | apply below_drew1) | exact HB.out)) hb); clear HO186; clear HB; have HO186 := n0_; have HO190 := n1_; have HB := n2_; clear n0_ n1_ n2_; (try clear hb); (try clear hb2); (try clear hk); (try clear hi); (try clear ho0)) | ((with_reducible refine gate_callee (f := 47) rfl ?_); refine goesL_ (some 32) rfl rfl Try.func47 (by kernel_rfl) rfl #[.slice A0 l0.length c0] rfl (by (try simp only [zm]); first | done | rfl | (simp only [zl]; rfl)) ?_; (with_reducible refine (laws_toRouteS.calls k _ _ l0 t191 _ ?side1 ?side2 A8.out).mono ?_); (case side1 => repeat (first | exact (Kd.C_below HR0.out HB.out) | (with_reducible first | refine Kd.C_alloc ?_ _ | refine Kd.C_drewN ?_ _ | refine Kd.C_drew ?_))); (case side2 => exact HC0.out); rintro e w14 ⟨v192, rfl, ho0, hb⟩; refine ⟨_, rfl, ?_⟩; have n0_ := Aside0.mk (Kd.R_elder' (by (with_reducible repeat (first | apply Kd.R_alloc | apply Kd.R_drewN | apply Kd.R_drew)); exact HO186.out) (Kd.R_base ho0) hb); have n1_ := Aside0.mk (Kd.R_elder' (by (with_reducible repeat (first | apply Kd.R_alloc | apply Kd.R_drewN | apply Kd.R_drew)); exact HO190.out) (Kd.R_base ho0) hb); have n2_ := Aside0.mk (Kd.R_lower (Kd.R_new' (Kd.R_new' ho0 (Kd.R_lt (by (with_reducible repeat (first | apply Kd.R_alloc | apply Kd.R_drewN | apply Kd.R_drew)); exact HO186.out))) (Kd.R_lt (by (with_reducible repeat (first | apply Kd.R_alloc | apply Kd.R_drewN | apply Kd.R_drew)); exact HO190.out))) (below_size (by repeat (first | (with_reducible first | exact HB.out | apply below_alloc | apply pw_below_drewN | apply below_drew1) | exact HB.out)))); have n3_ := Aside0.mk (below_step (by repeat (first | (with_reducible first | exact HB.out | apply below_alloc | apply pw_below_drewN | apply below_drew1) | exact HB.out)) hb); clear HO186; clear HO190; clear HB; have HO186 := n0_; have HO190 := n1_; have HO193 := n2_; have HB := n3_; clear n0_ n1_ n2_ n3_; (try clear hb); (try clear hb2); (try clear hk); (try clear hi); (try clear ho0); obtain ⟨Ao15, co15, eo15⟩ := Kd.R_slice HO193.out; subst eo15) | ((with_reducible refine gate_callee (f := 56) rfl ?_); refine goesL_ (some 37) rfl rfl Try.func56 (by kernel_rfl) rfl #[.slice Ao15 t191.length co15, .int .i64 a1, .int .i64 a2] rfl (by (try simp only [zm]); first | done | rfl | (simp only [zl]; rfl)) ?_; (with_reducible refine (impl_RouteDrop.calls k _ _ t191 a1 a2 t194 t195 _ ?side1 ?side2 A9.out).mono ?_); (case side1 => repeat (first | exact (Kd.R_reads' HO193.out).2.2 | (with_reducible first | refine Kd.C_alloc ?_ _ | refine Kd.C_drewN ?_ _ | refine Kd.C_drew ?_))); (case side2 => exact (Kd.R_reads' HO193.out).2.1); rintro e w16 ⟨v196, rfl, ho0, hb⟩; refine ⟨_, rfl, ?_⟩; have n0_ := Aside0.mk (Kd.R_elder' (by (with_reducible repeat (first | apply Kd.R_alloc | apply Kd.R_drewN | apply Kd.R_drew)); exact HO186.out) (Kd.R_base ho0) hb); have n1_ := Aside0.mk (Kd.R_elder' (by (with_reducible repeat (first | apply Kd.R_alloc | apply Kd.R_drewN | apply Kd.R_drew)); exact HO190.out) (Kd.R_base ho0) hb); have n2_ := Aside0.mk (Kd.R_elder' (by (with_reducible repeat (first | apply Kd.R_alloc | apply Kd.R_drewN | apply Kd.R_drew)); exact HO193.out) (Kd.R_base ho0) hb); have n3_ := Aside0.mk (Kd.R_lower (Kd.R_new' (Kd.R_new' (Kd.R_new' ho0 (Kd.R_lt (by (with_reducible repeat (first | apply Kd.R_alloc | apply Kd.R_drewN | apply Kd.R_drew)); exact HO186.out))) (Kd.R_lt (by (with_reducible repeat (first | apply Kd.R_alloc | apply Kd.R_drewN | apply Kd.R_drew)); exact HO190.out))) (Kd.R_lt (by (with_reducible repeat (first | apply Kd.R_alloc | apply Kd.R_drewN | apply Kd.R_drew)); exact HO193.out))) (below_size (by repeat (first | (with_reducible first | exact HB.out | apply below_alloc | apply pw_below_drewN | apply below_drew1) | exact HB.out)))); have n4_ := Aside0.mk (below_step (by repeat (first | (with_reducible first | exact HB.out | apply below_alloc | apply pw_below_drewN | apply below_drew1) | exact HB.out)) hb); clear HO186; clear HO190; clear HO193; clear HB; have HO186 := n0_; have HO190 := n1_; have HO193 := n2_; have HO197 := n3_; have HB := n4_; clear n0_ n1_ n2_ n3_ n4_; (try clear hb); (try clear hb2); (try clear hk); (try clear hi); (try clear ho0)))
  (try simp only [Act.put, List.setIfInBounds_toArray, List.set_cons_zero, List.set_cons_succ])
  go_cut [48] (fun v48 wc => ∃ (kq : Nat) (x48_9 : Bool), v48 = .bool x48_9 ∧ Aside0 (laws_FnExactRouteDrop.j0 kq l0 a1 a2 t187 t188 t191 t194 t195 x48_9 = some r) ∧ Aside0 (kq ≤ k) ∧ Aside0 (Kd.R k65 65 wc w.heap.size (fun k_ => some k_ ≠ ((.slice Ao15 t191.length co15) : Value).ownBlock ∧ some k_ ≠ (v196 : Value).ownBlock) v189 t187) ∧ Aside0 (Kd.R k65 65 wc w.heap.size (fun k_ => some k_ ≠ (v189 : Value).ownBlock ∧ some k_ ≠ (v196 : Value).ownBlock) (.slice Ao15 t191.length co15) t191) ∧ Aside0 (Kd.R k65 65 wc w.heap.size (fun k_ => some k_ ≠ (v189 : Value).ownBlock ∧ some k_ ≠ ((.slice Ao15 t191.length co15) : Value).ownBlock) v196 t194) ∧ Aside0 (Below w.heap.size w wc))
  case first =>
   have H := HC10.out;clear HC10;replace H := ze H;obtain ⟨t198, A170, H⟩ := H;replace H : (if t198 = true then (laws_FnExactRouteDrop.j0 k l0 a1 a2 t187 t188 t191 t194 t195 (t195 != t188)) else (laws_FnExactRouteDrop.j0 k l0 a1 a2 t187 t188 t191 t194 t195 true)) = some r := H;have A17 := Aside0.mk A170;clear A170
   by_cases c18 : t198 = true
   ·subst c18
    have H1 : (laws_FnExactRouteDrop.j0 k l0 a1 a2 t187 t188 t191 t194 t195 (t195 != t188)) = some r := by rw [if_pos rfl] at H; exact H
    clear H;have H := H1;clear H1;have H' := Aside0.mk H;clear H;obtain ⟨Ao19, co19, eo19⟩ := Kd.R_slice HO197.out
    subst eo19
    obtain ⟨Ao20, co20, eo20⟩ := Kd.R_slice HO190.out
    subst eo20
    go_wp2_with (first | ((with_reducible refine gate_callee (f := 49) rfl ?_); refine goesL_ (some 42) rfl rfl Try.func49 (by kernel_rfl) rfl #[.slice Ao19 t194.length co19, .slice Ao20 t187.length co20] rfl (by (try simp only [zm]); first | done | rfl | (simp only [zl]; rfl)) ?_; (with_reducible refine (laws_eqRouteS.calls k _ _ t194 _ _ t187 true _ ?side1 ?side2 ?side3 ?side4 A17.out).mono ?_); (case side1 => repeat (first | exact (Kd.R_reads' HO197.out).2.2 | (with_reducible first | refine Kd.C_alloc ?_ _ | refine Kd.C_drewN ?_ _ | refine Kd.C_drew ?_))); (case side2 => exact (Kd.R_reads' HO197.out).2.1); (case side3 => repeat (first | exact (Kd.R_reads' HO190.out).2.2 | (with_reducible first | refine Kd.C_alloc ?_ _ | refine Kd.C_drewN ?_ _ | refine Kd.C_drew ?_))); (case side4 => exact (Kd.R_reads' HO190.out).2.1); rintro e w21 ⟨rfl, hb⟩; refine ⟨_, rfl, ?_⟩; have n0_ := Aside0.mk (Kd.R_below (by (with_reducible repeat (first | apply Kd.R_alloc | apply Kd.R_drewN | apply Kd.R_drew)); exact HO186.out) hb); have n1_ := Aside0.mk (Kd.R_below (by (with_reducible repeat (first | apply Kd.R_alloc | apply Kd.R_drewN | apply Kd.R_drew)); exact HO190.out) hb); have n2_ := Aside0.mk (Kd.R_below (by (with_reducible repeat (first | apply Kd.R_alloc | apply Kd.R_drewN | apply Kd.R_drew)); exact HO193.out) hb); have n3_ := Aside0.mk (Kd.R_below (by (with_reducible repeat (first | apply Kd.R_alloc | apply Kd.R_drewN | apply Kd.R_drew)); exact HO197.out) hb); have n4_ := Aside0.mk (below_step (by repeat (first | (with_reducible first | exact HB.out | apply below_alloc | apply pw_below_drewN | apply below_drew1) | exact HB.out)) hb); clear HO186; clear HO190; clear HO193; clear HO197; clear HB; have HO186 := n0_; have HO190 := n1_; have HO193 := n2_; have HO197 := n3_; have HB := n4_; clear n0_ n1_ n2_ n3_ n4_; (try clear hb); (try clear hb2); (try clear hk); (try clear hi)))
    go_meet
    case rel => exact ⟨_, ((t195 != t188)), (by first | rfl | (simp; done) | (simp [*]; done)), H', ⟨by first | omega | exact Nat.le_refl _⟩, ⟨by (with_reducible repeat (first | apply Kd.R_alloc | apply Kd.R_drewN | apply Kd.R_drew)); exact Kd.R_mono HO190.out (fun _ hk => ⟨hk.1.2, hk.2⟩)⟩, ⟨by (with_reducible repeat (first | apply Kd.R_alloc | apply Kd.R_drewN | apply Kd.R_drew)); exact Kd.R_mono HO193.out (fun _ hk => ⟨hk.1.2, hk.2⟩)⟩, ⟨by (with_reducible repeat (first | apply Kd.R_alloc | apply Kd.R_drewN | apply Kd.R_drew)); exact Kd.R_mono HO197.out (fun _ hk => ⟨hk.1.2, hk.2⟩)⟩, ⟨by repeat (first | (with_reducible first | exact HB.out | apply below_alloc | apply pw_below_drewN | apply below_drew1) | exact HB.out)⟩⟩
   ·replace c18 := Bool.eq_false_iff.mpr c18
    subst c18
    have H1 : (laws_FnExactRouteDrop.j0 k l0 a1 a2 t187 t188 t191 t194 t195 true) = some r := by rw [if_neg (show ¬ (false = true) by decide)] at H; exact H
    clear H;have H := H1;clear H1;have H' := Aside0.mk H;clear H;obtain ⟨Ao22, co22, eo22⟩ := Kd.R_slice HO197.out
    subst eo22
    obtain ⟨Ao23, co23, eo23⟩ := Kd.R_slice HO190.out
    subst eo23
    go_wp2_with (first | ((with_reducible refine gate_callee (f := 49) rfl ?_); refine goesL_ (some 42) rfl rfl Try.func49 (by kernel_rfl) rfl #[.slice Ao22 t194.length co22, .slice Ao23 t187.length co23] rfl (by (try simp only [zm]); first | done | rfl | (simp only [zl]; rfl)) ?_; (with_reducible refine (laws_eqRouteS.calls k _ _ t194 _ _ t187 false _ ?side1 ?side2 ?side3 ?side4 A17.out).mono ?_); (case side1 => repeat (first | exact (Kd.R_reads' HO197.out).2.2 | (with_reducible first | refine Kd.C_alloc ?_ _ | refine Kd.C_drewN ?_ _ | refine Kd.C_drew ?_))); (case side2 => exact (Kd.R_reads' HO197.out).2.1); (case side3 => repeat (first | exact (Kd.R_reads' HO190.out).2.2 | (with_reducible first | refine Kd.C_alloc ?_ _ | refine Kd.C_drewN ?_ _ | refine Kd.C_drew ?_))); (case side4 => exact (Kd.R_reads' HO190.out).2.1); rintro e w24 ⟨rfl, hb⟩; refine ⟨_, rfl, ?_⟩; have n0_ := Aside0.mk (Kd.R_below (by (with_reducible repeat (first | apply Kd.R_alloc | apply Kd.R_drewN | apply Kd.R_drew)); exact HO186.out) hb); have n1_ := Aside0.mk (Kd.R_below (by (with_reducible repeat (first | apply Kd.R_alloc | apply Kd.R_drewN | apply Kd.R_drew)); exact HO190.out) hb); have n2_ := Aside0.mk (Kd.R_below (by (with_reducible repeat (first | apply Kd.R_alloc | apply Kd.R_drewN | apply Kd.R_drew)); exact HO193.out) hb); have n3_ := Aside0.mk (Kd.R_below (by (with_reducible repeat (first | apply Kd.R_alloc | apply Kd.R_drewN | apply Kd.R_drew)); exact HO197.out) hb); have n4_ := Aside0.mk (below_step (by repeat (first | (with_reducible first | exact HB.out | apply below_alloc | apply pw_below_drewN | apply below_drew1) | exact HB.out)) hb); clear HO186; clear HO190; clear HO193; clear HO197; clear HB; have HO186 := n0_; have HO190 := n1_; have HO193 := n2_; have HO197 := n3_; have HB := n4_; clear n0_ n1_ n2_ n3_ n4_; (try clear hb); (try clear hb2); (try clear hk); (try clear hi)))
    go_meet
    case rel => exact ⟨_, (true), (by first | rfl | (simp; done) | (simp [*]; done)), H', ⟨by first | omega | exact Nat.le_refl _⟩, ⟨by (with_reducible repeat (first | apply Kd.R_alloc | apply Kd.R_drewN | apply Kd.R_drew)); exact Kd.R_mono HO190.out (fun _ hk => ⟨hk.1.2, hk.2⟩)⟩, ⟨by (with_reducible repeat (first | apply Kd.R_alloc | apply Kd.R_drewN | apply Kd.R_drew)); exact Kd.R_mono HO193.out (fun _ hk => ⟨hk.1.2, hk.2⟩)⟩, ⟨by (with_reducible repeat (first | apply Kd.R_alloc | apply Kd.R_drewN | apply Kd.R_drew)); exact Kd.R_mono HO197.out (fun _ hk => ⟨hk.1.2, hk.2⟩)⟩, ⟨by repeat (first | (with_reducible first | exact HB.out | apply below_alloc | apply pw_below_drewN | apply below_drew1) | exact HB.out)⟩⟩
  case rest =>
   clear HC10
   try clear c1
   try clear p2
   try clear c4
   try clear c5
   try clear c5b0
   try clear c11
   try clear c18
   obtain ⟨kq, x48_9, rfl, HA, HJ9, HO_8, HO_10, HO_11, HB⟩ := hcut
   cases kq with
   | zero => exact absurd HA.out (by simp [laws_FnExactRouteDrop.j0])
   | succ kj9 =>
    have H := HA.out;clear HA;simp only [laws_FnExactRouteDrop.j0] at H
    by_cases c25 : x48_9 = true
    ·subst c25
     have H1 : (some false) = some r := by rw [if_pos rfl] at H; exact H
     clear H;have H := H1;clear H1;obtain rfl := Option.some.inj H
     go_wp2
     go_ret;exact ⟨by first | rfl | (simp <;> rfl) | (simp [*] <;> rfl), by repeat (first | (with_reducible first | exact HB.out | apply below_alloc | apply pw_below_drewN | apply below_drew1) | exact HB.out)⟩
    ·replace c25 := Bool.eq_false_iff.mpr c25
     subst c25
     have H1 : ((laws_toRouteS.f kj9 l0).bind fun t199 => ((laws_eqRouteS.f kj9 t191 t199).bind fun t202 => (if t202 = true then ((laws_markRouteS.f kj9 t191 1).bind fun bt203 => (if bt203.1 < 0 then (laws_FnExactRouteDrop.j1 kj9 l0 a1 a2 t187 t188 t194 true) else ((laws_eqRouteS.f kj9 t194 t187).bind fun t205 => (if t205 = true then (laws_FnExactRouteDrop.j1 kj9 l0 a1 a2 t187 t188 t194 (t195 != t188)) else (laws_FnExactRouteDrop.j1 kj9 l0 a1 a2 t187 t188 t194 true))))) else (some false)))) = some r := by rw [if_neg (show ¬ (false = true) by decide)] at H; exact H
     clear H;have H := H1;clear H1;replace H := ze H;obtain ⟨t199, A260, H⟩ := H;replace H : ((laws_eqRouteS.f kj9 t191 t199).bind fun t202 => (if t202 = true then ((laws_markRouteS.f kj9 t191 1).bind fun bt203 => (if bt203.1 < 0 then (laws_FnExactRouteDrop.j1 kj9 l0 a1 a2 t187 t188 t194 true) else ((laws_eqRouteS.f kj9 t194 t187).bind fun t205 => (if t205 = true then (laws_FnExactRouteDrop.j1 kj9 l0 a1 a2 t187 t188 t194 (t195 != t188)) else (laws_FnExactRouteDrop.j1 kj9 l0 a1 a2 t187 t188 t194 true))))) else (some false))) = some r := H;have A26 := Aside0.mk A260;clear A260;replace H := ze H;obtain ⟨t202, A270, H⟩ := H;replace H : (if t202 = true then ((laws_markRouteS.f kj9 t191 1).bind fun bt203 => (if bt203.1 < 0 then (laws_FnExactRouteDrop.j1 kj9 l0 a1 a2 t187 t188 t194 true) else ((laws_eqRouteS.f kj9 t194 t187).bind fun t205 => (if t205 = true then (laws_FnExactRouteDrop.j1 kj9 l0 a1 a2 t187 t188 t194 (t195 != t188)) else (laws_FnExactRouteDrop.j1 kj9 l0 a1 a2 t187 t188 t194 true))))) else (some false)) = some r := H;have A27 := Aside0.mk A270;clear A270
     by_cases c28 : t202 = true
     ·subst c28
      have H1 : ((laws_markRouteS.f kj9 t191 1).bind fun bt203 => (if bt203.1 < 0 then (laws_FnExactRouteDrop.j1 kj9 l0 a1 a2 t187 t188 t194 true) else ((laws_eqRouteS.f kj9 t194 t187).bind fun t205 => (if t205 = true then (laws_FnExactRouteDrop.j1 kj9 l0 a1 a2 t187 t188 t194 (t195 != t188)) else (laws_FnExactRouteDrop.j1 kj9 l0 a1 a2 t187 t188 t194 true))))) = some r := by rw [if_pos rfl] at H; exact H
      clear H;have H := H1;clear H1;replace H := ze H;obtain ⟨⟨t203, t204⟩, A290, H⟩ := H;replace H : (if t203 < 0 then (laws_FnExactRouteDrop.j1 kj9 l0 a1 a2 t187 t188 t194 true) else ((laws_eqRouteS.f kj9 t194 t187).bind fun t205 => (if t205 = true then (laws_FnExactRouteDrop.j1 kj9 l0 a1 a2 t187 t188 t194 (t195 != t188)) else (laws_FnExactRouteDrop.j1 kj9 l0 a1 a2 t187 t188 t194 true)))) = some r := H;have A29 := Aside0.mk A290;clear A290;have HC30 := Aside0.mk H;clear H
      go_upto_region 14 with (first | ((with_reducible refine gate_callee (f := 47) rfl ?_); refine goesL_ (some 51) rfl rfl Try.func47 (by kernel_rfl) rfl #[.slice A0 l0.length c0] rfl (by (try simp only [zm]); first | done | rfl | (simp only [zl]; rfl)) ?_; (with_reducible refine (laws_toRouteS.calls kj9 _ _ l0 t199 _ ?side1 ?side2 A26.out).mono ?_); (case side1 => repeat (first | exact (Kd.C_below HR0.out HB.out) | (with_reducible first | refine Kd.C_alloc ?_ _ | refine Kd.C_drewN ?_ _ | refine Kd.C_drew ?_))); (case side2 => exact HC0.out); rintro e w31 ⟨v200, rfl, ho0, hb⟩; refine ⟨_, rfl, ?_⟩; have n0_ := Aside0.mk (Kd.R_elder' (by (with_reducible repeat (first | apply Kd.R_alloc | apply Kd.R_drewN | apply Kd.R_drew)); exact HO_8.out) (Kd.R_base ho0) hb); have n1_ := Aside0.mk (Kd.R_elder' (by (with_reducible repeat (first | apply Kd.R_alloc | apply Kd.R_drewN | apply Kd.R_drew)); exact HO_10.out) (Kd.R_base ho0) hb); have n2_ := Aside0.mk (Kd.R_elder' (by (with_reducible repeat (first | apply Kd.R_alloc | apply Kd.R_drewN | apply Kd.R_drew)); exact HO_11.out) (Kd.R_base ho0) hb); have n3_ := Aside0.mk (Kd.R_lower (Kd.R_new' (Kd.R_new' (Kd.R_new' ho0 (Kd.R_lt (by (with_reducible repeat (first | apply Kd.R_alloc | apply Kd.R_drewN | apply Kd.R_drew)); exact HO_8.out))) (Kd.R_lt (by (with_reducible repeat (first | apply Kd.R_alloc | apply Kd.R_drewN | apply Kd.R_drew)); exact HO_10.out))) (Kd.R_lt (by (with_reducible repeat (first | apply Kd.R_alloc | apply Kd.R_drewN | apply Kd.R_drew)); exact HO_11.out))) (below_size (by repeat (first | (with_reducible first | exact HB.out | apply below_alloc | apply pw_below_drewN | apply below_drew1) | exact HB.out)))); have n4_ := Aside0.mk (below_step (by repeat (first | (with_reducible first | exact HB.out | apply below_alloc | apply pw_below_drewN | apply below_drew1) | exact HB.out)) hb); clear HO_8; clear HO_10; clear HO_11; clear HB; have HO_8 := n0_; have HO_10 := n1_; have HO_11 := n2_; have HO201 := n3_; have HB := n4_; clear n0_ n1_ n2_ n3_ n4_; (try clear hb); (try clear hb2); (try clear hk); (try clear hi); (try clear ho0); obtain ⟨Ao32, co32, eo32⟩ := Kd.R_slice HO201.out; subst eo32) | ((with_reducible refine gate_callee (f := 49) rfl ?_); refine goesL_ (some 52) rfl rfl Try.func49 (by kernel_rfl) rfl #[.slice Ao15 t191.length co15, .slice Ao32 t199.length co32] rfl (by (try simp only [zm]); first | done | rfl | (simp only [zl]; rfl)) ?_; (with_reducible refine (laws_eqRouteS.calls kj9 _ _ t191 _ _ t199 true _ ?side1 ?side2 ?side3 ?side4 A27.out).mono ?_); (case side1 => repeat (first | exact (Kd.R_reads' HO_10.out).2.2 | (with_reducible first | refine Kd.C_alloc ?_ _ | refine Kd.C_drewN ?_ _ | refine Kd.C_drew ?_))); (case side2 => exact (Kd.R_reads' HO_10.out).2.1); (case side3 => repeat (first | exact (Kd.R_reads' HO201.out).2.2 | (with_reducible first | refine Kd.C_alloc ?_ _ | refine Kd.C_drewN ?_ _ | refine Kd.C_drew ?_))); (case side4 => exact (Kd.R_reads' HO201.out).2.1); rintro e w33 ⟨rfl, hb⟩; refine ⟨_, rfl, ?_⟩; have n0_ := Aside0.mk (Kd.R_below (by (with_reducible repeat (first | apply Kd.R_alloc | apply Kd.R_drewN | apply Kd.R_drew)); exact HO_8.out) hb); have n1_ := Aside0.mk (Kd.R_below (by (with_reducible repeat (first | apply Kd.R_alloc | apply Kd.R_drewN | apply Kd.R_drew)); exact HO_10.out) hb); have n2_ := Aside0.mk (Kd.R_below (by (with_reducible repeat (first | apply Kd.R_alloc | apply Kd.R_drewN | apply Kd.R_drew)); exact HO_11.out) hb); have n3_ := Aside0.mk (Kd.R_below (by (with_reducible repeat (first | apply Kd.R_alloc | apply Kd.R_drewN | apply Kd.R_drew)); exact HO201.out) hb); have n4_ := Aside0.mk (below_step (by repeat (first | (with_reducible first | exact HB.out | apply below_alloc | apply pw_below_drewN | apply below_drew1) | exact HB.out)) hb); clear HO_8; clear HO_10; clear HO_11; clear HO201; clear HB; have HO_8 := n0_; have HO_10 := n1_; have HO_11 := n2_; have HO201 := n3_; have HB := n4_; clear n0_ n1_ n2_ n3_ n4_; (try clear hb); (try clear hb2); (try clear hk); (try clear hi)) | ((with_reducible refine gate_callee (f := 50) rfl ?_); refine goesL_ (some 56) rfl rfl Try.func50 (by kernel_rfl) rfl #[.slice Ao15 t191.length co15, .int .i64 1] rfl (by (try simp only [zm]); first | done | rfl | (simp only [zl]; rfl)) ?_; (with_reducible refine (laws_markRouteS.calls kj9 (fun k_ => some k_ = (.slice Ao15 t191.length co15 : Value).ownBlock) (.slice Ao15 t191.length co15) t191 1 t203 t204 w _ ?side1 ?side2 A29.out).mono ?_); (case side1 => repeat (first | (with_reducible first | exact HB.out | apply below_alloc | apply pw_below_drewN | apply below_drew1) | exact HB.out)); (case side2 => exact Kd.R_tight rfl HO_10.out); rintro e w34 ⟨rfl, hy0, hb, hkp⟩; refine ⟨_, rfl, ?_⟩; have n0_ := Aside0.mk (Kd.R_mono (ok' := fun k_ => some k_ ≠ (.slice Ao15 t191.length co15 : Value).ownBlock ∧ some k_ ≠ (v196 : Value).ownBlock ∧ some k_ ≠ (.slice Ao32 t199.length co32 : Value).ownBlock) (Kd.R_keptB (HO_8.out) hkp (fun k_ hk_ hs_ => (hk_.1.1) hs_)) (fun k_ hk_ => ⟨hk_.1.1.1, hk_.1.1.2, hk_.1.2⟩)); have n1_ := Aside0.mk (Kd.R_reok rfl hy0 (fun k_ e_ => HO_10.out.1 k_ e_)); have n2_ := Aside0.mk (Kd.R_mono (ok' := fun k_ => some k_ ≠ (v189 : Value).ownBlock ∧ some k_ ≠ (.slice Ao15 t191.length co15 : Value).ownBlock ∧ some k_ ≠ (.slice Ao32 t199.length co32 : Value).ownBlock) (Kd.R_keptB (HO_11.out) hkp (fun k_ hk_ hs_ => (hk_.1.2) hs_)) (fun k_ hk_ => ⟨hk_.1.1.1, hk_.1.1.2, hk_.1.2⟩)); have n3_ := Aside0.mk (Kd.R_mono (ok' := fun k_ => some k_ ≠ (v189 : Value).ownBlock ∧ some k_ ≠ (.slice Ao15 t191.length co15 : Value).ownBlock ∧ some k_ ≠ (v196 : Value).ownBlock) (Kd.R_keptB (HO201.out) hkp (fun k_ hk_ hs_ => (hk_.1.2) hs_)) (fun k_ hk_ => ⟨hk_.1.1.1.2, hk_.1.1.2, hk_.1.2⟩)); have n4_ := Aside0.mk (hb); clear HO_8; clear HO_10; clear HO_11; clear HO201; clear HB; have HO_8 := n0_; have HO_10 := n1_; have HO_11 := n2_; have HO201 := n3_; have HB := n4_; clear n0_ n1_ n2_ n3_ n4_; (try clear hb); (try clear hkp); (try clear hy0)))
      (try simp only [Act.put, List.setIfInBounds_toArray, List.set_cons_zero, List.set_cons_succ])
      go_cut [69] (fun v69 wc => ∃ (kq : Nat) (x69_29 : Bool), v69 = .bool x69_29 ∧ Aside0 (laws_FnExactRouteDrop.j1 kq l0 a1 a2 t187 t188 t194 x69_29 = some r) ∧ Aside0 (kq ≤ kj9) ∧ Aside0 (Kd.R k65 65 wc w.heap.size (fun k_ => some k_ ≠ (v196 : Value).ownBlock) v189 t187) ∧ Aside0 (Kd.R k65 65 wc w.heap.size (fun k_ => some k_ ≠ (v189 : Value).ownBlock) v196 t194) ∧ Aside0 (Below w.heap.size w wc))
      case first =>
       have H := HC30.out;clear HC30
       by_cases c35 : t203 < 0
       ·rw [if_pos c35] at H
        have c35b0 : decide (t203 < 0) = true := decide_eq_true c35;clear c35
        (first | rw [c35b0] | (simp only [i64_w, i32_w]; rw [c35b0]) | skip)
        have H' := Aside0.mk H;clear H
        go_wp2
        go_meet
        case rel => exact ⟨_, (true), (by first | rfl | (simp; done) | (simp [*]; done)), H', ⟨by have := HJ9.out; first | omega | exact Nat.le_refl _⟩, ⟨by (with_reducible repeat (first | apply Kd.R_alloc | apply Kd.R_drewN | apply Kd.R_drew)); exact Kd.R_mono HO_8.out (fun _ hk => hk.2.1)⟩, ⟨by (with_reducible repeat (first | apply Kd.R_alloc | apply Kd.R_drewN | apply Kd.R_drew)); exact Kd.R_mono HO_11.out (fun _ hk => hk.1)⟩, ⟨by repeat (first | (with_reducible first | exact HB.out | apply below_alloc | apply pw_below_drewN | apply below_drew1) | exact HB.out)⟩⟩
       ·rw [if_neg c35] at H
        have c35b0 : decide (t203 < 0) = false := decide_eq_false c35;clear c35
        (first | rw [c35b0] | (simp only [i64_w, i32_w]; rw [c35b0]) | skip)
        replace H := ze H;obtain ⟨t205, A360, H⟩ := H;replace H : (if t205 = true then (laws_FnExactRouteDrop.j1 kj9 l0 a1 a2 t187 t188 t194 (t195 != t188)) else (laws_FnExactRouteDrop.j1 kj9 l0 a1 a2 t187 t188 t194 true)) = some r := H;have A36 := Aside0.mk A360;clear A360
        by_cases c37 : t205 = true
        ·subst c37
         have H1 : (laws_FnExactRouteDrop.j1 kj9 l0 a1 a2 t187 t188 t194 (t195 != t188)) = some r := by rw [if_pos rfl] at H; exact H
         clear H;have H := H1;clear H1;have H' := Aside0.mk H;clear H;obtain ⟨Ao38, co38, eo38⟩ := Kd.R_slice HO_11.out
         subst eo38
         obtain ⟨Ao39, co39, eo39⟩ := Kd.R_slice HO_8.out
         subst eo39
         go_wp2_with (first | (go_at_call 49; (with_reducible refine (laws_eqRouteS.calls kj9 _ _ t194 _ _ t187 true _ ?side1 ?side2 ?side3 ?side4 A36.out).mono ?_); (case side1 => repeat (first | exact (Kd.R_reads' HO_11.out).2.2 | (with_reducible first | refine Kd.C_alloc ?_ _ | refine Kd.C_drewN ?_ _ | refine Kd.C_drew ?_))); (case side2 => exact (Kd.R_reads' HO_11.out).2.1); (case side3 => repeat (first | exact (Kd.R_reads' HO_8.out).2.2 | (with_reducible first | refine Kd.C_alloc ?_ _ | refine Kd.C_drewN ?_ _ | refine Kd.C_drew ?_))); (case side4 => exact (Kd.R_reads' HO_8.out).2.1); rintro e w40 ⟨rfl, hb⟩; have n0_ := Aside0.mk (Kd.R_below (by (with_reducible repeat (first | apply Kd.R_alloc | apply Kd.R_drewN | apply Kd.R_drew)); exact HO_8.out) hb); have n1_ := Aside0.mk (Kd.R_below (by (with_reducible repeat (first | apply Kd.R_alloc | apply Kd.R_drewN | apply Kd.R_drew)); exact HO_10.out) hb); have n2_ := Aside0.mk (Kd.R_below (by (with_reducible repeat (first | apply Kd.R_alloc | apply Kd.R_drewN | apply Kd.R_drew)); exact HO_11.out) hb); have n3_ := Aside0.mk (Kd.R_below (by (with_reducible repeat (first | apply Kd.R_alloc | apply Kd.R_drewN | apply Kd.R_drew)); exact HO201.out) hb); have n4_ := Aside0.mk (below_step (by repeat (first | (with_reducible first | exact HB.out | apply below_alloc | apply pw_below_drewN | apply below_drew1) | exact HB.out)) hb); clear HO_8; clear HO_10; clear HO_11; clear HO201; clear HB; have HO_8 := n0_; have HO_10 := n1_; have HO_11 := n2_; have HO201 := n3_; have HB := n4_; clear n0_ n1_ n2_ n3_ n4_; (try clear hb); (try clear hb2); (try clear hk); (try clear hi)))
         go_meet
         case rel => exact ⟨_, ((t195 != t188)), (by first | rfl | (simp; done) | (simp [*]; done)), H', ⟨by have := HJ9.out; first | omega | exact Nat.le_refl _⟩, ⟨by (with_reducible repeat (first | apply Kd.R_alloc | apply Kd.R_drewN | apply Kd.R_drew)); exact Kd.R_mono HO_8.out (fun _ hk => hk.2.1)⟩, ⟨by (with_reducible repeat (first | apply Kd.R_alloc | apply Kd.R_drewN | apply Kd.R_drew)); exact Kd.R_mono HO_11.out (fun _ hk => hk.1)⟩, ⟨by repeat (first | (with_reducible first | exact HB.out | apply below_alloc | apply pw_below_drewN | apply below_drew1) | exact HB.out)⟩⟩
        ·replace c37 := Bool.eq_false_iff.mpr c37
         subst c37
         have H1 : (laws_FnExactRouteDrop.j1 kj9 l0 a1 a2 t187 t188 t194 true) = some r := by rw [if_neg (show ¬ (false = true) by decide)] at H; exact H
         clear H;have H := H1;clear H1;have H' := Aside0.mk H;clear H;obtain ⟨Ao41, co41, eo41⟩ := Kd.R_slice HO_11.out
         subst eo41
         obtain ⟨Ao42, co42, eo42⟩ := Kd.R_slice HO_8.out
         subst eo42
         go_wp2_with (first | (go_at_call 49; (with_reducible refine (laws_eqRouteS.calls kj9 _ _ t194 _ _ t187 false _ ?side1 ?side2 ?side3 ?side4 A36.out).mono ?_); (case side1 => repeat (first | exact (Kd.R_reads' HO_11.out).2.2 | (with_reducible first | refine Kd.C_alloc ?_ _ | refine Kd.C_drewN ?_ _ | refine Kd.C_drew ?_))); (case side2 => exact (Kd.R_reads' HO_11.out).2.1); (case side3 => repeat (first | exact (Kd.R_reads' HO_8.out).2.2 | (with_reducible first | refine Kd.C_alloc ?_ _ | refine Kd.C_drewN ?_ _ | refine Kd.C_drew ?_))); (case side4 => exact (Kd.R_reads' HO_8.out).2.1); rintro e w43 ⟨rfl, hb⟩; have n0_ := Aside0.mk (Kd.R_below (by (with_reducible repeat (first | apply Kd.R_alloc | apply Kd.R_drewN | apply Kd.R_drew)); exact HO_8.out) hb); have n1_ := Aside0.mk (Kd.R_below (by (with_reducible repeat (first | apply Kd.R_alloc | apply Kd.R_drewN | apply Kd.R_drew)); exact HO_10.out) hb); have n2_ := Aside0.mk (Kd.R_below (by (with_reducible repeat (first | apply Kd.R_alloc | apply Kd.R_drewN | apply Kd.R_drew)); exact HO_11.out) hb); have n3_ := Aside0.mk (Kd.R_below (by (with_reducible repeat (first | apply Kd.R_alloc | apply Kd.R_drewN | apply Kd.R_drew)); exact HO201.out) hb); have n4_ := Aside0.mk (below_step (by repeat (first | (with_reducible first | exact HB.out | apply below_alloc | apply pw_below_drewN | apply below_drew1) | exact HB.out)) hb); clear HO_8; clear HO_10; clear HO_11; clear HO201; clear HB; have HO_8 := n0_; have HO_10 := n1_; have HO_11 := n2_; have HO201 := n3_; have HB := n4_; clear n0_ n1_ n2_ n3_ n4_; (try clear hb); (try clear hb2); (try clear hk); (try clear hi)))
         go_meet
         case rel => exact ⟨_, (true), (by first | rfl | (simp; done) | (simp [*]; done)), H', ⟨by have := HJ9.out; first | omega | exact Nat.le_refl _⟩, ⟨by (with_reducible repeat (first | apply Kd.R_alloc | apply Kd.R_drewN | apply Kd.R_drew)); exact Kd.R_mono HO_8.out (fun _ hk => hk.2.1)⟩, ⟨by (with_reducible repeat (first | apply Kd.R_alloc | apply Kd.R_drewN | apply Kd.R_drew)); exact Kd.R_mono HO_11.out (fun _ hk => hk.1)⟩, ⟨by repeat (first | (with_reducible first | exact HB.out | apply below_alloc | apply pw_below_drewN | apply below_drew1) | exact HB.out)⟩⟩
      case rest =>
       clear HC30
       try clear c1
       try clear c2
       try clear p2
       try clear c3
       try clear c4
       try clear c5
       try clear c5b0
       try clear c11
       try clear c18
       try clear c25
       try clear c28
       try clear c35
       try clear c35b0
       try clear c37
       try clear p2
       obtain ⟨kq, x69_29, rfl, HA, HJ29, HO_8, HO_11, HB⟩ := hcut
       cases kq with
       | zero => exact absurd HA.out (by simp [laws_FnExactRouteDrop.j1])
       | succ kj29 =>
        have H := HA.out;clear HA;simp only [laws_FnExactRouteDrop.j1] at H
        by_cases c44 : x69_29 = true
        ·subst c44
         have H1 : (some false) = some r := by rw [if_pos rfl] at H; exact H
         clear H;have H := H1;clear H1;obtain rfl := Option.some.inj H
         go_wp2
         go_ret;exact ⟨by first | rfl | (simp <;> rfl) | (simp [*] <;> rfl), by repeat (first | (with_reducible first | exact HB.out | apply below_alloc | apply pw_below_drewN | apply below_drew1) | exact HB.out)⟩
        ·replace c44 := Bool.eq_false_iff.mpr c44
         subst c44
         have H1 : ((laws_markRouteS.f kj29 t194 1).bind fun bt206 => ((laws_heldRouteS.f kj29 bt206.2 1).bind fun t208 => (if t208 < 0 then (some false) else (if t208 = bt206.1 then ((laws_toRouteS.f kj29 l0).bind fun t209 => ((impl_RouteDrop.f kj29 t209 a1 a2).bind fun bt212 => ((laws_eqRouteS.f kj29 bt212.1 t187).bind fun t216 => (if t216 = true then (laws_FnExactRouteDrop.j2 kj29 bt206.2 bt206.1 (bt212.2 != t188)) else (laws_FnExactRouteDrop.j2 kj29 bt206.2 bt206.1 true))))) else (some false))))) = some r := by rw [if_neg (show ¬ (false = true) by decide)] at H; exact H
         clear H;have H := H1;clear H1;replace H := ze H;obtain ⟨⟨t206, t207⟩, A450, H⟩ := H;replace H : ((laws_heldRouteS.f kj29 t207 1).bind fun t208 => (if t208 < 0 then (some false) else (if t208 = t206 then ((laws_toRouteS.f kj29 l0).bind fun t209 => ((impl_RouteDrop.f kj29 t209 a1 a2).bind fun bt212 => ((laws_eqRouteS.f kj29 bt212.1 t187).bind fun t216 => (if t216 = true then (laws_FnExactRouteDrop.j2 kj29 t207 t206 (bt212.2 != t188)) else (laws_FnExactRouteDrop.j2 kj29 t207 t206 true))))) else (some false)))) = some r := H;have A45 := Aside0.mk A450;clear A450;replace H := ze H;obtain ⟨t208, A460, H⟩ := H;replace H : (if t208 < 0 then (some false) else (if t208 = t206 then ((laws_toRouteS.f kj29 l0).bind fun t209 => ((impl_RouteDrop.f kj29 t209 a1 a2).bind fun bt212 => ((laws_eqRouteS.f kj29 bt212.1 t187).bind fun t216 => (if t216 = true then (laws_FnExactRouteDrop.j2 kj29 t207 t206 (bt212.2 != t188)) else (laws_FnExactRouteDrop.j2 kj29 t207 t206 true))))) else (some false))) = some r := H;have A46 := Aside0.mk A460;clear A460
         by_cases c47 : t208 < 0
         ·rw [if_pos c47] at H
          have c47b0 : decide (t208 < 0) = true := decide_eq_true c47;clear c47;obtain rfl := Option.some.inj H;obtain ⟨Ao48, co48, eo48⟩ := Kd.R_slice HO_11.out
          subst eo48
          go_wp2_with (first | ((with_reducible refine gate_callee (f := 50) rfl ?_); refine goesL_ (some 72) rfl rfl Try.func50 (by kernel_rfl) rfl #[.slice Ao48 t194.length co48, .int .i64 1] rfl (by (try simp only [zm]); first | done | rfl | (simp only [zl]; rfl)) ?_; (with_reducible refine (laws_markRouteS.calls kj29 (fun k_ => some k_ = (.slice Ao48 t194.length co48 : Value).ownBlock) (.slice Ao48 t194.length co48) t194 1 t206 t207 w _ ?side1 ?side2 A45.out).mono ?_); (case side1 => repeat (first | (with_reducible first | exact HB.out | apply below_alloc | apply pw_below_drewN | apply below_drew1) | exact HB.out)); (case side2 => exact Kd.R_tight rfl HO_11.out); rintro e w49 ⟨rfl, hy0, hb, hkp⟩; refine ⟨_, rfl, ?_⟩; have n0_ := Aside0.mk (Kd.R_mono (ok' := fun k_ => some k_ ≠ (.slice Ao48 t194.length co48 : Value).ownBlock) (Kd.R_keptB (HO_8.out) hkp (fun k_ hk_ hs_ => (hk_) hs_)) (fun k_ hk_ => hk_.1)); have n1_ := Aside0.mk (Kd.R_reok rfl hy0 (fun k_ e_ => HO_11.out.1 k_ e_)); have n2_ := Aside0.mk (hb); clear HO_8; clear HO_11; clear HB; have HO_8 := n0_; have HO_11 := n1_; have HB := n2_; clear n0_ n1_ n2_; (try clear hb); (try clear hkp); (try clear hy0)) | ((with_reducible refine gate_callee (f := 51) rfl ?_); refine goesL_ (some 75) rfl rfl Try.func51 (by kernel_rfl) rfl #[.slice Ao48 t207.length co48, .int .i64 1] rfl (by (try simp only [zm]); first | done | (rw [show t207.length = t194.length from (Kd.R_reads' HO_11.out).1.symm] <;> rfl) | rfl | (simp only [zl]; rfl)) ?_; (with_reducible refine (laws_heldRouteS.calls kj29 _ _ t207 1 t208 _ ?side1 ?side2 A46.out).mono ?_); (case side1 => repeat (first | exact (Kd.R_reads' HO_11.out).2.2 | (with_reducible first | refine Kd.C_alloc ?_ _ | refine Kd.C_drewN ?_ _ | refine Kd.C_drew ?_))); (case side2 => rw [show t207.length = t194.length from (Kd.R_reads' HO_11.out).1.symm]; exact (Kd.R_reads' HO_11.out).2.1); rintro e w' ⟨rfl, ⟨nd, rfl⟩⟩; refine ⟨_, rfl, ?_⟩))
          go_ret;exact ⟨by first | rfl | (simp <;> rfl) | (simp [*] <;> rfl), by repeat (first | (with_reducible first | exact HB.out | apply below_alloc | apply pw_below_drewN | apply below_drew1) | exact HB.out)⟩
         ·rw [if_neg c47] at H
          have c47b0 : decide (t208 < 0) = false := decide_eq_false c47;clear c47
          by_cases c50 : t208 = t206
          ·rw [if_pos c50] at H
           have c50b0 : (t208 == t206) = true := beq_iff_eq.mpr c50;have c50b1 : (t208 != t206) = false := bne_eq_false_iff_eq.mpr c50;clear c50;replace H := ze H;obtain ⟨t209, A510, H⟩ := H;replace H : ((impl_RouteDrop.f kj29 t209 a1 a2).bind fun bt212 => ((laws_eqRouteS.f kj29 bt212.1 t187).bind fun t216 => (if t216 = true then (laws_FnExactRouteDrop.j2 kj29 t207 t206 (bt212.2 != t188)) else (laws_FnExactRouteDrop.j2 kj29 t207 t206 true)))) = some r := H;have A51 := Aside0.mk A510;clear A510;replace H := ze H;obtain ⟨⟨t212, t213⟩, A520, H⟩ := H;replace H : ((laws_eqRouteS.f kj29 t212 t187).bind fun t216 => (if t216 = true then (laws_FnExactRouteDrop.j2 kj29 t207 t206 (t213 != t188)) else (laws_FnExactRouteDrop.j2 kj29 t207 t206 true))) = some r := H;have A52 := Aside0.mk A520;clear A520;have HC53 := Aside0.mk H;clear H;obtain ⟨Ao54, co54, eo54⟩ := Kd.R_slice HO_11.out
           subst eo54
           go_upto_region 25 with (first | ((with_reducible refine gate_callee (f := 50) rfl ?_); refine goesL_ (some 72) rfl rfl Try.func50 (by kernel_rfl) rfl #[.slice Ao54 t194.length co54, .int .i64 1] rfl (by (try simp only [zm]); first | done | rfl | (simp only [zl]; rfl)) ?_; (with_reducible refine (laws_markRouteS.calls kj29 (fun k_ => some k_ = (.slice Ao54 t194.length co54 : Value).ownBlock) (.slice Ao54 t194.length co54) t194 1 t206 t207 w _ ?side1 ?side2 A45.out).mono ?_); (case side1 => repeat (first | (with_reducible first | exact HB.out | apply below_alloc | apply pw_below_drewN | apply below_drew1) | exact HB.out)); (case side2 => exact Kd.R_tight rfl HO_11.out); rintro e w55 ⟨rfl, hy0, hb, hkp⟩; refine ⟨_, rfl, ?_⟩; have n0_ := Aside0.mk (Kd.R_mono (ok' := fun k_ => some k_ ≠ (.slice Ao54 t194.length co54 : Value).ownBlock) (Kd.R_keptB (HO_8.out) hkp (fun k_ hk_ hs_ => (hk_) hs_)) (fun k_ hk_ => hk_.1)); have n1_ := Aside0.mk (Kd.R_reok rfl hy0 (fun k_ e_ => HO_11.out.1 k_ e_)); have n2_ := Aside0.mk (hb); clear HO_8; clear HO_11; clear HB; have HO_8 := n0_; have HO_11 := n1_; have HB := n2_; clear n0_ n1_ n2_; (try clear hb); (try clear hkp); (try clear hy0)) | ((with_reducible refine gate_callee (f := 51) rfl ?_); refine goesL_ (some 75) rfl rfl Try.func51 (by kernel_rfl) rfl #[.slice Ao54 t207.length co54, .int .i64 1] rfl (by (try simp only [zm]); first | done | (rw [show t207.length = t194.length from (Kd.R_reads' HO_11.out).1.symm] <;> rfl) | rfl | (simp only [zl]; rfl)) ?_; (with_reducible refine (laws_heldRouteS.calls kj29 _ _ t207 1 t208 _ ?side1 ?side2 A46.out).mono ?_); (case side1 => repeat (first | exact (Kd.R_reads' HO_11.out).2.2 | (with_reducible first | refine Kd.C_alloc ?_ _ | refine Kd.C_drewN ?_ _ | refine Kd.C_drew ?_))); (case side2 => rw [show t207.length = t194.length from (Kd.R_reads' HO_11.out).1.symm]; exact (Kd.R_reads' HO_11.out).2.1); rintro e w' ⟨rfl, ⟨nd, rfl⟩⟩; refine ⟨_, rfl, ?_⟩) | ((with_reducible refine gate_callee (f := 47) rfl ?_); refine goesL_ (some 83) rfl rfl Try.func47 (by kernel_rfl) rfl #[.slice A0 l0.length c0] rfl (by (try simp only [zm]); first | done | rfl | (simp only [zl]; rfl)) ?_; (with_reducible refine (laws_toRouteS.calls kj29 _ _ l0 t209 _ ?side1 ?side2 A51.out).mono ?_); (case side1 => repeat (first | exact (Kd.C_below HR0.out (by repeat (first | (with_reducible first | exact HB.out | apply below_alloc | apply pw_below_drewN | apply below_drew1) | exact HB.out))) | (with_reducible first | refine Kd.C_alloc ?_ _ | refine Kd.C_drewN ?_ _ | refine Kd.C_drew ?_))); (case side2 => exact HC0.out); rintro e w56 ⟨v210, rfl, ho0, hb⟩; refine ⟨_, rfl, ?_⟩; have n0_ := Aside0.mk (Kd.R_elder' (by (with_reducible repeat (first | apply Kd.R_alloc | apply Kd.R_drewN | apply Kd.R_drew)); exact HO_8.out) (Kd.R_base ho0) hb); have n1_ := Aside0.mk (Kd.R_elder' (by (with_reducible repeat (first | apply Kd.R_alloc | apply Kd.R_drewN | apply Kd.R_drew)); exact HO_11.out) (Kd.R_base ho0) hb); have n2_ := Aside0.mk (Kd.R_lower (Kd.R_new' (Kd.R_new' ho0 (Kd.R_lt (by (with_reducible repeat (first | apply Kd.R_alloc | apply Kd.R_drewN | apply Kd.R_drew)); exact HO_8.out))) (Kd.R_lt (by (with_reducible repeat (first | apply Kd.R_alloc | apply Kd.R_drewN | apply Kd.R_drew)); exact HO_11.out))) (below_size (by repeat (first | (with_reducible first | exact HB.out | apply below_alloc | apply pw_below_drewN | apply below_drew1) | exact HB.out)))); have n3_ := Aside0.mk (below_step (by repeat (first | (with_reducible first | exact HB.out | apply below_alloc | apply pw_below_drewN | apply below_drew1) | exact HB.out)) hb); clear HO_8; clear HO_11; clear HB; have HO_8 := n0_; have HO_11 := n1_; have HO211 := n2_; have HB := n3_; clear n0_ n1_ n2_ n3_; (try clear hb); (try clear hb2); (try clear hk); (try clear hi); (try clear ho0); obtain ⟨Ao57, co57, eo57⟩ := Kd.R_slice HO211.out; subst eo57) | ((with_reducible refine gate_callee (f := 56) rfl ?_); refine goesL_ (some 86) rfl rfl Try.func56 (by kernel_rfl) rfl #[.slice Ao57 t209.length co57, .int .i64 a1, .int .i64 a2] rfl (by (try simp only [zm]); first | done | rfl | (simp only [zl]; rfl)) ?_; (with_reducible refine (impl_RouteDrop.calls kj29 _ _ t209 a1 a2 t212 t213 _ ?side1 ?side2 A52.out).mono ?_); (case side1 => repeat (first | exact (Kd.R_reads' HO211.out).2.2 | (with_reducible first | refine Kd.C_alloc ?_ _ | refine Kd.C_drewN ?_ _ | refine Kd.C_drew ?_))); (case side2 => exact (Kd.R_reads' HO211.out).2.1); rintro e w58 ⟨v214, rfl, ho0, hb⟩; refine ⟨_, rfl, ?_⟩; have n0_ := Aside0.mk (Kd.R_elder' (by (with_reducible repeat (first | apply Kd.R_alloc | apply Kd.R_drewN | apply Kd.R_drew)); exact HO_8.out) (Kd.R_base ho0) hb); have n1_ := Aside0.mk (Kd.R_elder' (by (with_reducible repeat (first | apply Kd.R_alloc | apply Kd.R_drewN | apply Kd.R_drew)); exact HO_11.out) (Kd.R_base ho0) hb); have n2_ := Aside0.mk (Kd.R_elder' (by (with_reducible repeat (first | apply Kd.R_alloc | apply Kd.R_drewN | apply Kd.R_drew)); exact HO211.out) (Kd.R_base ho0) hb); have n3_ := Aside0.mk (Kd.R_lower (Kd.R_new' (Kd.R_new' (Kd.R_new' ho0 (Kd.R_lt (by (with_reducible repeat (first | apply Kd.R_alloc | apply Kd.R_drewN | apply Kd.R_drew)); exact HO_8.out))) (Kd.R_lt (by (with_reducible repeat (first | apply Kd.R_alloc | apply Kd.R_drewN | apply Kd.R_drew)); exact HO_11.out))) (Kd.R_lt (by (with_reducible repeat (first | apply Kd.R_alloc | apply Kd.R_drewN | apply Kd.R_drew)); exact HO211.out))) (below_size (by repeat (first | (with_reducible first | exact HB.out | apply below_alloc | apply pw_below_drewN | apply below_drew1) | exact HB.out)))); have n4_ := Aside0.mk (below_step (by repeat (first | (with_reducible first | exact HB.out | apply below_alloc | apply pw_below_drewN | apply below_drew1) | exact HB.out)) hb); clear HO_8; clear HO_11; clear HO211; clear HB; have HO_8 := n0_; have HO_11 := n1_; have HO211 := n2_; have HO215 := n3_; have HB := n4_; clear n0_ n1_ n2_ n3_ n4_; (try clear hb); (try clear hb2); (try clear hk); (try clear hi); (try clear ho0)))
           (try simp only [Act.put, List.setIfInBounds_toArray, List.set_cons_zero, List.set_cons_succ])
           go_cut [97] (fun v97 wc => ∃ (kq : Nat) (x97_52 : Bool), v97 = .bool x97_52 ∧ Aside0 (laws_FnExactRouteDrop.j2 kq t207 t206 x97_52 = some r) ∧ Aside0 (kq ≤ kj29) ∧ Aside0 (Kd.R k65 65 wc w.heap.size (fun _ => True) (.slice Ao54 t194.length co54) t207) ∧ Aside0 (Below w.heap.size w wc))
           case first =>
            have H := HC53.out;clear HC53;replace H := ze H;obtain ⟨t216, A590, H⟩ := H;replace H : (if t216 = true then (laws_FnExactRouteDrop.j2 kj29 t207 t206 (t213 != t188)) else (laws_FnExactRouteDrop.j2 kj29 t207 t206 true)) = some r := H;have A59 := Aside0.mk A590;clear A590
            by_cases c60 : t216 = true
            ·subst c60
             have H1 : (laws_FnExactRouteDrop.j2 kj29 t207 t206 (t213 != t188)) = some r := by rw [if_pos rfl] at H; exact H
             clear H;have H := H1;clear H1;have H' := Aside0.mk H;clear H;obtain ⟨Ao61, co61, eo61⟩ := Kd.R_slice HO215.out
             subst eo61
             obtain ⟨Ao62, co62, eo62⟩ := Kd.R_slice HO_8.out
             subst eo62
             go_wp2_with (first | ((with_reducible refine gate_callee (f := 49) rfl ?_); refine goesL_ (some 91) rfl rfl Try.func49 (by kernel_rfl) rfl #[.slice Ao61 t212.length co61, .slice Ao62 t187.length co62] rfl (by (try simp only [zm]); first | done | rfl | (simp only [zl]; rfl)) ?_; (with_reducible refine (laws_eqRouteS.calls kj29 _ _ t212 _ _ t187 true _ ?side1 ?side2 ?side3 ?side4 A59.out).mono ?_); (case side1 => repeat (first | exact (Kd.R_reads' HO215.out).2.2 | (with_reducible first | refine Kd.C_alloc ?_ _ | refine Kd.C_drewN ?_ _ | refine Kd.C_drew ?_))); (case side2 => exact (Kd.R_reads' HO215.out).2.1); (case side3 => repeat (first | exact (Kd.R_reads' HO_8.out).2.2 | (with_reducible first | refine Kd.C_alloc ?_ _ | refine Kd.C_drewN ?_ _ | refine Kd.C_drew ?_))); (case side4 => exact (Kd.R_reads' HO_8.out).2.1); rintro e w63 ⟨rfl, hb⟩; refine ⟨_, rfl, ?_⟩; have n0_ := Aside0.mk (Kd.R_below (by (with_reducible repeat (first | apply Kd.R_alloc | apply Kd.R_drewN | apply Kd.R_drew)); exact HO_8.out) hb); have n1_ := Aside0.mk (Kd.R_below (by (with_reducible repeat (first | apply Kd.R_alloc | apply Kd.R_drewN | apply Kd.R_drew)); exact HO_11.out) hb); have n2_ := Aside0.mk (Kd.R_below (by (with_reducible repeat (first | apply Kd.R_alloc | apply Kd.R_drewN | apply Kd.R_drew)); exact HO211.out) hb); have n3_ := Aside0.mk (Kd.R_below (by (with_reducible repeat (first | apply Kd.R_alloc | apply Kd.R_drewN | apply Kd.R_drew)); exact HO215.out) hb); have n4_ := Aside0.mk (below_step (by repeat (first | (with_reducible first | exact HB.out | apply below_alloc | apply pw_below_drewN | apply below_drew1) | exact HB.out)) hb); clear HO_8; clear HO_11; clear HO211; clear HO215; clear HB; have HO_8 := n0_; have HO_11 := n1_; have HO211 := n2_; have HO215 := n3_; have HB := n4_; clear n0_ n1_ n2_ n3_ n4_; (try clear hb); (try clear hb2); (try clear hk); (try clear hi)))
             go_meet
             case rel => exact ⟨_, ((t213 != t188)), (by first | rfl | (simp; done) | (simp [*]; done)), H', ⟨by have := HJ9.out; have := HJ29.out; first | omega | exact Nat.le_refl _⟩, ⟨by (with_reducible repeat (first | apply Kd.R_alloc | apply Kd.R_drewN | apply Kd.R_drew)); exact Kd.R_mono HO_11.out (fun _ hk => trivial)⟩, ⟨by repeat (first | (with_reducible first | exact HB.out | apply below_alloc | apply pw_below_drewN | apply below_drew1) | exact HB.out)⟩⟩
            ·replace c60 := Bool.eq_false_iff.mpr c60
             subst c60
             have H1 : (laws_FnExactRouteDrop.j2 kj29 t207 t206 true) = some r := by rw [if_neg (show ¬ (false = true) by decide)] at H; exact H
             clear H;have H := H1;clear H1;have H' := Aside0.mk H;clear H;obtain ⟨Ao64, co64, eo64⟩ := Kd.R_slice HO215.out
             subst eo64
             obtain ⟨Ao65, co65, eo65⟩ := Kd.R_slice HO_8.out
             subst eo65
             go_wp2_with (first | ((with_reducible refine gate_callee (f := 49) rfl ?_); refine goesL_ (some 91) rfl rfl Try.func49 (by kernel_rfl) rfl #[.slice Ao64 t212.length co64, .slice Ao65 t187.length co65] rfl (by (try simp only [zm]); first | done | rfl | (simp only [zl]; rfl)) ?_; (with_reducible refine (laws_eqRouteS.calls kj29 _ _ t212 _ _ t187 false _ ?side1 ?side2 ?side3 ?side4 A59.out).mono ?_); (case side1 => repeat (first | exact (Kd.R_reads' HO215.out).2.2 | (with_reducible first | refine Kd.C_alloc ?_ _ | refine Kd.C_drewN ?_ _ | refine Kd.C_drew ?_))); (case side2 => exact (Kd.R_reads' HO215.out).2.1); (case side3 => repeat (first | exact (Kd.R_reads' HO_8.out).2.2 | (with_reducible first | refine Kd.C_alloc ?_ _ | refine Kd.C_drewN ?_ _ | refine Kd.C_drew ?_))); (case side4 => exact (Kd.R_reads' HO_8.out).2.1); rintro e w66 ⟨rfl, hb⟩; refine ⟨_, rfl, ?_⟩; have n0_ := Aside0.mk (Kd.R_below (by (with_reducible repeat (first | apply Kd.R_alloc | apply Kd.R_drewN | apply Kd.R_drew)); exact HO_8.out) hb); have n1_ := Aside0.mk (Kd.R_below (by (with_reducible repeat (first | apply Kd.R_alloc | apply Kd.R_drewN | apply Kd.R_drew)); exact HO_11.out) hb); have n2_ := Aside0.mk (Kd.R_below (by (with_reducible repeat (first | apply Kd.R_alloc | apply Kd.R_drewN | apply Kd.R_drew)); exact HO211.out) hb); have n3_ := Aside0.mk (Kd.R_below (by (with_reducible repeat (first | apply Kd.R_alloc | apply Kd.R_drewN | apply Kd.R_drew)); exact HO215.out) hb); have n4_ := Aside0.mk (below_step (by repeat (first | (with_reducible first | exact HB.out | apply below_alloc | apply pw_below_drewN | apply below_drew1) | exact HB.out)) hb); clear HO_8; clear HO_11; clear HO211; clear HO215; clear HB; have HO_8 := n0_; have HO_11 := n1_; have HO211 := n2_; have HO215 := n3_; have HB := n4_; clear n0_ n1_ n2_ n3_ n4_; (try clear hb); (try clear hb2); (try clear hk); (try clear hi)))
             go_meet
             case rel => exact ⟨_, (true), (by first | rfl | (simp; done) | (simp [*]; done)), H', ⟨by have := HJ9.out; have := HJ29.out; first | omega | exact Nat.le_refl _⟩, ⟨by (with_reducible repeat (first | apply Kd.R_alloc | apply Kd.R_drewN | apply Kd.R_drew)); exact Kd.R_mono HO_11.out (fun _ hk => trivial)⟩, ⟨by repeat (first | (with_reducible first | exact HB.out | apply below_alloc | apply pw_below_drewN | apply below_drew1) | exact HB.out)⟩⟩
           case rest =>
            clear HC53
            try clear c1
            try clear c2
            try clear p2
            try clear c3
            try clear c4
            try clear c5
            try clear c5b0
            try clear c6
            try clear c11
            try clear c18
            try clear c25
            try clear c28
            try clear c35
            try clear c35b0
            try clear c37
            try clear c44
            try clear c45
            try clear c47
            try clear c47b0
            try clear c49
            try clear c50
            try clear c50b0
            try clear c50b1
            try clear c51
            try clear c55
            try clear c56
            try clear c60
            try clear p2
            obtain ⟨kq, x97_52, rfl, HA, HJ52, HO_11, HB⟩ := hcut;have hl11_52 := (Kd.R_reads' HO_11.out).1
            rw [hl11_52] at HO_11
            (try simp only [hl11_52])
            cases kq with
            | zero => exact absurd HA.out (by simp [laws_FnExactRouteDrop.j2])
            | succ kj52 =>
             have H := HA.out;clear HA;simp only [laws_FnExactRouteDrop.j2] at H
             by_cases c67 : x97_52 = true
             ·subst c67
              have H1 : (some false) = some r := by rw [if_pos rfl] at H; exact H
              clear H;have H := H1;clear H1;obtain rfl := Option.some.inj H
              go_wp2
              go_ret;exact ⟨by first | rfl | (simp <;> rfl) | (simp [*] <;> rfl), by repeat (first | (with_reducible first | exact HB.out | apply below_alloc | apply pw_below_drewN | apply below_drew1) | exact HB.out)⟩
             ·replace c67 := Bool.eq_false_iff.mpr c67
              subst c67
              have H1 : ((laws_heldRouteS.f kj52 t207 1).bind fun t217 => (if t217 < 0 then (some false) else (if t217 = t206 then (some true) else (some false)))) = some r := by rw [if_neg (show ¬ (false = true) by decide)] at H; exact H
              clear H;have H := H1;clear H1;replace H := ze H;obtain ⟨t217, A680, H⟩ := H;replace H : (if t217 < 0 then (some false) else (if t217 = t206 then (some true) else (some false))) = some r := H;have A68 := Aside0.mk A680;clear A680
              by_cases c69 : t217 < 0
              ·rw [if_pos c69] at H
               have c69b0 : decide (t217 < 0) = true := decide_eq_true c69;clear c69;obtain rfl := Option.some.inj H
               go_wp2_with (first | ((with_reducible refine gate_callee (f := 51) rfl ?_); refine goesL_ (some 100) rfl rfl Try.func51 (by kernel_rfl) rfl #[.slice Ao54 t207.length co54, .int .i64 1] rfl (by (try simp only [zm]); first | done | rfl | (simp only [zl]; rfl)) ?_; (with_reducible refine (laws_heldRouteS.calls kj52 _ _ t207 1 t217 _ ?side1 ?side2 A68.out).mono ?_); (case side1 => repeat (first | exact (Kd.R_reads' HO_11.out).2.2 | (with_reducible first | refine Kd.C_alloc ?_ _ | refine Kd.C_drewN ?_ _ | refine Kd.C_drew ?_))); (case side2 => exact (Kd.R_reads' HO_11.out).2.1); rintro e w' ⟨rfl, ⟨nd, rfl⟩⟩; refine ⟨_, rfl, ?_⟩))
               go_ret;exact ⟨by first | rfl | (simp <;> rfl) | (simp [*] <;> rfl), by repeat (first | (with_reducible first | exact HB.out | apply below_alloc | apply pw_below_drewN | apply below_drew1) | exact HB.out)⟩
              ·rw [if_neg c69] at H
               have c69b0 : decide (t217 < 0) = false := decide_eq_false c69;clear c69
               by_cases c70 : t217 = t206
               ·rw [if_pos c70] at H
                have c70b0 : (t217 == t206) = true := beq_iff_eq.mpr c70;have c70b1 : (t217 != t206) = false := bne_eq_false_iff_eq.mpr c70;clear c70;obtain rfl := Option.some.inj H
                go_wp2_with (first | ((with_reducible refine gate_callee (f := 51) rfl ?_); refine goesL_ (some 100) rfl rfl Try.func51 (by kernel_rfl) rfl #[.slice Ao54 t207.length co54, .int .i64 1] rfl (by (try simp only [zm]); first | done | rfl | (simp only [zl]; rfl)) ?_; (with_reducible refine (laws_heldRouteS.calls kj52 _ _ t207 1 t217 _ ?side1 ?side2 A68.out).mono ?_); (case side1 => repeat (first | exact (Kd.R_reads' HO_11.out).2.2 | (with_reducible first | refine Kd.C_alloc ?_ _ | refine Kd.C_drewN ?_ _ | refine Kd.C_drew ?_))); (case side2 => exact (Kd.R_reads' HO_11.out).2.1); rintro e w' ⟨rfl, ⟨nd, rfl⟩⟩; refine ⟨_, rfl, ?_⟩))
                go_ret;exact ⟨by first | rfl | (simp <;> rfl) | (simp [*] <;> rfl), by repeat (first | (with_reducible first | exact HB.out | apply below_alloc | apply pw_below_drewN | apply below_drew1) | exact HB.out)⟩
               ·rw [if_neg c70] at H
                have c70b0 : (t217 == t206) = false := beq_eq_false_iff_ne.mpr c70;have c70b1 : (t217 != t206) = true := bne_iff_ne.mpr c70;obtain rfl := Option.some.inj H
                go_wp2_with (first | ((with_reducible refine gate_callee (f := 51) rfl ?_); refine goesL_ (some 100) rfl rfl Try.func51 (by kernel_rfl) rfl #[.slice Ao54 t207.length co54, .int .i64 1] rfl (by (try simp only [zm]); first | done | rfl | (simp only [zl]; rfl)) ?_; (with_reducible refine (laws_heldRouteS.calls kj52 _ _ t207 1 t217 _ ?side1 ?side2 A68.out).mono ?_); (case side1 => repeat (first | exact (Kd.R_reads' HO_11.out).2.2 | (with_reducible first | refine Kd.C_alloc ?_ _ | refine Kd.C_drewN ?_ _ | refine Kd.C_drew ?_))); (case side2 => exact (Kd.R_reads' HO_11.out).2.1); rintro e w' ⟨rfl, ⟨nd, rfl⟩⟩; refine ⟨_, rfl, ?_⟩))
                go_ret;exact ⟨by first | rfl | (simp <;> rfl) | (simp [*] <;> rfl), by repeat (first | (with_reducible first | exact HB.out | apply below_alloc | apply pw_below_drewN | apply below_drew1) | exact HB.out)⟩
          ·rw [if_neg c50] at H
           have c50b0 : (t208 == t206) = false := beq_eq_false_iff_ne.mpr c50;have c50b1 : (t208 != t206) = true := bne_iff_ne.mpr c50;obtain rfl := Option.some.inj H;obtain ⟨Ao71, co71, eo71⟩ := Kd.R_slice HO_11.out
           subst eo71
           go_wp2_with (first | ((with_reducible refine gate_callee (f := 50) rfl ?_); refine goesL_ (some 72) rfl rfl Try.func50 (by kernel_rfl) rfl #[.slice Ao71 t194.length co71, .int .i64 1] rfl (by (try simp only [zm]); first | done | rfl | (simp only [zl]; rfl)) ?_; (with_reducible refine (laws_markRouteS.calls kj29 (fun k_ => some k_ = (.slice Ao71 t194.length co71 : Value).ownBlock) (.slice Ao71 t194.length co71) t194 1 t206 t207 w _ ?side1 ?side2 A45.out).mono ?_); (case side1 => repeat (first | (with_reducible first | exact HB.out | apply below_alloc | apply pw_below_drewN | apply below_drew1) | exact HB.out)); (case side2 => exact Kd.R_tight rfl HO_11.out); rintro e w72 ⟨rfl, hy0, hb, hkp⟩; refine ⟨_, rfl, ?_⟩; have n0_ := Aside0.mk (Kd.R_mono (ok' := fun k_ => some k_ ≠ (.slice Ao71 t194.length co71 : Value).ownBlock) (Kd.R_keptB (HO_8.out) hkp (fun k_ hk_ hs_ => (hk_) hs_)) (fun k_ hk_ => hk_.1)); have n1_ := Aside0.mk (Kd.R_reok rfl hy0 (fun k_ e_ => HO_11.out.1 k_ e_)); have n2_ := Aside0.mk (hb); clear HO_8; clear HO_11; clear HB; have HO_8 := n0_; have HO_11 := n1_; have HB := n2_; clear n0_ n1_ n2_; (try clear hb); (try clear hkp); (try clear hy0)) | ((with_reducible refine gate_callee (f := 51) rfl ?_); refine goesL_ (some 75) rfl rfl Try.func51 (by kernel_rfl) rfl #[.slice Ao71 t207.length co71, .int .i64 1] rfl (by (try simp only [zm]); first | done | (rw [show t207.length = t194.length from (Kd.R_reads' HO_11.out).1.symm] <;> rfl) | rfl | (simp only [zl]; rfl)) ?_; (with_reducible refine (laws_heldRouteS.calls kj29 _ _ t207 1 t208 _ ?side1 ?side2 A46.out).mono ?_); (case side1 => repeat (first | exact (Kd.R_reads' HO_11.out).2.2 | (with_reducible first | refine Kd.C_alloc ?_ _ | refine Kd.C_drewN ?_ _ | refine Kd.C_drew ?_))); (case side2 => rw [show t207.length = t194.length from (Kd.R_reads' HO_11.out).1.symm]; exact (Kd.R_reads' HO_11.out).2.1); rintro e w' ⟨rfl, ⟨nd, rfl⟩⟩; refine ⟨_, rfl, ?_⟩))
           go_ret;exact ⟨by first | rfl | (simp <;> rfl) | (simp [*] <;> rfl), by repeat (first | (with_reducible first | exact HB.out | apply below_alloc | apply pw_below_drewN | apply below_drew1) | exact HB.out)⟩
     ·replace c28 := Bool.eq_false_iff.mpr c28
      subst c28
      have H1 : (some false) = some r := by rw [if_neg (show ¬ (false = true) by decide)] at H; exact H
      clear H;have H := H1;clear H1;obtain rfl := Option.some.inj H
      go_wp2_with (first | ((with_reducible refine gate_callee (f := 47) rfl ?_); refine goesL_ (some 51) rfl rfl Try.func47 (by kernel_rfl) rfl #[.slice A0 l0.length c0] rfl (by (try simp only [zm]); first | done | rfl | (simp only [zl]; rfl)) ?_; (with_reducible refine (laws_toRouteS.calls kj9 _ _ l0 t199 _ ?side1 ?side2 A26.out).mono ?_); (case side1 => repeat (first | exact (Kd.C_below HR0.out HB.out) | (with_reducible first | refine Kd.C_alloc ?_ _ | refine Kd.C_drewN ?_ _ | refine Kd.C_drew ?_))); (case side2 => exact HC0.out); rintro e w73 ⟨v200, rfl, ho0, hb⟩; refine ⟨_, rfl, ?_⟩; have n0_ := Aside0.mk (Kd.R_elder' (by (with_reducible repeat (first | apply Kd.R_alloc | apply Kd.R_drewN | apply Kd.R_drew)); exact HO_8.out) (Kd.R_base ho0) hb); have n1_ := Aside0.mk (Kd.R_elder' (by (with_reducible repeat (first | apply Kd.R_alloc | apply Kd.R_drewN | apply Kd.R_drew)); exact HO_10.out) (Kd.R_base ho0) hb); have n2_ := Aside0.mk (Kd.R_elder' (by (with_reducible repeat (first | apply Kd.R_alloc | apply Kd.R_drewN | apply Kd.R_drew)); exact HO_11.out) (Kd.R_base ho0) hb); have n3_ := Aside0.mk (Kd.R_lower (Kd.R_new' (Kd.R_new' (Kd.R_new' ho0 (Kd.R_lt (by (with_reducible repeat (first | apply Kd.R_alloc | apply Kd.R_drewN | apply Kd.R_drew)); exact HO_8.out))) (Kd.R_lt (by (with_reducible repeat (first | apply Kd.R_alloc | apply Kd.R_drewN | apply Kd.R_drew)); exact HO_10.out))) (Kd.R_lt (by (with_reducible repeat (first | apply Kd.R_alloc | apply Kd.R_drewN | apply Kd.R_drew)); exact HO_11.out))) (below_size (by repeat (first | (with_reducible first | exact HB.out | apply below_alloc | apply pw_below_drewN | apply below_drew1) | exact HB.out)))); have n4_ := Aside0.mk (below_step (by repeat (first | (with_reducible first | exact HB.out | apply below_alloc | apply pw_below_drewN | apply below_drew1) | exact HB.out)) hb); clear HO_8; clear HO_10; clear HO_11; clear HB; have HO_8 := n0_; have HO_10 := n1_; have HO_11 := n2_; have HO201 := n3_; have HB := n4_; clear n0_ n1_ n2_ n3_ n4_; (try clear hb); (try clear hb2); (try clear hk); (try clear hi); (try clear ho0); obtain ⟨Ao74, co74, eo74⟩ := Kd.R_slice HO201.out; subst eo74) | ((with_reducible refine gate_callee (f := 49) rfl ?_); refine goesL_ (some 52) rfl rfl Try.func49 (by kernel_rfl) rfl #[.slice Ao15 t191.length co15, .slice Ao74 t199.length co74] rfl (by (try simp only [zm]); first | done | rfl | (simp only [zl]; rfl)) ?_; (with_reducible refine (laws_eqRouteS.calls kj9 _ _ t191 _ _ t199 false _ ?side1 ?side2 ?side3 ?side4 A27.out).mono ?_); (case side1 => repeat (first | exact (Kd.R_reads' HO_10.out).2.2 | (with_reducible first | refine Kd.C_alloc ?_ _ | refine Kd.C_drewN ?_ _ | refine Kd.C_drew ?_))); (case side2 => exact (Kd.R_reads' HO_10.out).2.1); (case side3 => repeat (first | exact (Kd.R_reads' HO201.out).2.2 | (with_reducible first | refine Kd.C_alloc ?_ _ | refine Kd.C_drewN ?_ _ | refine Kd.C_drew ?_))); (case side4 => exact (Kd.R_reads' HO201.out).2.1); rintro e w75 ⟨rfl, hb⟩; refine ⟨_, rfl, ?_⟩; have n0_ := Aside0.mk (Kd.R_below (by (with_reducible repeat (first | apply Kd.R_alloc | apply Kd.R_drewN | apply Kd.R_drew)); exact HO_8.out) hb); have n1_ := Aside0.mk (Kd.R_below (by (with_reducible repeat (first | apply Kd.R_alloc | apply Kd.R_drewN | apply Kd.R_drew)); exact HO_10.out) hb); have n2_ := Aside0.mk (Kd.R_below (by (with_reducible repeat (first | apply Kd.R_alloc | apply Kd.R_drewN | apply Kd.R_drew)); exact HO_11.out) hb); have n3_ := Aside0.mk (Kd.R_below (by (with_reducible repeat (first | apply Kd.R_alloc | apply Kd.R_drewN | apply Kd.R_drew)); exact HO201.out) hb); have n4_ := Aside0.mk (below_step (by repeat (first | (with_reducible first | exact HB.out | apply below_alloc | apply pw_below_drewN | apply below_drew1) | exact HB.out)) hb); clear HO_8; clear HO_10; clear HO_11; clear HO201; clear HB; have HO_8 := n0_; have HO_10 := n1_; have HO_11 := n2_; have HO201 := n3_; have HB := n4_; clear n0_ n1_ n2_ n3_ n4_; (try clear hb); (try clear hb2); (try clear hk); (try clear hi)))
      go_ret;exact ⟨by first | rfl | (simp <;> rfl) | (simp [*] <;> rfl), by repeat (first | (with_reducible first | exact HB.out | apply below_alloc | apply pw_below_drewN | apply below_drew1) | exact HB.out)⟩

end Go.Proofs.Ytdplboenlcppkaa.PFnExactRouteDrop

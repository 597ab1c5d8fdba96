/- The machine side of some functions: each comes to its pure answer (written by a program of this session with the kit's print). No condition. -/
import Derived.Test.YtpoedefohfonjaaPFnRoutePutx0
import Derived.Test.YtpoedefohfonjaaPFnRoutePutx6
namespace Go.Proofs.Ytpoedefohfonjaa.PFnRoutePut
open Go.RowKit Go.Proofs.YtpoedefohfonjaaUFnRoutePut.PrintWords Go.Proofs.YtpoedefohfonjaaUFnRoutePut.PrintLast Go.Proofs.YtpoedefohfonjaaUFnRoutePut.PrintMore
attribute [local go_sem] max2_int min2_int max_two min_two max_three min_three max_four min_four   -- for this text's walks alone
set_option linter.unusedVariables false
set_option linter.unusedSimpArgs false

/-! ### impl_Route_73: function 73 -/
theorem clip_routes (A : Option Addr) (n c : Nat) (w : World) (hnc : n ≤ c) (hc : c ≤ 9223372036854775807) :
  Calls Try.prog 92 #[.slice A n c] w fun e w' => e = .returned (.slice A n n) ∧ w = w' := by
 go_enter Try.func92, Try.ntmps92
 go_wp2
 go_ret;exact ⟨rfl, rfl⟩
/-- A list anew; the block may be longer than the capacity tells. -/
def impl_Route_73.f (l0 : List (S24)) : Option (List (S24)) := if l0.length ≤ 1099511627776 then some l0 else none
set_option maxHeartbeats 1000000 in
theorem impl_Route_73.calls (A0 : Option Addr) (c0 : Nat) (l0 : List (S24)) (r : List (S24)) (w : World) (hr0 : Kd.C k24 w A0 l0.length l0) (hc0 : l0.length ≤ c0) (h : impl_Route_73.f l0 = some r) :
  Calls Try.prog 73 #[.slice A0 l0.length c0] w fun e w' => ∃ v0_ : Value, e = .returned (v0_) ∧ Kd.R k24 24 w' w.heap.size (fun _ => True) v0_ r ∧ Below w.heap.size w w' := by
 unfold impl_Route_73.f at h
 by_cases hb : l0.length ≤ 1099511627776
 ·rw [if_pos hb] at h
  obtain rfl := Option.some.inj h;clear h;have HR := Aside0.mk hr0;clear hr0
  by_cases h0 : l0.length = 0
  ·obtain rfl : l0 = [] := List.eq_nil_of_length_eq_zero h0;clear hb h0;simp only [List.length_nil]
   go_enter Try.func73, Try.ntmps73
   go_wp2
   go_ret;exact ⟨_, rfl, Kd.R_nil _ _ _ _ _, Below.refl _ _⟩
  ·have hz : ((l0.length : Int) == 0) = false := by simpa using h0
   have hm : l0.length ≤ 9223372036854775807 := by omega
   clear h0
   go_enter Try.func73, Try.ntmps73
   go_wp2_with (first
    | ((with_reducible refine gate_builtin (b := .append) (xs := #[.const (.slice none 0 0), .tmp 6]) rfl ?_); at_builtin; refine Kd.R_append_rows k24 (w0 := w) w.heap.size rfl (.const (.slice none 0 0)) (.tmp 6) 33 24 (.agg #[(.int .i64 0), (.int .i64 0), (.int .i64 0), (.int .i64 0)]) 32 rfl Try.underlying33 info24 rfl (by decide) (by omega) (.slice none 0 0) [] l0 _ _ _ (fun _ => True) (fun _ => False) rfl rfl (Kd.R_nil _ _ _ _ _) HR.out (fun _ _ h => h) (fun _ h => h.elim) (fun _ _ => trivial) (Below.refl _ _) (Nat.le_refl _) (by simp only [List.length_nil]; omega) ?_; intro v1 w1 ho hb1 hg hat; rw [List.nil_append] at ho; have HO := Aside0.mk ho; have HB := Aside0.mk hb1; clear ho hb1 hg hat; obtain ⟨A1, c1, e1⟩ := Kd.R_slice HO.out; subst e1)
    | (go_at_call 92; refine (clip_routes _ _ _ _ (Kd.R_reads' HO.out).2.1 (Kd.R_room HO.out)).mono ?_; rintro e w' ⟨rfl, rfl⟩))
   go_ret;exact ⟨_, rfl, Kd.R_clip HO.out, HB.out⟩
 ·rw [if_neg hb] at h; cases h

/-! ### impl_RoutePut: function 24 -/
/-! #### a route that is put -/
/-- A route's cells, and a list's. -/
def rCells (x : S24) : List Value := [.int .i64 x.f0, .int .i64 x.f1, .int .i64 x.f2, .int .i64 x.f3]
def flatR (xs : List (S24)) : List Value := xs.flatMap rCells
theorem flatR_len (xs : List (S24)) : (flatR xs).length = xs.length * 4 := by
 induction xs with
 | nil => rfl
 | cons x xs ih => show (rCells x ++ flatR xs).length = _; rw [List.length_append, ih, List.length_cons]; show 4 + xs.length * 4 = _; omega
theorem flatR_app (xs ys : List (S24)) : flatR (xs ++ ys) = flatR xs ++ flatR ys := List.flatMap_append
theorem flatR_take (xs : List (S24)) (i : Nat) (hi : i ≤ xs.length) : (flatR xs).take (i * 4) = flatR (xs.take i) := by
 conv => lhs; rw [← List.take_append_drop i xs, flatR_app]
 rw [List.take_append_of_le_length (by rw [flatR_len, List.length_take]; omega), List.take_of_length_le (by rw [flatR_len, List.length_take]; omega)]
theorem flatR_drop (xs : List (S24)) (i : Nat) (hi : i ≤ xs.length) : (flatR xs).drop (i * 4) = flatR (xs.drop i) := by
 conv => lhs; rw [← List.take_append_drop i xs, flatR_app]
 rw [List.drop_append, List.drop_of_length_le (by rw [flatR_len, List.length_take]; omega), List.nil_append, flatR_len, List.length_take, Nat.min_eq_left hi, Nat.sub_self, List.drop_zero]
theorem flatR_one (xs : List (S24)) : ∀ v ∈ flatR xs, v.oneCell' = true := by
 intro v hv;obtain ⟨x, _, hx⟩ := List.mem_flatMap.1 hv
 unfold rCells at hx
 simp only [List.mem_cons, List.not_mem_nil, or_false] at hx
 rcases hx with rfl | rfl | rfl | rfl <;> rfl
theorem reps_flatR (w : World) (base : Nat) (okp : Nat → Prop) : ∀ xs : List (S24), Reps (k24.M w base okp) k24.sz xs (flatR xs) := by
 intro xs;refine ⟨flatR_len xs, fun j p hj => ?_⟩;obtain ⟨hjl, rfl⟩ := List.getElem?_eq_some_iff.1 hj
 show k24.M w base okp xs[j] (((flatR xs).drop (j * 4)).take 4)
 rw [flatR_drop xs j (by omega), List.drop_eq_getElem_cons hjl]
 show k24.M w base okp xs[j] ((rCells xs[j] ++ flatR (xs.drop (j + 1))).take 4)
 exact k24_mkM _ _ _ xs[j]
theorem flatR_of (w : World) (base : Nat) (okp : Nat → Prop) : ∀ (xs : List (S24)) (inner : List Value), Reps (k24.M w base okp) k24.sz xs inner → inner = flatR xs
 | [], inner, h => List.eq_nil_of_length_eq_zero (by have := h.1; simpa using this)
 | x :: xs, inner, h => by
  have h0 := k24_openM (h.2 0 x rfl);have hl : inner.length = (xs.length + 1) * 4 := h.1
  have ht : Reps (k24.M w base okp) k24.sz xs (inner.drop 4) := by
   refine ⟨by rw [List.length_drop, hl]; show _ = xs.length * 4; omega, fun j p hj => ?_⟩;have := h.2 (j + 1) p (by simpa using hj)
   rw [List.drop_drop]
   have e : 4 + j * k24.sz = (j + 1) * k24.sz := by show 4 + j * 4 = (j + 1) * 4; omega
   rw [e]
   exact this
  have ih := flatR_of w base okp xs _ ht
  show inner = rCells x ++ flatR xs
  rw [← ih]
  have e0 : inner.take 4 = rCells x := by
   have e : (inner.drop (0 * k24.sz)).take k24.sz = inner.take 4 := by show (inner.drop (0 * 4)).take 4 = _; simp
   rw [← e]; exact h0
  rw [← e0, List.take_append_drop]
theorem below_cells {w0 : World} {g : Nat} (hg : w0.heap.size ≤ g) : ∀ (vs : List Value) (o : Nat) (W : World), Below w0.heap.size w0 W → Below w0.heap.size w0 (W.setCells g o vs)
 | [], _, _, h => h
 | _ :: r, o, _, h => below_cells hg r (o + 1) _ (below_set h hg)
theorem cells_heap (g : Nat) (t : TypeId) : ∀ (vs : List Value) (o : Nat) (w : World) (cur : Array Value), w.heap[g]? = some (.cells cur t (0, 0)) → o + vs.length ≤ cur.size →
  ∃ cur', (w.setCells g o vs).heap[g]? = some (.cells cur' t (0, 0)) ∧ cur'.toList = cur.toList.take o ++ vs ++ cur.toList.drop (o + vs.length)
 | [], o, w, cur, h, _ => ⟨cur, h, by simp⟩
 | v :: vs, o, w, cur, h, hl => by
  rw [List.length_cons] at hl
  have h1 := blk_put h o v rfl;obtain ⟨cur', h2, e⟩ := cells_heap g t vs (o + 1) (w.setCell ⟨g, o, none⟩ v) (cur.setIfInBounds o v) h1 (by rw [Array.size_setIfInBounds]; omega);refine ⟨cur', h2, ?_⟩
  rw [e, Array.toList_setIfInBounds, List.length_cons, List.drop_set_of_lt (by omega), List.take_succ_eq_append_getElem (by rw [List.length_set]; simp; omega), List.take_set_of_le (Nat.le_refl o), List.getElem_set_self, show o + 1 + vs.length = o + (vs.length + 1) by omega]
  simp
theorem copy_runk {P : Program} (w : World) (dT sT ty elem : TypeId) (k b o dLen dCap : Nat) (a : Addr) (sLen sCap : Nat) (cs : List Value)
  (hu : P.underlying dT = some (.slice elem)) (hs : (P.info? elem).map (·.size) = some k) (hn : cs.length = Nat.min sLen dLen * k)
  (hsrc : ∀ j v, cs[j]? = some v → w.cell? (a.add j) = some v) (hc : ∀ j, j < cs.length → (w.cell? ⟨b, o + j, none⟩).isSome = true) (hf : ∀ j, j < cs.length → w.frozen? ⟨b, o + j, none⟩ = false) (h1 : ∀ v ∈ cs, v.oneCell' = true) :
  (Builtin.copy_ #[dT, sT] ty #[.slice (some ⟨b, o, none⟩) dLen dCap, .slice (some a) sLen sCap]).run P w = .ok (goInt (Nat.min sLen dLen)) (w.setCells b o cs) := by
 have hl := run_loadCells_list (P := P) w a cs hsrc;have hst := run_storeCells_cells (P := P) b o cs 0 w (by simpa using hc) (by simpa using hf) h1
 cases hq : P.info? elem with
 | none => simp [hq] at hs
 | some i =>
  have hi : i.size = k := by simpa [hq] using hs
  simp [Builtin.copy_, run_underlying hu, Builtin.lenOf, Builtin.firstCells, sizeOf, typeInfo, hq, hi, ← hn, hl, hst]
/-- A block of one's own that begins with a list's cells is a row. -/
theorem mkR {w : World} {base g n c : Nat} {cur : Array Value} {xs : List (S24)} (hb : base ≤ g) (hh : w.heap[g]? = some (.cells cur 24 (0, 0))) (hn : xs.length = n) (hnc : n ≤ c) (hcm : c ≤ maxLen) (hcs : c * 4 ≤ cur.size) (ht : cur.toList.take (n * 4) = flatR xs) :
  Kd.R k24 24 w base (fun _ => True) (.slice (some ⟨g, 0, none⟩) n c) xs := by
 subst hn
 exact ⟨fun _ _ => trivial, flatR xs, ⟨flatR_len xs, .inr ⟨g, c, cur, rfl, hb, hh, hnc, hcm, hcs, ht⟩⟩, reps_flatR _ _ _ xs⟩
/-- What a row of one's own is made of. -/
theorem unR {w : World} {base : Nat} {ok : Nat → Prop} {g n c : Nat} {xs : List (S24)} (h : Kd.R k24 24 w base ok (.slice (some ⟨g, 0, none⟩) n c) xs) :
  ∃ cur, w.heap[g]? = some (.cells cur 24 (0, 0)) ∧ base ≤ g ∧ xs.length = n ∧ n ≤ c ∧ c ≤ maxLen ∧ c * 4 ≤ cur.size ∧ cur.toList.take (n * 4) = flatR xs := by
 have hn := (Kd.R_reads' h).1;obtain ⟨_, inner, ⟨hl, hown⟩, hr⟩ := h;have e := flatR_of _ _ _ xs inner hr
 rcases hown with ⟨he, _⟩ | ⟨g', cap, cur, he, hb, hh, hnc, hcm, hcs, ht⟩
 ·cases he
 ·injection he with h1 h2 h3
  injection h1 with h1
  injection h1 with h1
  subst h1 h3
  exact ⟨cur, hh, hb, hn.symm, by omega, hcm, hcs, by rw [hn, ← e]; exact ht⟩
theorem ins_shift (L V D : List Value) (a d : Nat) (hV : V.length = 4) (hD : D.length = d) (hl : a + 4 + d ≤ L.length) :
  ((L.take (a + 4) ++ D ++ L.drop (a + 4 + D.length)).take a ++ V ++ (L.take (a + 4) ++ D ++ L.drop (a + 4 + D.length)).drop (a + V.length)).take (a + 4 + d) = L.take a ++ V ++ D := by
 have h1 : (L.take (a + 4)).length = a + 4 := by rw [List.length_take]; omega
 have e1 : (L.take (a + 4) ++ D ++ L.drop (a + 4 + D.length)).take a = L.take a := by
  rw [List.append_assoc, List.take_append_of_le_length (by omega), List.take_take, Nat.min_eq_left (by omega)]
 have e2 : (L.take (a + 4) ++ D ++ L.drop (a + 4 + D.length)).drop (a + V.length) = D ++ L.drop (a + 4 + D.length) := by
  rw [hV, List.append_assoc, List.drop_append, List.drop_of_length_le (by omega), List.nil_append, h1, Nat.sub_self, List.drop_zero]
 rw [e1, e2, ← List.append_assoc]
 rw [List.take_append_of_le_length (by simp only [List.length_append, List.length_take]; omega)]
 exact List.take_of_length_le (by simp only [List.length_append, List.length_take]; omega)
theorem ins_grow (L V D : List Value) (a d : Nat) (hV : V.length = 4) (hD : D.length = d) (hl : a + 4 + d ≤ L.length) :
  ((L.take a ++ V ++ L.drop (a + V.length)).take (a + 4) ++ D ++ (L.take a ++ V ++ L.drop (a + V.length)).drop (a + 4 + D.length)).take (a + 4 + d) = L.take a ++ V ++ D := by
 have h1 : (L.take a).length = a := by rw [List.length_take]; omega
 have e1 : (L.take a ++ V ++ L.drop (a + V.length)).take (a + 4) = L.take a ++ V := by
  rw [List.take_append_of_le_length (by rw [List.length_append]; omega), List.take_of_length_le (by rw [List.length_append]; omega)]
 rw [e1]
 rw [List.take_append_of_le_length (by simp only [List.length_append, List.length_take]; omega)]
 exact List.take_of_length_le (by simp only [List.length_append, List.length_take]; omega)
theorem cSz : (Try.prog.info? 24).map (·.size) = some 4 := by
 obtain ⟨i0, hi0, _, hzs, _⟩ := info_parts info24
 rw [hi0]; simp [hzs]
/-- The one element that is put, as a row that is read. -/
theorem oneC {w : World} {vb : Nat} {x : S24} (hv : w.heap[vb]? = some (.cells (rCells x).toArray 24 (0, 0))) : Kd.C k24 w (some ⟨vb, 0, none⟩) 1 [x] := by
 refine ⟨rfl, by omega, fun _ => ⟨⟨vb, 0, none⟩, rfl, fun j p hj => ?_⟩⟩
 match j, hj with
 | 0, hj =>
  obtain rfl := Option.some.inj hj;refine ⟨rCells x, rfl, k24_mk _ x, fun i u hu => ?_⟩
  rw [show (⟨vb, 0, none⟩ : Addr).add (0 * k24.sz + i) = ⟨vb, i, none⟩ from by rw [Addr.add_lit]; simp, blk_cell hv i]
  simpa using hu
 | j + 1, hj => simp at hj
set_option maxHeartbeats 2000000 in
/-- slices.Insert at the end. -/
theorem putEnd.calls (x : S24) (A : Option Addr) (c : Nat) (xs : List (S24)) (w0 w : World) (hbig : xs.length ≤ 1000000) (hO : Kd.R k24 24 w w0.heap.size (fun _ => True) (.slice A xs.length c) xs) (hB : Below w0.heap.size w0 w) (vb : Nat) (hv : w.heap[vb]? = some (.cells (rCells x).toArray 24 (0, 0))) :
  Calls Try.prog 72 #[.slice A xs.length c, .int .i64 xs.length, .slice (some ⟨vb, 0, none⟩) 1 1] w fun e w' => ∃ v, e = .returned v ∧ Kd.R k24 24 w' w0.heap.size (fun _ => True) v (xs ++ [x]) ∧ Below w0.heap.size w0 w' := by
 have HO := Aside0.mk hO;have HB := Aside0.mk hB;have HV := Aside0.mk (oneC hv);have HL := Aside0.mk hbig;obtain ⟨i0, hi0, _, hsz, _⟩ := info_parts info24;have hcut := cut_from (P := Try.prog) 33 24 .i64 Try.underlying33 hi0 4 hsz A xs.length c (xs.length : Int) (by omega) (by omega);clear hO hB hv hbig hi0 hsz
 generalize (if c = ((xs.length : Int)).toNat then A else A.map (·.add (((xs.length : Int)).toNat * 4))) = A2 at hcut
 go_enter Try.func72, Try.ntmps72
 go_wp2_with (first
  | ((with_reducible refine gate_builtin (b := .append) (xs := #[.tmp 23, .tmp 24]) rfl ?_); at_builtin; refine Kd.R_append_rows k24 (w0 := w0) w0.heap.size rfl (.tmp 23) (.tmp 24) 33 24 (.agg #[(.int .i64 0), (.int .i64 0), (.int .i64 0), (.int .i64 0)]) 32 rfl Try.underlying33 info24 rfl (by decide) (by omega) (.slice A xs.length c) xs [x] _ _ _ (fun _ => True) (fun _ => False) rfl rfl HO.out HV.out (fun x_ cs_ h_ => by obtain rfl := k24_open h_; exact k24_mkM _ _ _ x_) (fun _ h => h.elim) (fun _ _ => trivial) HB.out HB.out.size (by have h_ := HL.out; omega) ?_; intro v2 w2 ho hb1 hg hat; have HO2 := Aside0.mk ho; have HB2 := Aside0.mk hb1; clear ho hb1 hg hat))
 go_ret;exact ⟨_, rfl, HO2.out, HB2.out⟩
theorem small_a {n i : Nat} (hi : i < n) (hb : n ≤ 1000000) : wrap64 ((i : Int) + 1) = ((i + 1 : Nat) : Int) := by unfold wrap64; omega
theorem small_b {n : Nat} (hb : n ≤ 1000000) : wrap64 ((n : Int) + 1) = (n : Int) + 1 := by unfold wrap64; omega
theorem small_c {n i : Nat} (hi : i < n) (hb : n ≤ 1000000) : wrap64 ((n : Int) + 1 - (i : Int)) = (n : Int) + 1 - (i : Int) := by unfold wrap64; omega
theorem small_d {n i : Nat} (hi : i < n) (hb : n ≤ 1000000) : IntKind.i64.wrap ((i : Int) + 1) = (i : Int) + 1 := by rw [IntKind.wrap_i64]; omega
theorem small_e {n i : Nat} (hi : i < n) : (0 : Int) ≤ (i : Int) + 1 ∧ ((i : Int) + 1).toNat = i + 1 ∧ i ≤ n ∧ (i : Int) ≤ (n : Int) := by omega
theorem drew_cell (W : World) (y : Addr) : W.drew.cell? y = W.cell? y := rfl
theorem drew_frozen (W : World) (y : Addr) : W.drew.frozen? y = W.frozen? y := rfl
set_option maxHeartbeats 4000000 in
set_option maxRecDepth 100000 in
/-- slices.Insert ahead of the end, where there is no room: a new block. -/
theorem putGrow.calls (x : S24) (g c n i : Nat) (xs : List (S24)) (w0 w : World) (hn : xs.length = n) (hi : i < n) (hbig : n ≤ 1000000) (hroom : c < n + 1) (hO : Kd.R k24 24 w w0.heap.size (fun _ => True) (.slice (some ⟨g, 0, none⟩) n c) xs) (hB : Below w0.heap.size w0 w) (vb : Nat) (hv : w.heap[vb]? = some (.cells (rCells x).toArray 24 (0, 0))) :
  Calls Try.prog 72 #[.slice (some ⟨g, 0, none⟩) n c, .int .i64 i, .slice (some ⟨vb, 0, none⟩) 1 1] w fun e w' => ∃ v, e = .returned v ∧ Kd.R k24 24 w' w0.heap.size (fun _ => True) v (xs.take i ++ x :: xs.drop i) ∧ Below w0.heap.size w0 w' := by
 obtain ⟨cur, hh, hbg, _, hnc, hcm, hcs, ht⟩ := unR hO;obtain ⟨i0, hi0, hz0, hzs, hzb⟩ := info_parts info24;have hbw : g < w.heap.size := (Array.getElem?_eq_some_iff.1 hh).1;have hvw : vb < w.heap.size := (Array.getElem?_eq_some_iff.1 hv).1
 have hfl : (flatR xs).length = n * 4 := by rw [flatR_len, hn]
 have hcs0 : ∀ j v, (flatR xs)[j]? = some v → w.cell? ⟨g, j, none⟩ = some v := fun j v hj => by
  rw [blk_cell hh j, ← Array.getElem?_toList]
  rw [← ht, List.getElem?_take] at hj
  split at hj
  ·exact hj
  ·cases hj
 have hvs0 : ∀ j v, (rCells x)[j]? = some v → w.cell? ⟨vb, j, none⟩ = some v := fun j v hj => by rw [blk_cell hv j]; simpa using hj
 have hz2 : ¬ ((i : Int) = (n : Int)) := by omega
 have hz3 : (c : Int) < (n : Int) + 1 := by omega
 have hold : (Builtin.firstCells i0.size i (.slice (some ⟨g, 0, none⟩) i c)).run Try.prog w.drew = .ok ((flatR xs).take (i * 4)).toArray w.drew := by
  rw [hzs]
  exact run_firstCells_some w.drew 4 i ⟨g, 0, none⟩ i c ((flatR xs).take (i * 4)) (by rw [List.length_take]; omega) (fun j v hj => by
   rw [Addr.add_lit, Nat.zero_add]
   rw [List.getElem?_take] at hj
   split at hj
   ·exact hcs0 j v hj
   ·cases hj)
 have hrz : ∀ ty, (Builtin.append_ #[33, 3] ty #[.slice (some ⟨g, 0, none⟩) i c, .int .i64 ((n : Int) + 1 - (i : Int))]).run Try.prog w =
   .ok (.slice (some ⟨w.heap.size, 0, none⟩) (n + 1) (grownCap w (n + 1) c 24)) (w.drew.alloc (.cells (((flatR xs).take (i * 4)).toArray ++ Builtin.zeroCells (Value.agg #[.int .i64 0, .int .i64 0, .int .i64 0, .int .i64 0]).cells (n + 1 - i) ++ Builtin.zeroCells (Value.agg #[.int .i64 0, .int .i64 0, .int .i64 0, .int .i64 0]).cells (grownCap w (n + 1) c 24 - (n + 1))) 24)) := fun ty => by
  have h := Lib.run_append_grow_zeros w 33 3 ty 24 i0 _ .i64 .i64 Try.underlying33 Try.underlying3 hi0 hz0 (some ⟨g, 0, none⟩) i c ((flatR xs).take (i * 4)) hold (n + 1 - i) (by omega) (by omega) (by omega) (by omega) (by rw [hzb]; omega) (by rw [hzb, show i + (n + 1 - i) = n + 1 by omega]; exact growslice_fits hroom (by omega))
  rw [show i + (n + 1 - i) = n + 1 by omega] at h
  rw [show (n : Int) + 1 - (i : Int) = ((n + 1 - i : Nat) : Int) by omega]
  exact h
 obtain ⟨G, hG⟩ : ∃ G, G = grownCap w (n + 1) c 24 := ⟨_, rfl⟩;obtain ⟨ROW, hROW⟩ : ∃ ROW : Array Value, ROW = ((flatR xs).take (i * 4)).toArray ++ Builtin.zeroCells (Value.agg #[.int .i64 0, .int .i64 0, .int .i64 0, .int .i64 0]).cells (n + 1 - i) ++ Builtin.zeroCells (Value.agg #[.int .i64 0, .int .i64 0, .int .i64 0, .int .i64 0]).cells (G - (n + 1)) := ⟨_, rfl⟩
 rw [← hG] at hrz
 rw [← hROW] at hrz
 have hGn : n + 1 ≤ G := by rw [hG]; exact grownCap_ge w _ _ _
 have hGm : G ≤ maxLen := by rw [hG]; exact grownCap_le_maxLen w (n + 1) c 24 (by unfold maxLen; omega)
 have hG63 : G ≤ 9223372036854775807 := by unfold maxLen at hGm; omega
 have hRl : ROW.size = G * 4 := by
  rw [hROW]
  simp [Builtin.zeroCells, Value.cells, hfl]
  omega
 have hRt : ROW.toList.take (i * 4) = (flatR xs).take (i * 4) := by
  rw [hROW]
  simp only [Array.toList_append, List.toList_toArray, List.append_assoc]
  rw [List.take_append_of_le_length (by rw [List.length_take]; omega), List.take_take, Nat.min_self]
 obtain ⟨W1, hW1⟩ : ∃ W1, W1 = w.drew.alloc (.cells ROW 24) := ⟨_, rfl⟩
 rw [← hW1] at hrz
 have hW1h : W1.heap[w.heap.size]? = some (.cells ROW 24 (0, 0)) := by rw [hW1]; exact heap_alloc_new w.drew _
 have hN : ∀ j, j < G * 4 → (W1.cell? ⟨w.heap.size, j, none⟩).isSome = true := fun j hj => by rw [blk_cell hW1h j, Array.getElem?_eq_getElem (by omega)]; rfl
 have hNf : ∀ j, W1.frozen? ⟨w.heap.size, j, none⟩ = false := fun j => blk_frozen hW1h j
 have hOb : ∀ j v, w.cell? ⟨g, j, none⟩ = some v → W1.cell? ⟨g, j, none⟩ = some v := fun j v h => by rw [hW1, World.cell?_alloc_past (w := w.drew) _ g j hbw]; exact h
 have hOv : ∀ j v, w.cell? ⟨vb, j, none⟩ = some v → W1.cell? ⟨vb, j, none⟩ = some v := fun j v h => by rw [hW1, World.cell?_alloc_past (w := w.drew) _ vb j hvw]; exact h
 have hcpA : ∀ (W : World), (∀ x, W.cell? x = W1.cell? x) → (∀ x, W.frozen? x = W1.frozen? x) → ∀ ty dc, (Builtin.copy_ #[33, 33] ty #[.slice (some ⟨w.heap.size, i * 4, none⟩) (n + 1 - i) dc, .slice (some ⟨vb, 0, none⟩) 1 1]).run Try.prog W = .ok (goInt (Nat.min 1 (n + 1 - i))) (W.setCells w.heap.size (i * 4) (rCells x)) := fun W hWc hWf ty dc =>
  copy_runk W _ _ ty 24 4 w.heap.size (i * 4) (n + 1 - i) dc ⟨vb, 0, none⟩ 1 1 (rCells x) Try.underlying33 cSz (by rw [show Nat.min 1 (n + 1 - i) = 1 from Nat.min_eq_left (by omega)]; rfl)
   (fun j v hj => by rw [Addr.add_lit, Nat.zero_add, hWc]; exact hOv _ v (hvs0 j v hj))
   (fun j hj => by rw [hWc]; exact hN _ (by have : j < 4 := hj; omega)) (fun j hj => by rw [hWf]; exact hNf _) (fun v hv' => flatR_one [x] v (by simpa [flatR] using hv'))
 have hGi : ¬ (G = i) := by omega
 have hGim : ¬ (G = i + 1) := by omega
 have hci : ¬ (c = i) := by omega
 have hbN : g ≠ w.heap.size := by omega
 have hdl : (flatR (xs.drop i)).length = (n - i) * 4 := by rw [flatR_len, List.length_drop, hn]
 have hcpB : ∀ (W : World), (∀ x', W.cell? x' = (W1.setCells w.heap.size (i * 4) (rCells x)).cell? x') → (∀ x', W.frozen? x' = (W1.setCells w.heap.size (i * 4) (rCells x)).frozen? x') → ∀ ty dc sc, (Builtin.copy_ #[33, 33] ty #[.slice (some ⟨w.heap.size, (i + 1) * 4, none⟩) (n - i) dc, .slice (some ⟨g, i * 4, none⟩) (n - i) sc]).run Try.prog W = .ok (goInt (Nat.min (n - i) (n - i))) (W.setCells w.heap.size ((i + 1) * 4) (flatR (xs.drop i))) := fun W hWc hWf ty dc sc =>
  copy_runk W _ _ ty 24 4 w.heap.size ((i + 1) * 4) (n - i) dc ⟨g, i * 4, none⟩ (n - i) sc (flatR (xs.drop i)) Try.underlying33 cSz (by rw [hdl, show Nat.min (n - i) (n - i) = n - i from Nat.min_self _])
   (fun j v hj => by
    rw [Addr.add_lit, hWc, World.cell?_setCells_out _ _ _ _ _ (fun h _ => absurd h hbN)]
    refine hOb _ v (hcs0 (i * 4 + j) v ?_)
    rw [← flatR_drop xs i (by omega), List.getElem?_drop] at hj
    exact hj)
   (fun j hj => by rw [hWc]; exact isSome_setCells _ _ _ _ (fun t ht => hN _ (by have : t < 4 := ht; omega)) _ (hN _ (by rw [hdl] at hj; omega)))
   (fun j hj => by rw [hWf, World.frozen?_setCells]; exact hNf _) (flatR_one _)
 have hend : ∀ W : World, W = ((W1.setCells w.heap.size (i * 4) (rCells x)).drew).setCells w.heap.size ((i + 1) * 4) (flatR (xs.drop i)) → Kd.R k24 24 W w0.heap.size (fun _ => True) (.slice (some ⟨w.heap.size, 0, none⟩) (n + 1) G) (xs.take i ++ x :: xs.drop i) ∧ Below w0.heap.size w0 W := by
  rintro W rfl
  obtain ⟨c1, h1, e1⟩ := cells_heap w.heap.size 24 (rCells x) (i * 4) W1 ROW hW1h (by show i * 4 + 4 ≤ _; omega)
  have l1 : c1.size = ROW.size := by
   rw [← Array.length_toList, e1, List.length_append, List.length_append, List.length_take, List.length_drop, Array.length_toList]
   show min (i * 4) ROW.size + 4 + (ROW.size - (i * 4 + 4)) = _
   omega
  obtain ⟨c2, h2, e2⟩ := cells_heap w.heap.size 24 (flatR (xs.drop i)) ((i + 1) * 4) (W1.setCells w.heap.size (i * 4) (rCells x)).drew c1 h1 (by rw [hdl]; omega)
  have l2 : c2.size = ROW.size := by
   rw [← Array.length_toList, e2, List.length_append, List.length_append, List.length_take, List.length_drop, Array.length_toList, hdl]
   omega
  have hlen : (xs.take i ++ x :: xs.drop i).length = n + 1 := by rw [List.length_append, List.length_take, List.length_cons, List.length_drop]; omega
  refine ⟨mkR hB.size h2 hlen hGn hGm (by omega) ?_, ?_⟩
  ·rw [e2, e1, show (i + 1) * 4 = i * 4 + 4 by omega, show (n + 1) * 4 = i * 4 + 4 + (n - i) * 4 by omega]
   rw [ins_grow ROW.toList (rCells x) (flatR (xs.drop i)) (i * 4) ((n - i) * 4) rfl hdl (by rw [Array.length_toList]; omega), hRt, flatR_take xs i (by omega), flatR_app]
   show _ = flatR (xs.take i) ++ (rCells x ++ flatR (xs.drop i))
   rw [List.append_assoc]
  ·refine below_cells hB.size _ _ _ (below_drew1 (below_cells hB.size _ _ _ ?_))
   rw [hW1]
   exact (below_drew1 hB).alloc hB.size _
 have HE := Aside0.mk hend;have HW1 := Aside0.mk hW1
 have hD : (w.alloc (.cells ROW 24)).drew = W1 := by rw [hW1]; rfl
 have hE1 : ∀ x, ((w.alloc (.cells ROW 24)).drew).cell? x = W1.cell? x := fun x => by rw [hD]
 have hE2 : ∀ x, ((w.alloc (.cells ROW 24)).drew).frozen? x = W1.frozen? x := fun x => by rw [hD]
 have hF1 : ∀ y, (((w.alloc (.cells ROW 24)).drew.setCells w.heap.size (i * 4) (rCells x)).drew).cell? y = (W1.setCells w.heap.size (i * 4) (rCells x)).cell? y := fun y => by rw [hD]; exact drew_cell _ y
 have hF2 : ∀ y, (((w.alloc (.cells ROW 24)).drew.setCells w.heap.size (i * 4) (rCells x)).drew).frozen? y = (W1.setCells w.heap.size (i * 4) (rCells x)).frozen? y := fun y => by rw [hD]; exact drew_frozen _ y
 have hcut0 := cut_from (P := Try.prog) 33 24 .i64 Try.underlying33 hi0 4 hzs (some ⟨g, 0, none⟩) n c (i : Int) (by omega) (by omega);have hcut1 := cut_to (P := Try.prog) 33 24 .i64 Try.underlying33 hi0 (some ⟨g, 0, none⟩) n c (i : Int) (by omega) (by omega) hnc;have hcut2 := cut_from (P := Try.prog) 33 24 .i64 Try.underlying33 hi0 4 hzs (some ⟨w.heap.size, 0, none⟩) (n + 1) G (i : Int) (by omega) (by omega);have hcut3 := cut_from (P := Try.prog) 33 24 .i64 Try.underlying33 hi0 4 hzs (some ⟨w.heap.size, 0, none⟩) (n + 1) G ((i + 1 : Nat) : Int) (by omega) (by omega)
 have hadd : ∀ (b q : Nat), (some (⟨b, 0, none⟩ : Addr)).map (·.add q) = some ⟨b, q, none⟩ := fun b q => by show some (Addr.add _ _) = _; rw [Addr.add_lit, Nat.zero_add]
 rw [Int.toNat_natCast, if_neg hci, hadd] at hcut0
 rw [Int.toNat_natCast] at hcut1
 rw [Int.toNat_natCast, if_neg hGi, hadd] at hcut2
 rw [Int.toNat_natCast, if_neg hGim, hadd, Nat.add_sub_add_right] at hcut3
 have hw1 := small_a hi hbig;have hw2 := small_b hbig;have hw3 := small_c hi hbig;have hk1 := small_d hi hbig;obtain ⟨hk2, hk3, hk4, hk5⟩ := small_e hi;clear hold hROW hG hRl hRt hend hW1 hcs0 hvs0 ht hfl hO hB hv hh hN hNf hOb hOv hi0 hz0 hzs hzb hadd hdl hW1h hcs hcm hbg hGm
 have mixed : Try.prog.follows .mixedOrders = true := by first | exact Eq.refl true | kernel_rfl
 go_enter Try.func72, Try.ntmps72
 go_wp2_with (first
  | (at_builtin; refine Lib.wpList_append_run _ rfl _ _ _ _ rfl _ _ rfl rfl _ _ (hrz _) ?_)
  | (at_builtin; refine wpList_copy_runI _ rfl _ _ 33 33 rfl _ _ rfl rfl (hcpA _ hE1 hE2 _ _) ?_)
  | (at_builtin; refine wpList_copy_runI _ rfl _ _ 33 33 rfl _ _ rfl rfl (hcpA _ (fun _ => rfl) (fun _ => rfl) _ _) ?_)
  | (at_builtin; refine wpList_copy_runI _ rfl _ _ 33 33 rfl _ _ rfl rfl (hcpB _ (fun _ => rfl) (fun _ => rfl) _ _ _) ?_))
 go_region_law_o (refine step_copy_runI rfl _ _ 33 33 rfl (.slice (some ⟨w.heap.size, (i + 1) * 4, none⟩) (n - i) (G - (i + 1))) (.slice (some ⟨g, i * 4, none⟩) (n - i) (c - i)) (by simp [Act.eval, Act.put]) (by simp [Act.eval, Act.put]) (hcpB (W1.setCells w.heap.size (i * 4) (rCells x)).drew (fun y => drew_cell _ y) (fun y => drew_frozen _ y) 3 (G - (i + 1)) (c - i)) ?_)
 go_wp2
 go_ret;exact ⟨_, rfl, HE.out _ rfl⟩
theorem small_f {n c i : Nat} (hroom : n + 1 ≤ c) : ¬ ((c : Int) < (n : Int) + 1) := by omega
theorem small_g {n i : Nat} (hi : i < n) : (i : Int) ≤ (n : Int) + 1 ∧ ((n : Int) + 1).toNat = n + 1 ∧ (0 : Int) ≤ (n : Int) + 1 ∧ ((i : Int) + 1) ≤ (n : Int) + 1 := by omega
set_option maxHeartbeats 4000000 in
set_option maxRecDepth 100000 in
/-- slices.Insert ahead of the end, where there is room: in place. -/
theorem putShift.calls (x : S24) (g c n i : Nat) (xs : List (S24)) (w0 w : World) (hn : xs.length = n) (hi : i < n) (hbig : n ≤ 1000000) (hroom : n + 1 ≤ c) (hO : Kd.R k24 24 w w0.heap.size (fun _ => True) (.slice (some ⟨g, 0, none⟩) n c) xs) (hB : Below w0.heap.size w0 w) (vb : Nat) (hvb : vb ≠ g) (hv : w.heap[vb]? = some (.cells (rCells x).toArray 24 (0, 0))) :
  Calls Try.prog 72 #[.slice (some ⟨g, 0, none⟩) n c, .int .i64 i, .slice (some ⟨vb, 0, none⟩) 1 1] w fun e w' => ∃ v, e = .returned v ∧ Kd.R k24 24 w' w0.heap.size (fun _ => True) v (xs.take i ++ x :: xs.drop i) ∧ Below w0.heap.size w0 w' := by
 obtain ⟨cur, hh, hbg, _, hnc, hcm, hcs, ht⟩ := unR hO;obtain ⟨i0, hi0, hz0, hzs, hzb⟩ := info_parts info24
 have hfl : (flatR xs).length = n * 4 := by rw [flatR_len, hn]
 have hcs0 : ∀ j v, (flatR xs)[j]? = some v → w.cell? ⟨g, j, none⟩ = some v := fun j v hj => by
  rw [blk_cell hh j, ← Array.getElem?_toList]
  rw [← ht, List.getElem?_take] at hj
  split at hj
  ·exact hj
  ·cases hj
 have hvs0 : ∀ j v, (rCells x)[j]? = some v → w.cell? ⟨vb, j, none⟩ = some v := fun j v hj => by rw [blk_cell hv j]; simpa using hj
 have hz2 : ¬ ((i : Int) = (n : Int)) := by omega
 have hz3 : ¬ ((c : Int) < (n : Int) + 1) := small_f (i := i) hroom
 have hN : ∀ j, j < c * 4 → (w.cell? ⟨g, j, none⟩).isSome = true := fun j hj => by rw [blk_cell hh j, Array.getElem?_eq_getElem (by omega)]; rfl
 have hNf : ∀ j, w.frozen? ⟨g, j, none⟩ = false := fun j => blk_frozen hh j
 have hdl : (flatR (xs.drop i)).length = (n - i) * 4 := by rw [flatR_len, List.length_drop, hn]
 have hsz : ∀ W, (Go.sizeOf 24).run Try.prog W = .ok 4 W := fun W => by
  have := cSz
  unfold Go.sizeOf
  simp [typeInfo, hi0, hzs]
 have hov : ∀ lb cb, (callFunc 90 #[.slice (some ⟨vb, 0, none⟩) 1 1, .slice (some ⟨g, (i + 1) * 4, none⟩) lb cb]).run Try.prog w = .ok (.value (.bool false)) w := fun lb cb => by
  rw [run_callFunc_extern Try.func90 (by kernel_rfl) (by kernel_rfl) (by kernel_rfl) (e := Extern.SlicesOverlaps.overlaps #[33, 33] #[4]) (by kernel_rfl),
   Lib.run_overlaps_apart w 33 4 24 Try.underlying33 4 hsz ⟨vb, 0, none⟩ ⟨g, (i + 1) * 4, none⟩ 1 1 lb cb hvb 24 24 4 cur.size (by unfold World.shape?; rw [hv]; rfl) (by unfold World.shape?; rw [hh]) (by omega) (blk_frozen hv 0) (blk_frozen hv 4)]
  rfl
 have hcp1 : ∀ ty dc sc, (Builtin.copy_ #[33, 33] ty #[.slice (some ⟨g, (i + 1) * 4, none⟩) (n - i) dc, .slice (some ⟨g, i * 4, none⟩) (n + 1 - i) sc]).run Try.prog w.drew = .ok (goInt (Nat.min (n + 1 - i) (n - i))) (w.drew.setCells g ((i + 1) * 4) (flatR (xs.drop i))) := fun ty dc sc =>
  copy_runk w.drew _ _ ty 24 4 g ((i + 1) * 4) (n - i) dc ⟨g, i * 4, none⟩ (n + 1 - i) sc (flatR (xs.drop i)) Try.underlying33 cSz (by rw [hdl, show Nat.min (n + 1 - i) (n - i) = n - i from Nat.min_eq_right (by omega)])
   (fun j v hj => by
    rw [Addr.add_lit, drew_cell]
    refine hcs0 (i * 4 + j) v ?_
    rw [← flatR_drop xs i (by omega), List.getElem?_drop] at hj
    exact hj)
   (fun j hj => by rw [drew_cell]; exact hN _ (by rw [hdl] at hj; omega)) (fun j hj => by rw [drew_frozen]; exact hNf _) (flatR_one _)
 obtain ⟨W1, hW1⟩ : ∃ W1, W1 = w.drew.setCells g ((i + 1) * 4) (flatR (xs.drop i)) := ⟨_, rfl⟩
 have hN1 : ∀ j, j < c * 4 → (W1.cell? ⟨g, j, none⟩).isSome = true := fun j hj => by
  rw [hW1]
  exact isSome_setCells g _ _ _ (fun t ht => by rw [drew_cell]; exact hN _ (by rw [hdl] at ht; omega)) _ (by rw [drew_cell]; exact hN j hj)
 have hcp2 : ∀ (W : World), (∀ x, W.cell? x = W1.cell? x) → (∀ x, W.frozen? x = W1.frozen? x) → ∀ ty dc, (Builtin.copy_ #[33, 33] ty #[.slice (some ⟨g, i * 4, none⟩) (n + 1 - i) dc, .slice (some ⟨vb, 0, none⟩) 1 1]).run Try.prog W = .ok (goInt (Nat.min 1 (n + 1 - i))) (W.setCells g (i * 4) (rCells x)) := fun W hWc hWf ty dc =>
  copy_runk W _ _ ty 24 4 g (i * 4) (n + 1 - i) dc ⟨vb, 0, none⟩ 1 1 (rCells x) Try.underlying33 cSz (by rw [show Nat.min 1 (n + 1 - i) = 1 from Nat.min_eq_left (by omega)]; rfl)
   (fun j v hj => by
    rw [Addr.add_lit, Nat.zero_add, hWc, hW1, World.cell?_setCells_out _ _ _ _ _ (fun h _ => absurd h hvb), drew_cell]
    exact hvs0 j v hj)
   (fun j hj => by rw [hWc]; exact hN1 _ (by have : j < 4 := hj; omega)) (fun j hj => by rw [hWf, hW1, World.frozen?_setCells, drew_frozen]; exact hNf _) (fun v hv' => flatR_one [x] v (by simpa [flatR] using hv'))
 have hend : ∀ W : World, W = W1.setCells g (i * 4) (rCells x) → Kd.R k24 24 W w0.heap.size (fun _ => True) (.slice (some ⟨g, 0, none⟩) (n + 1) c) (xs.take i ++ x :: xs.drop i) ∧ Below w0.heap.size w0 W := by
  rintro W rfl
  obtain ⟨c1, h1, e1⟩ := cells_heap g 24 (flatR (xs.drop i)) ((i + 1) * 4) w.drew cur hh (by rw [hdl]; omega)
  rw [← hW1] at h1
  have l1 : c1.size = cur.size := by
   rw [← Array.length_toList, e1, List.length_append, List.length_append, List.length_take, List.length_drop, Array.length_toList, hdl]
   omega
  obtain ⟨c2, h2, e2⟩ := cells_heap g 24 (rCells x) (i * 4) W1 c1 h1 (by show i * 4 + 4 ≤ _; omega)
  have l2 : c2.size = cur.size := by
   rw [← Array.length_toList, e2, List.length_append, List.length_append, List.length_take, List.length_drop, Array.length_toList]
   show min (i * 4) c1.size + 4 + (c1.size - (i * 4 + 4)) = _
   omega
  have hlen : (xs.take i ++ x :: xs.drop i).length = n + 1 := by rw [List.length_append, List.length_take, List.length_cons, List.length_drop]; omega
  refine ⟨mkR hbg h2 hlen hroom hcm (by omega) ?_, ?_⟩
  ·rw [e2, e1, show (i + 1) * 4 = i * 4 + 4 by omega, show (n + 1) * 4 = i * 4 + 4 + (n - i) * 4 by omega]
   have hti : cur.toList.take (i * 4) = flatR (xs.take i) := by
    rw [← flatR_take xs i (by omega), ← ht, List.take_take, Nat.min_eq_left (by omega)]
   rw [ins_shift cur.toList (rCells x) (flatR (xs.drop i)) (i * 4) ((n - i) * 4) rfl hdl (by rw [Array.length_toList]; omega), hti, flatR_app]
   show _ = flatR (xs.take i) ++ (rCells x ++ flatR (xs.drop i))
   rw [List.append_assoc]
  ·rw [hW1]
   exact below_cells hbg _ _ _ (below_cells hbg _ _ _ (below_drew1 hB))
 rw [← hW1] at hcp1
 have HE := Aside0.mk hend;have hbn := small_g hi;have hcut0 := cut_from (P := Try.prog) 33 24 .i64 Try.underlying33 hi0 4 hzs (some ⟨g, 0, none⟩) n c (i : Int) (by omega) (by omega);have hcut2 := cut_from (P := Try.prog) 33 24 .i64 Try.underlying33 hi0 4 hzs (some ⟨g, 0, none⟩) (n + 1) c (i : Int) (by omega) (by omega);have hcut3 := cut_from (P := Try.prog) 33 24 .i64 Try.underlying33 hi0 4 hzs (some ⟨g, 0, none⟩) (n + 1) c ((i + 1 : Nat) : Int) (by omega) (by omega)
 have hadd : ∀ (b q : Nat), (some (⟨b, 0, none⟩ : Addr)).map (·.add q) = some ⟨b, q, none⟩ := fun b q => by show some (Addr.add _ _) = _; rw [Addr.add_lit, Nat.zero_add]
 have hb2 : ¬ (c = i + 1) := by omega
 have hb4 : ¬ (c = i) := by omega
 have hc63 : c ≤ 9223372036854775807 := by unfold maxLen at hcm; omega
 rw [Int.toNat_natCast, if_neg hb4, hadd] at hcut0 hcut2
 rw [Int.toNat_natCast, if_neg hb2, hadd, Nat.add_sub_add_right] at hcut3
 have hw1 := small_a hi hbig;have hw2 := small_b hbig;have hk1 := small_d hi hbig;obtain ⟨hk2, hk3, hk4, hk5⟩ := small_e hi;obtain ⟨hl1, hl2, hl3, hl4⟩ := hbn
 have mixed : Try.prog.follows .mixedOrders = true := by first | exact Eq.refl true | kernel_rfl
 clear hend hW1 hcs0 hvs0 ht hfl hO hB hv hh hN hNf hN1 hi0 hz0 hzs hzb hadd hdl hcs hcm hbg hsz
 go_enter Try.func72, Try.ntmps72
 go_wp2_with (simp only [hov])
 go_region_law_o (refine step_copy_runI rfl _ _ 33 33 rfl (.slice (some ⟨g, (i + 1) * 4, none⟩) (n - i) (c - (i + 1))) (.slice (some ⟨g, i * 4, none⟩) (n + 1 - i) (c - i)) (by simp [Act.eval, Act.put]) (by simp [Act.eval, Act.put]) (hcp1 3 (c - (i + 1)) (c - i)) ?_)
 go_wp2_with (at_builtin; refine wpList_copy_runI _ rfl _ _ 33 33 rfl _ _ rfl rfl (hcp2 _ (fun _ => rfl) (fun _ => rfl) _ _) ?_)
 go_ret;exact ⟨_, rfl, HE.out _ rfl⟩
/-- One route stands ahead of another; two are alike. -/
def ltR (x y : S24) : Bool := decide (x.f1 < y.f1 ∨ x.f1 = y.f1 ∧ x.f0 < y.f0)
def eqR (x y : S24) : Bool := decide (x.f1 = y.f1 ∧ x.f0 = y.f0)
theorem ordCmp (a b : Int) : cmp_Compare_int.f a b = some (if a < b then -1 else if a > b then 1 else 0) := by
 unfold cmp_Compare_int.f cmp_isNaN_int.f
 by_cases h1 : a < b <;> by_cases h2 : a > b <;> simp [h1, h2]
theorem ordOr (x y : Int) : cmp_Or_int.f 10 [x, y] = some (if x = 0 then y else x) := by
 have e1 : wrap64 ((0 : Int) + 1) = 1 := by unfold wrap64; omega
 have e2 : wrap64 ((1 : Int) + 1) = 2 := by unfold wrap64; omega
 unfold cmp_Or_int.f
 simp only [cmp_Or_int.l0, List.length_cons, List.length_nil, rd, e1, e2]
 by_cases h : x = 0 <;> by_cases h' : y = 0 <;> simp [h, h']
theorem ordR (x r : S24) : ∃ v, impl_Route_order.f 10 x.f0 x.f1 x.f2 x.f3 r.f0 r.f1 r.f2 r.f3 = some v ∧ (v < 0 ↔ ltR x r = true) ∧ (v = 0 ↔ eqR x r = true) := by
 unfold impl_Route_order.f ltR eqR
 simp only [ordCmp, ordOr, Option.bind_some, decide_eq_true_iff];refine ⟨_, rfl, ?_, ?_⟩
 ·by_cases h1 : x.f1 < r.f1 <;> by_cases h2 : x.f1 > r.f1 <;> by_cases h3 : x.f0 < r.f0 <;> by_cases h4 : x.f0 > r.f0 <;> simp [h1, h2, h3, h4] <;> omega
 ·by_cases h1 : x.f1 < r.f1 <;> by_cases h2 : x.f1 > r.f1 <;> by_cases h3 : x.f0 < r.f0 <;> by_cases h4 : x.f0 > r.f0 <;> simp [h1, h2, h3, h4] <;> omega
theorem goesT_ {P : Program} {ops : Array Oper} {Q : Exit → Act → World → Prop} {oi : Oper} {N : Option Tmp} {a : Act} {w : World} {K : Act → World → Prop} {f : FuncId} {fn : Func} {x : Operand} {xs : Array Operand} {ts : Array TypeId} (hf : P.funcs[f]? = some fn) (hname : (fn.name == "runtime.NumGoroutine") = false) (hb : fn.body.isSome = true) (args : Array Value)
  (hw : Region.wanted oi (yielded ops a.tmps) = true) (hN : oi.dst = N) (hop : oi.op = .call { callee := .value x, args := xs, argTypes := ts }) (hx : a.eval x = .func (.func f) #[] #[]) (hargs : xs.map a.eval = args)
  (h : Calls P f args w fun e w' => ∃ v, e = .returned v ∧ K (a.put N v) w') : if Region.wanted oi (yielded ops a.tmps) = true then Oper.wp P oi a w K Q else K (a.put N undef) w := by
 refine call_ f args hw hN ?_ h;have he := enters_ hf hname hb args w
 unfold execOp
 simp [hop, resolve, Deferred.ofValue, invoke, hx, hargs, he]
theorem half_a {lo hi n : Nat} (h : lo < hi) (hn : hi ≤ n) : ((lo : Int) + (hi : Int)) / 2 < (n : Int) ∧ (0 : Int) ≤ ((lo : Int) + (hi : Int)) / 2 ∧ ((lo : Int) + (hi : Int)) / 2 = (((lo + hi) / 2 : Nat) : Int) ∧ (lo + hi) / 2 < hi ∧ lo ≤ (lo + hi) / 2 := by omega
def find5T : Bool × List (List Nat × List Nat) := (true, [([], []), ([], []), ([], []), ([1, 2], [1, 2]), ([3], [3]), ([], []), ([0, 4, 5], [0, 4, 5]), ([6], [6])])
def find5B : List Nat := [0, 0, 0, 6, 14, 0, 63, 127]
theorem find5T_tab : rtab .any (opsOf Try.f70 5) = find5T := by kernel_rfl
theorem find5T_bits : waitsOk find5T.2 find5B = true := by kernel_rfl
def find8T : Bool × List (List Nat × List Nat) := (true, [([], []), ([], []), ([], []), ([1, 2], [1, 2]), ([3], [3]), ([4], [4]), ([4], [4]), ([4], [4]), ([6, 7, 4], [4, 6, 7]), ([8, 4], [4, 8]), ([4], [4]), ([5, 9, 10, 4, 4], [4, 5, 9, 10]), ([11, 4], [4, 11]), ([4, 12], [4, 12]), ([0, 11, 0], [0]), ([13, 14, 0, 1, 2, 3, 4, 5, 6, 7, 8, 9, 10, 11, 12, 13, 14], [13])])
def find8B : List Nat := [0, 0, 0, 6, 14, 30, 30, 30, 222, 478, 30, 2046, 4094, 8190, 1, 16382]
theorem find8T_tab : rtab .any (opsOf Try.f70 8) = find8T := by kernel_rfl
theorem find8T_bits : waitsOk find8T.2 find8B = true := by kernel_rfl
set_option maxHeartbeats 2000000 in
set_option maxRecDepth 100000 in
/-- slices.BinarySearchFunc over the routes. -/
theorem putFind.calls (r : S24) (A : Option Addr) (c : Nat) (xs : List (S24)) (w : World) (hr : Kd.C k24 w A xs.length xs) (hbig : xs.length ≤ 1000000) (hmono : ∀ a b : Nat, a ≤ b → b < xs.length → ltR (rd_T24 xs (b : Int)) r = true → ltR (rd_T24 xs (a : Int)) r = true) :
  Calls Try.prog 70 #[.slice A xs.length c, .agg #[.int .i64 r.f0, .int .i64 r.f1, .int .i64 r.f2, .int .i64 r.f3], .func (.func 71) #[] #[]] w fun e w' => ∃ (m : Nat) (z : Bool), e = .returned (.tuple #[.int .i64 m, .bool z]) ∧ (m ≤ xs.length ∧ (∀ t : Nat, t < m → ltR (rd_T24 xs (t : Int)) r = true) ∧ (∀ t : Nat, m ≤ t → t < xs.length → ltR (rd_T24 xs (t : Int)) r = false) ∧ z = (decide (m < xs.length) && eqR (rd_T24 xs (m : Int)) r)) ∧ Below w.heap.size w w' := by
 have HR := Aside0.mk hr;have HB := Aside0.mk (Below.refl w.heap.size w);have M := Aside0.mk hmono
 have mixed : Try.prog.follows .mixedOrders = true := by first | exact Eq.refl true | kernel_rfl
 clear hr hmono
 go_enter Try.func70, Try.ntmps70
 go_wp2_with (first | ((with_reducible refine gate_dst (N := 4) rfl ?_); refine box_event ?hg (N := 4) ?hd (cs := #[.int .i64 r.f0, .int .i64 r.f1, .int .i64 r.f2, .int .i64 r.f3]) (t := 24) ?hr ?_; (case hd => rfl); (case hg => rfl); (case hr => first | (go_simp; done) | (go_simp; rfl)); intro ge hg w1 hbox hb; have h0 : w1.cell? ⟨ge, 0, none⟩ = some (.int .i64 r.f0) := (blk_cell hbox 0).trans rfl; have h1 : w1.cell? ⟨ge, 1, none⟩ = some (.int .i64 r.f1) := (blk_cell hbox 1).trans rfl; have h2 : w1.cell? ⟨ge, 2, none⟩ = some (.int .i64 r.f2) := (blk_cell hbox 2).trans rfl; have h3 : w1.cell? ⟨ge, 3, none⟩ = some (.int .i64 r.f3) := (blk_cell hbox 3).trans rfl; have HB1 := Aside0.mk (below_step HB.out hb); have HR1 := Aside0.mk (Kd.C_below HR.out hb); clear HB HR; clear hb hbox hg))
 have H0 := Aside0.mk h0;have H1 := Aside0.mk h1;have H2 := Aside0.mk h2;have H3 := Aside0.mk h3;clear h0 h1 h2 h3
 go_loopg [9, 10] xs.length (fun gg s9 s10 wr => ∃ lo hi : Nat, s9 = .int .i64 lo ∧ s10 = .int .i64 hi ∧ lo ≤ hi ∧ hi ≤ xs.length ∧ hi - lo ≤ gg ∧ Aside0 (Below w1.heap.size w1 wr) ∧ Aside0 ((∀ t : Nat, t < lo → ltR (rd_T24 xs (t : Int)) r = true) ∧ (∀ t : Nat, hi ≤ t → t < xs.length → ltR (rd_T24 xs (t : Int)) r = false)))
 case atStart => exact ⟨0, xs.length, rfl, rfl, Nat.zero_le _, Nat.le_refl _, by omega, ⟨Below.refl _ _⟩, ⟨⟨fun t ht => absurd ht (Nat.not_lt_zero _), fun t h1 h2 => by omega⟩⟩⟩
 case round =>
  obtain ⟨lo, hi, rfl, rfl, hlh, hin, hg, BW, I⟩ := hrel;replace H0 := Aside0.mk (show wr.cell? ⟨ge, 0, none⟩ = some (.int .i64 r.f0) from (BW.out.cell (World.block_lt_of_cell? _ _ H0.out)).trans H0.out);replace H1 := Aside0.mk (show wr.cell? ⟨ge, 1, none⟩ = some (.int .i64 r.f1) from (BW.out.cell (World.block_lt_of_cell? _ _ H1.out)).trans H1.out);replace H2 := Aside0.mk (show wr.cell? ⟨ge, 2, none⟩ = some (.int .i64 r.f2) from (BW.out.cell (World.block_lt_of_cell? _ _ H2.out)).trans H2.out);replace H3 := Aside0.mk (show wr.cell? ⟨ge, 3, none⟩ = some (.int .i64 r.f3) from (BW.out.cell (World.block_lt_of_cell? _ _ H3.out)).trans H3.out);have h0 := H0.out;have h1 := H1.out;have h2 := H2.out;have h3 := H3.out
  by_cases hlt : lo < hi
  ·obtain ⟨hm1, hm2, hm3, hm4, hm5⟩ := half_a hlt hin;obtain ⟨ad, eA, hx0, hx1, hx2, hx3⟩ := at_T24 HR1.out (((lo : Int) + (hi : Int)) / 2) hm2 hm1
   subst eA
   replace hx0 := (BW.out.cell (World.block_lt_of_cell? _ _ hx0)).trans hx0;replace hx1 := (BW.out.cell (World.block_lt_of_cell? _ _ hx1)).trans hx1;replace hx2 := (BW.out.cell (World.block_lt_of_cell? _ _ hx2)).trans hx2;replace hx3 := (BW.out.cell (World.block_lt_of_cell? _ _ hx3)).trans hx3;obtain ⟨v, hv, hv1, hv2⟩ := ordR (rd_T24 xs (((lo : Int) + (hi : Int)) / 2)) r;have HC := fun W => impl_Route_order.calls 10 _ _ _ _ _ _ _ _ v W hv;have V := Aside0.mk hv1;clear hv hv1 hv2
   generalize hy : rd_T24 xs (((lo : Int) + (hi : Int)) / 2) = y at hx0 hx1 hx2 hx3 HC V
   have Y := Aside0.mk hy;have HCA := Aside0.mk HC;have HM := Aside0.mk hm3;clear hy HC hm3
   by_cases hyx : v < 0
   ·go_wp2
    refine start_ (n := 8) (S := fun w' => w'.cell? ⟨ge, 0, none⟩ = some (.int .i64 r.f0) ∧ w'.cell? ⟨ge, 1, none⟩ = some (.int .i64 r.f1) ∧ w'.cell? ⟨ge, 2, none⟩ = some (.int .i64 r.f2) ∧ w'.cell? ⟨ge, 3, none⟩ = some (.int .i64 r.f3) ∧ w'.cell? (ad.add ((((lo : Int) + (hi : Int)) / 2).toNat * 4)) = some (.int .i64 y.f0) ∧ w'.cell? ⟨(ad.add ((((lo : Int) + (hi : Int)) / 2).toNat * 4)).block, (ad.add ((((lo : Int) + (hi : Int)) / 2).toNat * 4)).off + 1, none⟩ = some (.int .i64 y.f1) ∧ w'.cell? ⟨(ad.add ((((lo : Int) + (hi : Int)) / 2).toNat * 4)).block, (ad.add ((((lo : Int) + (hi : Int)) / 2).toNat * 4)).off + 2, none⟩ = some (.int .i64 y.f2) ∧ w'.cell? ⟨(ad.add ((((lo : Int) + (hi : Int)) / 2).toNat * 4)).block, (ad.add ((((lo : Int) + (hi : Int)) / 2).toNat * 4)).off + 3, none⟩ = some (.int .i64 y.f3)) (ds := []) (bitsA 8 0) (by kernel_rfl) rfl rfl ⟨h0, h1, h2, h3, hx0, hx1, hx2, hx3⟩ (fun hHeld => ?_);refine with_tabW find5T_tab find5T_bits (fun HT_ HW_ => ?_);have HD := Aside0.mk (below_drew1 BW.out)
    generalize wr.drew = wq at hHeld HD ⊢
    refine pure_ (i := 0) (N := some 24) (v := ?_) (a' := ?_) (bitsA 8 1) rfl rfl (any_of HT_.out (by kernel_rfl)) (fun _ _ _ => id) (yl (by rfl) ?_) ?_ ?_;rotate_left; (focus (intro w'; go_simp; with_reducible rfl));rotate_left; (focus (simp only [zs]; rfl));refine pure_ (i := 1) (N := some 25) (v := ?_) (a' := ?_) (bitsA 8 3) rfl rfl (any_of HT_.out (by kernel_rfl)) (fun _ _ _ => id) (yl (by rfl) ?_) ?_ ?_;rotate_left; (focus (intro w'; go_simp; with_reducible rfl));rotate_left; (focus (simp only [zs]; rfl));refine pure_ (i := 2) (N := some 26) (v := ?_) (a' := ?_) (bitsA 8 7) rfl rfl (any_of HT_.out (by kernel_rfl)) (fun _ _ _ => id) (yl (by rfl) ?_) ?_ ?_;rotate_left; (focus (intro w'; go_simp; with_reducible rfl));rotate_left; (focus (simp only [zs]; rfl));refine pure_ (i := 3) (N := some 27) (v := ?_) (a' := ?_) (bitsA 8 15) rfl rfl (any_of HT_.out (by kernel_rfl)) (fun _ _ _ => id) (yl (by rfl) ?_) ?_ ?_;rotate_left; (focus (intro w'; go_simp; with_reducible rfl));rotate_left; (focus (simp only [zs]; rfl));refine take_ (i := 4) (N := some 28) (v := ?_) (a' := ?_) (bitsA 8 31) rfl rfl (take_ofW HT_.out HW_.out (by kernel_rfl)) (fun _ _ _ => id) (yl (by rfl) ?_) hHeld ?_ ?_;rotate_left
    ·rintro w' ⟨s0, s1, s2, s3, s4, s5, s6, s7⟩
     go_simp;with_reducible rfl
    rotate_left; (focus (simp only [zs]; rfl));refine take_ (i := 5) (N := some 29) (v := ?_) (a' := ?_) (bitsA 8 63) rfl rfl (take_ofW HT_.out HW_.out (by kernel_rfl)) (fun _ _ _ => id) (yl (by rfl) ?_) hHeld ?_ ?_;rotate_left
    ·rintro w' ⟨s0, s1, s2, s3, s4, s5, s6, s7⟩
     go_simp;with_reducible rfl
    rotate_left; (focus (simp only [zs]; rfl));refine one_ (i := 6) (N := some 30) (bitsA 8 127) rfl rfl (one_of HT_.out (by kernel_rfl)) (by decide) (fun K hK => ?_);refine goesT_ Try.func71 (by kernel_rfl) rfl #[.agg #[.int .i64 y.f0, .int .i64 y.f1, .int .i64 y.f2, .int .i64 y.f3], .agg #[.int .i64 r.f0, .int .i64 r.f1, .int .i64 r.f2, .int .i64 r.f3]] (by rfl) rfl rfl (by rfl) (by (try simp only [zm]); first | done | rfl) ?_
    with_reducible refine (HCA.out _).mono ?_
    rintro e w3 ⟨rfl, hb⟩
    refine ⟨_, rfl, ?_⟩;have HD2 := Aside0.mk (below_step HD.out hb);refine hK.out _ _ (by obtain ⟨s0, s1, s2, s3, s4, s5, s6, s7⟩ := hHeld; exact ⟨(hb.cell (World.block_lt_of_cell? _ _ s0)).trans s0, (hb.cell (World.block_lt_of_cell? _ _ s1)).trans s1, (hb.cell (World.block_lt_of_cell? _ _ s2)).trans s2, (hb.cell (World.block_lt_of_cell? _ _ s3)).trans s3, (hb.cell (World.block_lt_of_cell? _ _ s4)).trans s4, (hb.cell (World.block_lt_of_cell? _ _ s5)).trans s5, (hb.cell (World.block_lt_of_cell? _ _ s6)).trans s6, (hb.cell (World.block_lt_of_cell? _ _ s7)).trans s7⟩) (fun hHeld => ?_);clear hK K hb HD;refine norm_ (a' := ?_) ?_ ?_;rotate_left; (focus (show Act.put _ (some 30) _ = _; simp only [zs]; rfl));refine pure_ (i := 7) (N := some 31) (v := ?_) (a' := ?_) (bitsA 8 255) rfl rfl (any_of HT_.out (by kernel_rfl)) (fun _ _ _ => id) (yl (by rfl) ?_) ?_ ?_;rotate_left; (focus (intro w'; go_simp; with_reducible rfl));rotate_left; (focus (simp only [zs]; rfl));refine done_ (done_of HT_.out (by kernel_rfl)) ?_
    go_wp2
    go_roundg (hi - ((lo + hi) / 2 + 1))
    case measure => omega
    case rel =>
     refine ⟨(lo + hi) / 2 + 1, hi, ?_, rfl, by omega, hin, Nat.le_refl _, HD2, ⟨fun t ht => M.out t ((lo + hi) / 2) (by omega) (by omega) (by rw [← HM.out, Y.out]; exact V.out.1 hyx), I.out.2⟩⟩
     rw [HM.out]; go_num
   ·go_wp2
    refine start_ (n := 8) (S := fun w' => w'.cell? ⟨ge, 0, none⟩ = some (.int .i64 r.f0) ∧ w'.cell? ⟨ge, 1, none⟩ = some (.int .i64 r.f1) ∧ w'.cell? ⟨ge, 2, none⟩ = some (.int .i64 r.f2) ∧ w'.cell? ⟨ge, 3, none⟩ = some (.int .i64 r.f3) ∧ w'.cell? (ad.add ((((lo : Int) + (hi : Int)) / 2).toNat * 4)) = some (.int .i64 y.f0) ∧ w'.cell? ⟨(ad.add ((((lo : Int) + (hi : Int)) / 2).toNat * 4)).block, (ad.add ((((lo : Int) + (hi : Int)) / 2).toNat * 4)).off + 1, none⟩ = some (.int .i64 y.f1) ∧ w'.cell? ⟨(ad.add ((((lo : Int) + (hi : Int)) / 2).toNat * 4)).block, (ad.add ((((lo : Int) + (hi : Int)) / 2).toNat * 4)).off + 2, none⟩ = some (.int .i64 y.f2) ∧ w'.cell? ⟨(ad.add ((((lo : Int) + (hi : Int)) / 2).toNat * 4)).block, (ad.add ((((lo : Int) + (hi : Int)) / 2).toNat * 4)).off + 3, none⟩ = some (.int .i64 y.f3)) (ds := []) (bitsA 8 0) (by kernel_rfl) rfl rfl ⟨h0, h1, h2, h3, hx0, hx1, hx2, hx3⟩ (fun hHeld => ?_);refine with_tabW find5T_tab find5T_bits (fun HT_ HW_ => ?_);have HD := Aside0.mk (below_drew1 BW.out)
    generalize wr.drew = wq at hHeld HD ⊢
    refine pure_ (i := 0) (N := some 24) (v := ?_) (a' := ?_) (bitsA 8 1) rfl rfl (any_of HT_.out (by kernel_rfl)) (fun _ _ _ => id) (yl (by rfl) ?_) ?_ ?_;rotate_left; (focus (intro w'; go_simp; with_reducible rfl));rotate_left; (focus (simp only [zs]; rfl));refine pure_ (i := 1) (N := some 25) (v := ?_) (a' := ?_) (bitsA 8 3) rfl rfl (any_of HT_.out (by kernel_rfl)) (fun _ _ _ => id) (yl (by rfl) ?_) ?_ ?_;rotate_left; (focus (intro w'; go_simp; with_reducible rfl));rotate_left; (focus (simp only [zs]; rfl));refine pure_ (i := 2) (N := some 26) (v := ?_) (a' := ?_) (bitsA 8 7) rfl rfl (any_of HT_.out (by kernel_rfl)) (fun _ _ _ => id) (yl (by rfl) ?_) ?_ ?_;rotate_left; (focus (intro w'; go_simp; with_reducible rfl));rotate_left; (focus (simp only [zs]; rfl));refine pure_ (i := 3) (N := some 27) (v := ?_) (a' := ?_) (bitsA 8 15) rfl rfl (any_of HT_.out (by kernel_rfl)) (fun _ _ _ => id) (yl (by rfl) ?_) ?_ ?_;rotate_left; (focus (intro w'; go_simp; with_reducible rfl));rotate_left; (focus (simp only [zs]; rfl));refine take_ (i := 4) (N := some 28) (v := ?_) (a' := ?_) (bitsA 8 31) rfl rfl (take_ofW HT_.out HW_.out (by kernel_rfl)) (fun _ _ _ => id) (yl (by rfl) ?_) hHeld ?_ ?_;rotate_left
    ·rintro w' ⟨s0, s1, s2, s3, s4, s5, s6, s7⟩
     go_simp;with_reducible rfl
    rotate_left; (focus (simp only [zs]; rfl));refine take_ (i := 5) (N := some 29) (v := ?_) (a' := ?_) (bitsA 8 63) rfl rfl (take_ofW HT_.out HW_.out (by kernel_rfl)) (fun _ _ _ => id) (yl (by rfl) ?_) hHeld ?_ ?_;rotate_left
    ·rintro w' ⟨s0, s1, s2, s3, s4, s5, s6, s7⟩
     go_simp;with_reducible rfl
    rotate_left; (focus (simp only [zs]; rfl));refine one_ (i := 6) (N := some 30) (bitsA 8 127) rfl rfl (one_of HT_.out (by kernel_rfl)) (by decide) (fun K hK => ?_);refine goesT_ Try.func71 (by kernel_rfl) rfl #[.agg #[.int .i64 y.f0, .int .i64 y.f1, .int .i64 y.f2, .int .i64 y.f3], .agg #[.int .i64 r.f0, .int .i64 r.f1, .int .i64 r.f2, .int .i64 r.f3]] (by rfl) rfl rfl (by rfl) (by (try simp only [zm]); first | done | rfl) ?_
    with_reducible refine (HCA.out _).mono ?_
    rintro e w3 ⟨rfl, hb⟩
    refine ⟨_, rfl, ?_⟩;have HD2 := Aside0.mk (below_step HD.out hb);refine hK.out _ _ (by obtain ⟨s0, s1, s2, s3, s4, s5, s6, s7⟩ := hHeld; exact ⟨(hb.cell (World.block_lt_of_cell? _ _ s0)).trans s0, (hb.cell (World.block_lt_of_cell? _ _ s1)).trans s1, (hb.cell (World.block_lt_of_cell? _ _ s2)).trans s2, (hb.cell (World.block_lt_of_cell? _ _ s3)).trans s3, (hb.cell (World.block_lt_of_cell? _ _ s4)).trans s4, (hb.cell (World.block_lt_of_cell? _ _ s5)).trans s5, (hb.cell (World.block_lt_of_cell? _ _ s6)).trans s6, (hb.cell (World.block_lt_of_cell? _ _ s7)).trans s7⟩) (fun hHeld => ?_);clear hK K hb HD;refine norm_ (a' := ?_) ?_ ?_;rotate_left; (focus (show Act.put _ (some 30) _ = _; simp only [zs]; rfl));refine pure_ (i := 7) (N := some 31) (v := ?_) (a' := ?_) (bitsA 8 255) rfl rfl (any_of HT_.out (by kernel_rfl)) (fun _ _ _ => id) (yl (by rfl) ?_) ?_ ?_;rotate_left; (focus (intro w'; go_simp; with_reducible rfl));rotate_left; (focus (simp only [zs]; rfl));refine done_ (done_of HT_.out (by kernel_rfl)) ?_
    go_wp2
    go_roundg ((lo + hi) / 2 - lo)
    case measure => omega
    case rel =>
     refine ⟨lo, (lo + hi) / 2, rfl, by rw [HM.out], by omega, by omega, Nat.le_refl _, HD2, ⟨I.out.1, fun t ht htn => Bool.eq_false_iff.2 fun h => ?_⟩⟩;have := M.out ((lo + hi) / 2) t ht htn h
     rw [← HM.out, Y.out] at this
     have := V.out.2 this;omega
  ·obtain rfl : lo = hi := by omega
   by_cases hn : lo < xs.length
   ·have hm1 : (lo : Int) < (xs.length : Int) := by omega
    have hm2 : (0 : Int) ≤ (lo : Int) := by omega
    obtain ⟨ad, eA, hx0, hx1, hx2, hx3⟩ := at_T24 HR1.out (lo : Int) hm2 hm1
    subst eA
    replace hx0 := (BW.out.cell (World.block_lt_of_cell? _ _ hx0)).trans hx0;replace hx1 := (BW.out.cell (World.block_lt_of_cell? _ _ hx1)).trans hx1;replace hx2 := (BW.out.cell (World.block_lt_of_cell? _ _ hx2)).trans hx2;replace hx3 := (BW.out.cell (World.block_lt_of_cell? _ _ hx3)).trans hx3;simp only [Int.toNat_natCast] at hx0 hx1 hx2 hx3;obtain ⟨v, hv, hv1, hv2⟩ := ordR (rd_T24 xs (lo : Int)) r;have HC := fun W => impl_Route_order.calls 10 _ _ _ _ _ _ _ _ v W hv;have V := Aside0.mk hv2;clear hv hv1 hv2
    generalize hy : rd_T24 xs (lo : Int) = y at hx0 hx1 hx2 hx3 HC V
    have Y := Aside0.mk hy;have HCA := Aside0.mk HC;clear hy HC
    go_wp2
    refine start_ (n := 16) (S := fun w' => w'.cell? ⟨ge, 0, none⟩ = some (.int .i64 r.f0) ∧ w'.cell? ⟨ge, 1, none⟩ = some (.int .i64 r.f1) ∧ w'.cell? ⟨ge, 2, none⟩ = some (.int .i64 r.f2) ∧ w'.cell? ⟨ge, 3, none⟩ = some (.int .i64 r.f3) ∧ w'.cell? (ad.add (lo * 4)) = some (.int .i64 y.f0) ∧ w'.cell? ⟨(ad.add (lo * 4)).block, (ad.add (lo * 4)).off + 1, none⟩ = some (.int .i64 y.f1) ∧ w'.cell? ⟨(ad.add (lo * 4)).block, (ad.add (lo * 4)).off + 2, none⟩ = some (.int .i64 y.f2) ∧ w'.cell? ⟨(ad.add (lo * 4)).block, (ad.add (lo * 4)).off + 3, none⟩ = some (.int .i64 y.f3)) (ds := []) (bitsA 16 0) (by kernel_rfl) rfl rfl ⟨h0, h1, h2, h3, hx0, hx1, hx2, hx3⟩ (fun hHeld => ?_);refine with_tabW find8T_tab find8T_bits (fun HT_ HW_ => ?_);have HD := Aside0.mk (below_drew1 BW.out)
    generalize wr.drew = wq at hHeld HD ⊢
    refine pure_ (i := 0) (N := some 35) (v := ?_) (a' := ?_) (bitsA 16 1) rfl rfl (any_of HT_.out (by kernel_rfl)) (fun _ _ _ => id) (yl (by rfl) ?_) ?_ ?_;rotate_left; (focus (intro w'; go_simp; with_reducible rfl));rotate_left; (focus (simp only [zs]; rfl));refine pure_ (i := 1) (N := some 36) (v := ?_) (a' := ?_) (bitsA 16 3) rfl rfl (any_of HT_.out (by kernel_rfl)) (fun _ _ _ => id) (yl (by rfl) ?_) ?_ ?_;rotate_left; (focus (intro w'; go_simp; with_reducible rfl));rotate_left; (focus (simp only [zs]; rfl));refine pure_ (i := 2) (N := some 37) (v := ?_) (a' := ?_) (bitsA 16 7) rfl rfl (any_of HT_.out (by kernel_rfl)) (fun _ _ _ => id) (yl (by rfl) ?_) ?_ ?_;rotate_left; (focus (intro w'; go_simp; with_reducible rfl));rotate_left; (focus (simp only [zs]; rfl));refine pure_ (i := 3) (N := some 38) (v := ?_) (a' := ?_) (bitsA 16 15) rfl rfl (any_of HT_.out (by kernel_rfl)) (fun _ _ _ => id) (yl (by rfl) ?_) ?_ ?_;rotate_left; (focus (intro w'; go_simp; with_reducible rfl));rotate_left; (focus (simp only [zs]; rfl));refine pure_ (i := 4) (N := some 39) (v := ?_) (a' := ?_) (bitsA 16 31) rfl rfl (any_of HT_.out (by kernel_rfl)) (fun _ _ _ => id) (yl (by rfl) ?_) ?_ ?_;rotate_left; (focus (intro w'; go_simp; with_reducible rfl));rotate_left; (focus (simp only [zs]; rfl));refine pure_ (i := 5) (N := some 40) (v := ?_) (a' := ?_) (bitsA 16 63) rfl rfl (any_of HT_.out (by kernel_rfl)) (fun _ _ _ => id) (yl (by rfl) ?_) ?_ ?_;rotate_left; (focus (intro w'; go_simp; with_reducible rfl));rotate_left; (focus (simp only [zs]; rfl));refine pure_ (i := 6) (N := some 41) (v := ?_) (a' := ?_) (bitsA 16 127) rfl rfl (any_of HT_.out (by kernel_rfl)) (fun _ _ _ => id) (yl (by rfl) ?_) ?_ ?_;rotate_left; (focus (intro w'; go_simp; with_reducible rfl));rotate_left; (focus (simp only [zs]; rfl));refine pure_ (i := 7) (N := some 42) (v := ?_) (a' := ?_) (bitsA 16 255) rfl rfl (any_of HT_.out (by kernel_rfl)) (fun _ _ _ => id) (yl (by rfl) ?_) ?_ ?_;rotate_left; (focus (intro w'; go_simp; with_reducible rfl));rotate_left; (focus (simp only [zs]; rfl));refine pure_ (i := 8) (N := some 43) (v := ?_) (a' := ?_) (bitsA 16 511) rfl rfl (any_of HT_.out (by kernel_rfl)) (fun _ _ _ => id) (yl (by rfl) ?_) ?_ ?_;rotate_left; (focus (intro w'; go_simp; with_reducible rfl));rotate_left; (focus (simp only [zs]; rfl));refine take_ (i := 9) (N := some 44) (v := ?_) (a' := ?_) (bitsA 16 1023) rfl rfl (take_ofW HT_.out HW_.out (by kernel_rfl)) (fun _ _ _ => id) (yl (by rfl) ?_) hHeld ?_ ?_;rotate_left
    ·rintro w' ⟨s0, s1, s2, s3, s4, s5, s6, s7⟩
     go_simp;with_reducible rfl
    rotate_left; (focus (simp only [zs]; rfl));refine take_ (i := 10) (N := some 45) (v := ?_) (a' := ?_) (bitsA 16 2047) rfl rfl (take_ofW HT_.out HW_.out (by kernel_rfl)) (fun _ _ _ => id) (yl (by rfl) ?_) hHeld ?_ ?_;rotate_left
    ·rintro w' ⟨s0, s1, s2, s3, s4, s5, s6, s7⟩
     go_simp;with_reducible rfl
    rotate_left; (focus (simp only [zs]; rfl));refine one_ (i := 11) (N := some 46) (bitsA 16 4095) rfl rfl (one_of HT_.out (by kernel_rfl)) (by decide) (fun K hK => ?_);refine goesT_ Try.func71 (by kernel_rfl) rfl #[.agg #[.int .i64 y.f0, .int .i64 y.f1, .int .i64 y.f2, .int .i64 y.f3], .agg #[.int .i64 r.f0, .int .i64 r.f1, .int .i64 r.f2, .int .i64 r.f3]] (by rfl) rfl rfl (by rfl) (by (try simp only [zm]); first | done | rfl) ?_
    with_reducible refine (HCA.out _).mono ?_
    rintro e w3 ⟨rfl, hb⟩
    refine ⟨_, rfl, ?_⟩;have HD2 := Aside0.mk (below_step HD.out hb);refine hK.out _ _ (by obtain ⟨s0, s1, s2, s3, s4, s5, s6, s7⟩ := hHeld; exact ⟨(hb.cell (World.block_lt_of_cell? _ _ s0)).trans s0, (hb.cell (World.block_lt_of_cell? _ _ s1)).trans s1, (hb.cell (World.block_lt_of_cell? _ _ s2)).trans s2, (hb.cell (World.block_lt_of_cell? _ _ s3)).trans s3, (hb.cell (World.block_lt_of_cell? _ _ s4)).trans s4, (hb.cell (World.block_lt_of_cell? _ _ s5)).trans s5, (hb.cell (World.block_lt_of_cell? _ _ s6)).trans s6, (hb.cell (World.block_lt_of_cell? _ _ s7)).trans s7⟩) (fun hHeld => ?_);clear hK K hb HD;refine norm_ (a' := ?_) ?_ ?_;rotate_left; (focus (show Act.put _ (some 46) _ = _; simp only [zs]; rfl));refine pure_ (i := 12) (N := some 47) (v := ?_) (a' := ?_) (bitsA 16 8191) rfl rfl (any_of HT_.out (by kernel_rfl)) (fun _ _ _ => id) (yl (by rfl) ?_) ?_ ?_;rotate_left; (focus (intro w'; go_simp; with_reducible rfl));rotate_left; (focus (simp only [zs]; rfl));refine pure_ (i := 13) (N := some 48) (v := ?_) (a' := ?_) (bitsA 16 16383) rfl rfl (any_of HT_.out (by kernel_rfl)) (fun _ _ _ => id) (yl (by rfl) ?_) ?_ ?_;rotate_left; (focus (intro w'; go_simp; with_reducible rfl));rotate_left; (focus (simp only [zs]; rfl));refine pure_ (i := 14) (N := some 6) (v := ?_) (a' := ?_) (bitsA 16 32767) rfl rfl (any_of HT_.out (by kernel_rfl)) (fun _ _ _ => id) (yl (by rfl) ?_) ?_ ?_;rotate_left; (focus (intro w'; go_simp; with_reducible rfl));rotate_left; (focus (simp only [zs]; rfl));refine pure_ (i := 15) (N := some 7) (v := ?_) (a' := ?_) (bitsA 16 65535) rfl rfl (any_of HT_.out (by kernel_rfl)) (fun _ _ _ => id) (yl (by rfl) ?_) ?_ ?_;rotate_left; (focus (intro w'; go_simp; with_reducible rfl));rotate_left; (focus (simp only [zs]; rfl));refine done_ (done_of HT_.out (by kernel_rfl)) ?_
    go_wp2
    go_ret2
    exact ⟨lo, (v == 0), rfl, ⟨hin, I.out.1, I.out.2, by rw [Y.out, decide_eq_true hn, Bool.true_and]; exact Bool.eq_iff_iff.2 (by rw [beq_iff_eq]; exact V.out)⟩, below_step HB1.out HD2.out⟩
   ·have hm1 : ¬ (lo : Int) < (xs.length : Int) := by omega
    go_wp2
    refine start_ (n := 16) (S := fun w' => w'.cell? ⟨ge, 0, none⟩ = some (.int .i64 r.f0) ∧ w'.cell? ⟨ge, 1, none⟩ = some (.int .i64 r.f1) ∧ w'.cell? ⟨ge, 2, none⟩ = some (.int .i64 r.f2) ∧ w'.cell? ⟨ge, 3, none⟩ = some (.int .i64 r.f3)) (ds := []) (bitsA 16 0) (by kernel_rfl) rfl rfl ⟨h0, h1, h2, h3⟩ (fun hHeld => ?_);refine with_tabW find8T_tab find8T_bits (fun HT_ HW_ => ?_);have HD := Aside0.mk (below_drew1 BW.out)
    generalize wr.drew = wq at hHeld HD ⊢
    refine pure_ (i := 0) (N := some 35) (v := ?_) (a' := ?_) (bitsA 16 1) rfl rfl (any_of HT_.out (by kernel_rfl)) (fun _ _ _ => id) (yl (by rfl) ?_) ?_ ?_;rotate_left; (focus (intro w'; go_simp; with_reducible rfl));rotate_left; (focus (simp only [zs]; rfl));refine pure_ (i := 1) (N := some 36) (v := ?_) (a' := ?_) (bitsA 16 3) rfl rfl (any_of HT_.out (by kernel_rfl)) (fun _ _ _ => id) (yl (by rfl) ?_) ?_ ?_;rotate_left; (focus (intro w'; go_simp; with_reducible rfl));rotate_left; (focus (simp only [zs]; rfl));refine pure_ (i := 2) (N := some 37) (v := ?_) (a' := ?_) (bitsA 16 7) rfl rfl (any_of HT_.out (by kernel_rfl)) (fun _ _ _ => id) (yl (by rfl) ?_) ?_ ?_;rotate_left; (focus (intro w'; go_simp; with_reducible rfl));rotate_left; (focus (simp only [zs]; rfl));refine pure_ (i := 3) (N := some 38) (v := ?_) (a' := ?_) (bitsA 16 15) rfl rfl (any_of HT_.out (by kernel_rfl)) (fun _ _ _ => id) (yl (by rfl) ?_) ?_ ?_;rotate_left; (focus (intro w'; go_simp; with_reducible rfl));rotate_left; (focus (simp only [zs]; rfl));refine pure_ (i := 4) (N := some 39) (v := ?_) (a' := ?_) (bitsA 16 31) rfl rfl (any_of HT_.out (by kernel_rfl)) (fun _ _ _ => id) (yl (by rfl) ?_) ?_ ?_;rotate_left; (focus (intro w'; go_simp; with_reducible rfl));rotate_left; (focus (simp only [zs]; rfl));refine pure_ (i := 5) (N := some 40) (v := undef) (a' := ?_) (bitsA 16 63) rfl rfl (any_of HT_.out (by kernel_rfl)) (fun _ _ _ => id) (Or.inr ⟨by rfl, rfl⟩) ?_ ?_;rotate_left; (focus (simp only [zs]; rfl));refine pure_ (i := 6) (N := some 41) (v := undef) (a' := ?_) (bitsA 16 127) rfl rfl (any_of HT_.out (by kernel_rfl)) (fun _ _ _ => id) (Or.inr ⟨by rfl, rfl⟩) ?_ ?_;rotate_left; (focus (simp only [zs]; rfl));refine pure_ (i := 7) (N := some 42) (v := undef) (a' := ?_) (bitsA 16 255) rfl rfl (any_of HT_.out (by kernel_rfl)) (fun _ _ _ => id) (Or.inr ⟨by rfl, rfl⟩) ?_ ?_;rotate_left; (focus (simp only [zs]; rfl));refine pure_ (i := 8) (N := some 43) (v := undef) (a' := ?_) (bitsA 16 511) rfl rfl (any_of HT_.out (by kernel_rfl)) (fun _ _ _ => id) (Or.inr ⟨by rfl, rfl⟩) ?_ ?_;rotate_left; (focus (simp only [zs]; rfl));refine pure_ (i := 9) (N := some 44) (v := undef) (a' := ?_) (bitsA 16 1023) rfl rfl (any_of HT_.out (by kernel_rfl)) (fun _ _ _ => id) (Or.inr ⟨by rfl, rfl⟩) ?_ ?_;rotate_left; (focus (simp only [zs]; rfl));refine pure_ (i := 10) (N := some 45) (v := undef) (a' := ?_) (bitsA 16 2047) rfl rfl (any_of HT_.out (by kernel_rfl)) (fun _ _ _ => id) (Or.inr ⟨by rfl, rfl⟩) ?_ ?_;rotate_left; (focus (simp only [zs]; rfl));refine pure_ (i := 11) (N := some 46) (v := undef) (a' := ?_) (bitsA 16 4095) rfl rfl (any_of HT_.out (by kernel_rfl)) (fun _ _ _ => id) (Or.inr ⟨by rfl, rfl⟩) ?_ ?_;rotate_left; (focus (simp only [zs]; rfl));refine pure_ (i := 12) (N := some 47) (v := undef) (a' := ?_) (bitsA 16 8191) rfl rfl (any_of HT_.out (by kernel_rfl)) (fun _ _ _ => id) (Or.inr ⟨by rfl, rfl⟩) ?_ ?_;rotate_left; (focus (simp only [zs]; rfl));refine pure_ (i := 13) (N := some 48) (v := ?_) (a' := ?_) (bitsA 16 16383) rfl rfl (any_of HT_.out (by kernel_rfl)) (fun _ _ _ => id) (yl (by rfl) ?_) ?_ ?_;rotate_left; (focus (intro w'; go_simp; with_reducible rfl));rotate_left; (focus (simp only [zs]; rfl));refine pure_ (i := 14) (N := some 6) (v := ?_) (a' := ?_) (bitsA 16 32767) rfl rfl (any_of HT_.out (by kernel_rfl)) (fun _ _ _ => id) (yl (by rfl) ?_) ?_ ?_;rotate_left; (focus (intro w'; go_simp; with_reducible rfl));rotate_left; (focus (simp only [zs]; rfl));refine pure_ (i := 15) (N := some 7) (v := ?_) (a' := ?_) (bitsA 16 65535) rfl rfl (any_of HT_.out (by kernel_rfl)) (fun _ _ _ => id) (yl (by rfl) ?_) ?_ ?_;rotate_left; (focus (intro w'; go_simp; with_reducible rfl));rotate_left; (focus (simp only [zs]; rfl));refine done_ (done_of HT_.out (by kernel_rfl)) ?_
    go_wp2
    go_ret2
    exact ⟨lo, false, rfl, ⟨hin, I.out.1, I.out.2, by simp [hn]⟩, below_step HB1.out HD.out⟩
theorem rdR (xs : List (S24)) (i : Nat) (h : i < xs.length) : rd_T24 xs (i : Int) = xs[i] := by
 unfold rd_T24; simp [List.getD_eq_getElem?_getD, List.getElem?_eq_getElem h]
/-- Routes with one more, in its place, or in the place of the one that is alike. -/
def putR (xs : List (S24)) (r : S24) : List (S24) := xs.filter (fun x => ltR x r) ++ r :: xs.filter (fun x => ltR r x)
theorem ltR_iff (x y : S24) : ltR x y = true ↔ x.f1 < y.f1 ∨ x.f1 = y.f1 ∧ x.f0 < y.f0 := by unfold ltR; exact decide_eq_true_iff
theorem eqR_iff (x y : S24) : eqR x y = true ↔ x.f1 = y.f1 ∧ x.f0 = y.f0 := by unfold eqR; exact decide_eq_true_iff
theorem ltR_asymm {x y : S24} (h : ltR x y = true) : ltR y x = false := by
 refine Bool.eq_false_iff.2 fun h' => ?_
 rw [ltR_iff] at h h'
 omega
theorem ltR_trans {x y z : S24} (h : ltR x y = true) (h' : ltR y z = true) : ltR x z = true := by
 rw [ltR_iff] at h h' ⊢
 omega
theorem ltR_eq {x y z : S24} (h : eqR x y = true) (h' : ltR x z = true) : ltR y z = true := by
 rw [eqR_iff] at h; rw [ltR_iff] at h' ⊢
 omega
theorem ltR_else {x y : S24} (h : ltR x y = false) (h' : eqR x y = false) : ltR y x = true := by
 have h1 : ¬ (x.f1 < y.f1 ∨ x.f1 = y.f1 ∧ x.f0 < y.f0) := fun e => Bool.eq_false_iff.1 h ((ltR_iff x y).2 e);have h2 : ¬ (x.f1 = y.f1 ∧ x.f0 = y.f0) := fun e => Bool.eq_false_iff.1 h' ((eqR_iff x y).2 e)
 rw [ltR_iff]
 omega
theorem put_mono {xs : List (S24)} (hs : xs.Pairwise (fun x y => ltR x y = true)) (r : S24) : ∀ a b : Nat, a ≤ b → b < xs.length → ltR (rd_T24 xs (b : Int)) r = true → ltR (rd_T24 xs (a : Int)) r = true := by
 intro a b hab hb h
 rw [rdR xs b hb] at h
 rw [rdR xs a (by omega)]
 by_cases e : a = b
 ·subst e; exact h
 ·exact ltR_trans (List.pairwise_iff_getElem.1 hs a b (by omega) hb (by omega)) h
theorem put_take {xs : List (S24)} {r : S24} {m : Nat} (hm : m ≤ xs.length) (hlo : ∀ t : Nat, t < m → ltR (rd_T24 xs (t : Int)) r = true) (hhi : ∀ t : Nat, m ≤ t → t < xs.length → ltR (rd_T24 xs (t : Int)) r = false) :
  xs.filter (fun x => ltR x r) = xs.take m ∧ (xs.take m).filter (fun x => ltR r x) = [] := by
 have h1 : ∀ x ∈ xs.take m, ltR x r = true := fun x hx => by
  obtain ⟨t, ht, rfl⟩ := List.getElem_of_mem hx
  rw [List.length_take] at ht
  rw [List.getElem_take, ← rdR xs t (by omega)]
  exact hlo t (by omega)
 have h2 : ∀ x ∈ xs.drop m, ltR x r = false := fun x hx => by
  obtain ⟨t, ht, rfl⟩ := List.getElem_of_mem hx
  rw [List.length_drop] at ht
  rw [List.getElem_drop, ← rdR xs (m + t) (by omega)]
  exact hhi (m + t) (by omega) (by omega)
 refine ⟨?_, List.filter_eq_nil_iff.2 fun x hx => by rw [ltR_asymm (h1 x hx)]; decide⟩
 conv => lhs; rw [← List.take_append_drop m xs]
 rw [List.filter_append, List.filter_eq_self.2 h1, List.filter_eq_nil_iff.2 (fun x hx => by rw [h2 x hx]; decide), List.append_nil]
theorem put_at {xs : List (S24)} {r : S24} (hs : xs.Pairwise (fun x y => ltR x y = true)) {m : Nat} (hm : m < xs.length) (hlo : ∀ t : Nat, t < m → ltR (rd_T24 xs (t : Int)) r = true) (hhi : ∀ t : Nat, m ≤ t → t < xs.length → ltR (rd_T24 xs (t : Int)) r = false) :
  (eqR (rd_T24 xs (m : Int)) r = true → putR xs r = xs.set m r) ∧ (eqR (rd_T24 xs (m : Int)) r = false → putR xs r = xs.take m ++ r :: xs.drop m) := by
 obtain ⟨h1, h2⟩ := put_take (by omega) hlo hhi;have h0 := hhi m (Nat.le_refl _) hm
 rw [rdR xs m hm] at h0 ⊢
 have hd : ∀ x ∈ xs.drop (m + 1), ltR xs[m] x = true := fun x hx => by
  obtain ⟨t, ht, rfl⟩ := List.getElem_of_mem hx
  rw [List.length_drop] at ht
  rw [List.getElem_drop]
  exact List.pairwise_iff_getElem.1 hs m (m + 1 + t) hm (by omega) (by omega)
 have hsplit : xs.filter (fun x => ltR r x) = (xs[m] :: xs.drop (m + 1)).filter (fun x => ltR r x) := by
  conv => lhs; rw [← List.take_append_drop m xs]
  rw [List.filter_append, h2, List.nil_append, List.drop_eq_getElem_cons hm]
 refine ⟨fun he => ?_, fun he => ?_⟩
 ·have hx : ltR r xs[m] = false := by
   refine Bool.eq_false_iff.2 fun h => ?_
   rw [eqR_iff] at he; rw [ltR_iff] at h
   omega
  unfold putR
  rw [h1, hsplit, List.filter_cons_of_neg (by rw [hx]; decide), List.filter_eq_self.2 (fun x hx => ltR_eq he (hd x hx)), List.set_eq_take_append_cons_drop, if_pos hm]
 ·have hx := ltR_else h0 he
  unfold putR
  rw [h1, hsplit, List.filter_eq_self.2 (fun x hx' => by
   rcases List.mem_cons.1 hx' with rfl | h
   ·exact hx
   ·exact ltR_trans hx (hd x h)), ← List.drop_eq_getElem_cons hm]
theorem put_end {xs : List (S24)} {r : S24} (hlo : ∀ t : Nat, t < xs.length → ltR (rd_T24 xs (t : Int)) r = true) : putR xs r = xs.take xs.length ++ r :: xs.drop xs.length := by
 obtain ⟨h1, h2⟩ := put_take (Nat.le_refl _) hlo (fun t h1 h2 => by omega)
 rw [List.take_length] at h1 h2
 unfold putR
 rw [h1, h2, List.take_length, List.drop_length]
/-- slices.Insert of one route. -/
theorem putIns.calls (x : S24) (A : Option Addr) (c n i : Nat) (xs : List (S24)) (w0 wO w : World) (hn : xs.length = n) (hi : i ≤ n) (hbig : n ≤ 1000000) (hOo : Kd.R k24 24 wO w0.heap.size (fun _ => True) (.slice A n c) xs) (hO : Kd.R k24 24 w w0.heap.size (fun _ => True) (.slice A n c) xs) (hB : Below w0.heap.size w0 w) (vb : Nat) (hvb : wO.heap.size ≤ vb) (hv : w.heap[vb]? = some (.cells (rCells x).toArray 24 (0, 0))) :
  Calls Try.prog 72 #[.slice A n c, .int .i64 i, .slice (some ⟨vb, 0, none⟩) 1 1] w fun e w' => ∃ v, e = .returned v ∧ Kd.R k24 24 w' w0.heap.size (fun _ => True) v (xs.take i ++ x :: xs.drop i) ∧ Below w0.heap.size w0 w' := by
 by_cases h : i < n
 ·obtain ⟨g, rfl⟩ : ∃ g, A = some ⟨g, 0, none⟩ := by
   obtain ⟨_, inner, ⟨hl, hown⟩, hr⟩ := hO
   rcases hown with ⟨he, _⟩ | ⟨g', cap, cur, he, _⟩
   ·injection he with h1 h2 h3
    omega
   ·injection he with h1 h2 h3
    exact ⟨g', h1⟩
  have hg := Kd.R_lt hOo g rfl
  by_cases hc : c < n + 1
  ·exact putGrow.calls x g c n i xs w0 w hn h hbig hc hO hB vb hv
  ·exact putShift.calls x g c n i xs w0 w hn h hbig (by omega) hO hB vb (by omega) hv
 ·obtain rfl : i = n := by omega
  subst hn
  rw [List.take_length, List.drop_length]
  exact putEnd.calls x A c xs w0 w hbig hO hB vb hv
set_option maxHeartbeats 1000000 in
/-- slices.Clone of routes. -/
theorem putClone.calls (A0 : Option Addr) (c0 : Nat) (l0 : List (S24)) (w : World) (hr0 : Kd.C k24 w A0 l0.length l0) (hbig : l0.length ≤ 1099511627776) :
  Calls Try.prog 69 #[.slice A0 l0.length c0] w fun e w' => ∃ v, e = .returned v ∧ Kd.R k24 24 w' w.heap.size (fun _ => True) v l0 ∧ Below w.heap.size w w' := by
 cases A0 with
 | none =>
  have h0 : l0 = [] := by
   cases l0 with
   | nil => rfl
   | cons x xs =>
    obtain ⟨ad, e, _⟩ := at_T24 hr0 0 (by omega) (by simp only [List.length_cons]; omega)
    cases e
  subst h0
  clear hr0 hbig;simp only [List.length_nil];have he : ∀ w, (binOp .eql 33 (.slice none 0 c0) (.slice none 0 0)).run Try.prog w = .ok (.bool true) w := fun w => Lib.run_eql_slice_nil w _ _ none 0 c0 0 0 Try.underlying33
  go_enter Try.func69, Try.ntmps69
  go_wp2
  go_ret;exact ⟨_, rfl, Kd.R_nil _ _ _ _ _, Below.refl _ _⟩
 | some ad =>
  have he : ∀ w, (binOp .eql 33 (.slice (some ad) l0.length c0) (.slice none 0 0)).run Try.prog w = .ok (.bool false) w := fun w => Lib.run_eql_slice_nil w _ _ (some ad) _ c0 0 0 Try.underlying33;have HR := Aside0.mk hr0;have HL := Aside0.mk hbig;clear hr0 hbig
  go_enter Try.func69, Try.ntmps69
  go_wp2_with (first
   | ((with_reducible refine gate_dst (N := 5) rfl ?_); refine Kd.R_lit k24 _ 24 ?hg (N := 5) ?hd (xs := ([] : List (S24))) (inner := []) (ok := fun _ => True) (okp := fun _ => True) ?hr ?hp (fun _ hk => hk) trivial (Below.refl _ _) (Nat.le_refl _) (by simp) ?_; (case hd => rfl); (case hg => rfl); (case hr => first | (go_simp; done) | (go_simp; rfl)); (case hp => exact (Reps.none _ _)); intro v1 w1 ho5 hb hg_ hnew_; have HV := Aside0.mk ho5; have HB := Aside0.mk hb; clear ho5 hb hg_ hnew_)
   | ((with_reducible refine gate_builtin (b := .append) (xs := #[.tmp 5, .tmp 6]) rfl ?_); at_builtin; refine Kd.R_append_rows k24 (w0 := w) w.heap.size rfl (.tmp 5) (.tmp 6) 33 24 (.agg #[(.int .i64 0), (.int .i64 0), (.int .i64 0), (.int .i64 0)]) 32 rfl Try.underlying33 info24 rfl (by decide) (by omega) v1 [] l0 _ _ _ (fun _ => True) (fun _ => False) rfl rfl HV.out (Kd.C_below HR.out HB.out) (fun _ _ h => h) (fun _ h => h.elim) (fun _ _ => trivial) HB.out HB.out.size (by have h_ := HL.out; simp only [List.length_nil]; omega) ?_; intro v2 w2 ho hb1 hg hat; rw [List.nil_append] at ho; have HO := Aside0.mk ho; have HB2 := Aside0.mk hb1; clear ho hb1 hg hat; clear HV HB))
  go_ret;exact ⟨_, rfl, HO.out, HB2.out⟩
section
variable {P : Program} {ops : Array Oper} {Q : Exit → Act → World → Prop} {o : Oper} {rest : List Oper} {a : Act}
/-- A row that is laid anew. -/
theorem lit_event {W : World} (hgd : o.guard = none) {N : Tmp} (_hd : o.dst = some N) {cs : Array Value} {t : TypeId} {n : Nat}
  (hrun : (execOp a.eval o).run P W = .ok (.value (.slice (some ⟨W.heap.size, 0, none⟩) n n)) (W.alloc (.cells cs t (0, 0))))
  (h : ∀ g, g = W.heap.size → ∀ w1, w1.heap[g]? = some (.cells cs t (0, 0)) → Below W.heap.size W w1 → wpList P ops Q rest (a.put o.dst (.slice (some ⟨g, 0, none⟩) n n)) w1) : wpList P ops Q (o :: rest) a W :=
 Kd.event_run hgd hrun (h _ rfl _ (blk_new W _) (below_alloc (Below.refl _ _) _))
end
theorem put_place {xs : List (S24)} (hs : xs.Pairwise (fun x y => ltR x y = true)) (r : S24) : ∃ m : Nat, m ≤ xs.length ∧ (∀ t : Nat, t < m → ltR (rd_T24 xs (t : Int)) r = true) ∧ (∀ t : Nat, m ≤ t → t < xs.length → ltR (rd_T24 xs (t : Int)) r = false) := by
 have mono := put_mono hs r
 have key : ∀ d m : Nat, xs.length - m = d → m ≤ xs.length → (∀ t : Nat, t < m → ltR (rd_T24 xs (t : Int)) r = true) → ∃ m : Nat, m ≤ xs.length ∧ (∀ t : Nat, t < m → ltR (rd_T24 xs (t : Int)) r = true) ∧ (∀ t : Nat, m ≤ t → t < xs.length → ltR (rd_T24 xs (t : Int)) r = false) := by
  intro d
  induction d with
  | zero => exact fun m hd hm hlo => ⟨m, hm, hlo, fun t h1 h2 => by omega⟩
  | succ d ih =>
   intro m hd hm hlo
   cases h : ltR (rd_T24 xs (m : Int)) r with
   | true =>
    refine ih (m + 1) (by omega) (by omega) (fun t ht => ?_)
    by_cases e : t = m
    ·subst e; exact h
    ·exact hlo t (by omega)
   | false =>
    refine ⟨m, hm, hlo, fun t h1 h2 => Bool.eq_false_iff.2 fun h' => ?_⟩
    rw [mono m t h1 h2 h'] at h
    cases h
 exact key _ 0 rfl (Nat.zero_le _) (fun t ht => absurd ht (Nat.not_lt_zero _))
/-- The search, its answer told ahead. -/
theorem putFind2.calls (r : S24) (A : Option Addr) (c : Nat) (xs : List (S24)) (w : World) (hr : Kd.C k24 w A xs.length xs) (hbig : xs.length ≤ 1000000) (hmono : ∀ a b : Nat, a ≤ b → b < xs.length → ltR (rd_T24 xs (b : Int)) r = true → ltR (rd_T24 xs (a : Int)) r = true) (m : Nat) (hp : m ≤ xs.length ∧ (∀ t : Nat, t < m → ltR (rd_T24 xs (t : Int)) r = true) ∧ (∀ t : Nat, m ≤ t → t < xs.length → ltR (rd_T24 xs (t : Int)) r = false)) :
  Calls Try.prog 70 #[.slice A xs.length c, .agg #[.int .i64 r.f0, .int .i64 r.f1, .int .i64 r.f2, .int .i64 r.f3], .func (.func 71) #[] #[]] w fun e w' => e = .returned (.tuple #[.int .i64 m, .bool (decide (m < xs.length) && eqR (rd_T24 xs (m : Int)) r)]) ∧ Below w.heap.size w w' := by
 refine (putFind.calls r A c xs w hr hbig hmono).mono ?_
 rintro e w' ⟨m', z, rfl, ⟨hm', hlo', hhi', rfl⟩, hb⟩
 obtain ⟨hm, hlo, hhi⟩ := hp
 have e : m' = m := by
  rcases Nat.lt_trichotomy m' m with h | h | h
  ·have h1 := hlo m' h
   rw [hhi' m' (Nat.le_refl _) (by omega)] at h1
   cases h1
  ·exact h
  ·have h1 := hlo' m h
   rw [hhi m (Nat.le_refl _) (by omega)] at h1
   cases h1
 subst e
 exact ⟨rfl, hb⟩
theorem some_of {w : World} {base n c : Nat} {A : Option Addr} {xs : List (S24)} (hO : Kd.R k24 24 w base (fun _ => True) (.slice A n c) xs) (hn : 0 < n) : ∃ g, A = some ⟨g, 0, none⟩ := by
 obtain ⟨_, inner, ⟨hl, hown⟩, hr⟩ := hO
 rcases hown with ⟨he, _⟩ | ⟨g', cap, cur, he, _⟩
 ·injection he with h1 h2 h3
  omega
 ·injection he with h1 h2 h3
  exact ⟨g', h1⟩
/-- Where it stands, and what comes of it. -/
theorem put_cases {xs : List (S24)} (hs : xs.Pairwise (fun x y => ltR x y = true)) (r : S24) : ∃ m : Nat, (m ≤ xs.length ∧ (∀ t : Nat, t < m → ltR (rd_T24 xs (t : Int)) r = true) ∧ (∀ t : Nat, m ≤ t → t < xs.length → ltR (rd_T24 xs (t : Int)) r = false)) ∧
  (((decide (m < xs.length) && eqR (rd_T24 xs (m : Int)) r) = true ∧ m < xs.length ∧ xs.set m r = putR xs r) ∨ ((decide (m < xs.length) && eqR (rd_T24 xs (m : Int)) r) = false ∧ xs.take m ++ r :: xs.drop m = putR xs r)) := by
 obtain ⟨m, hm, hlo, hhi⟩ := put_place hs r;refine ⟨m, ⟨hm, hlo, hhi⟩, ?_⟩
 by_cases h : m < xs.length
 ·rw [decide_eq_true h, Bool.true_and]
  obtain ⟨h1, h2⟩ := put_at hs h hlo hhi
  cases e : eqR (rd_T24 xs (m : Int)) r with
  | true => exact .inl ⟨rfl, h, (h1 e).symm⟩
  | false => exact .inr ⟨rfl, (h2 e).symm⟩
 ·obtain rfl : m = xs.length := by omega
  rw [decide_eq_false h, Bool.false_and]
  exact .inr ⟨rfl, (put_end hlo).symm⟩
/-- Routes with one more: with true and the list, or with false and none. -/
def impl_RoutePut.f (k : Nat) (l0 : List (S24)) (a1_0 : Int) (a1_1 : Int) (a1_2 : Int) (a1_3 : Int) : Option ((List (S24)) × Bool) := (impl_RoutesOk.f k l0).bind fun t => if t = true then ((impl_RouteOk.f a1_0 a1_1 a1_2 a1_3).bind fun u => if u = true then (if l0.length ≤ 1000 ∧ l0.Pairwise (fun x y => ltR x y = true) then (if (putR l0 (⟨a1_0, a1_1, a1_2, a1_3⟩ : S24)).length ≤ 8 then some (putR l0 ⟨a1_0, a1_1, a1_2, a1_3⟩, true) else some ([], false)) else none) else some ([], false)) else some ([], false)
theorem impl_RoutePut.mono : ∀ a0 a1 a2 a3 a4 k, LeO (impl_RoutePut.f k a0 a1 a2 a3 a4) (impl_RoutePut.f (k + 1) a0 a1 a2 a3 a4) := by
 intro a0 a1 a2 a3 a4 k
 unfold impl_RoutePut.f
 exact LeO.bind (impl_RoutesOk.mono _ _) (fun _ => LeO.refl _)
set_option maxHeartbeats 2000000 in
set_option maxRecDepth 100000 in
theorem impl_RoutePut.calls (k : Nat) (A0 : Option Addr) (c0 : Nat) (l0 : List (S24)) (a1_0 : Int) (a1_1 : Int) (a1_2 : Int) (a1_3 : Int) (r1 : List (S24)) (r2 : Bool) (w : World) (hr0 : Kd.C k24 w A0 l0.length l0) (hc0 : l0.length ≤ c0) (h : impl_RoutePut.f k l0 a1_0 a1_1 a1_2 a1_3 = some (r1, r2)) :
  Calls Try.prog 24 #[.slice A0 l0.length c0, .agg #[.int .i64 a1_0, .int .i64 a1_1, .int .i64 a1_2, .int .i64 a1_3]] w fun e w' => ∃ v0_ : Value, e = .returned (.tuple #[v0_, .bool r2]) ∧ Kd.R k24 24 w' w.heap.size (fun _ => True) v0_ r1 ∧ Below w.heap.size w w' := by
 unfold impl_RoutePut.f at h
 replace h := Option.bind_eq_some_iff.mp h;obtain ⟨t, hok, h⟩ := h;have HR := Aside0.mk hr0;have HC := Aside0.mk hc0;have OK := Aside0.mk hok;have HB := Aside0.mk (Below.refl w.heap.size w);clear hr0 hc0 hok
 cases t with
 | false =>
  rw [if_neg (by decide)] at h
  obtain ⟨rfl, rfl⟩ := Prod.mk.inj (Option.some.inj h);clear h
  go_enter Try.func24, Try.ntmps24
  go_wp2_with (first
   | ((with_reducible refine gate_dst (N := 3) rfl ?_); refine box_event ?hg (N := 3) ?hd (cs := #[.int .i64 a1_0, .int .i64 a1_1, .int .i64 a1_2, .int .i64 a1_3]) (t := 24) ?hr ?_; (case hd => rfl); (case hg => rfl); (case hr => first | (go_simp; done) | (go_simp; rfl)); intro ga hga w1 hbox hb; have HB1 := Aside0.mk (below_step HB.out hb); clear HB; clear hb hbox hga)
   | (go_at_call 52; refine (impl_RoutesOk.calls k A0 c0 l0 false _ (Kd.C_below HR.out HB1.out) HC.out OK.out).mono ?_; rintro e w3 ⟨rfl, hb⟩; have HB3 := Aside0.mk (below_step HB1.out hb); clear HB1; clear hb))
  go_ret2
  exact ⟨_, rfl, Kd.R_nil _ _ _ _ _, HB3.out⟩
 | true =>
  rw [if_pos rfl] at h
  replace h := Option.bind_eq_some_iff.mp h;obtain ⟨u, huk, h⟩ := h;have UK := Aside0.mk huk;clear huk
  cases u with
  | false =>
   rw [if_neg (by decide)] at h
   obtain ⟨rfl, rfl⟩ := Prod.mk.inj (Option.some.inj h);clear h
   go_enter Try.func24, Try.ntmps24
   go_wp2_with (first
    | ((with_reducible refine gate_dst (N := 3) rfl ?_); refine box_event ?hg (N := 3) ?hd (cs := #[.int .i64 a1_0, .int .i64 a1_1, .int .i64 a1_2, .int .i64 a1_3]) (t := 24) ?hr ?_; (case hd => rfl); (case hg => rfl); (case hr => first | (go_simp; done) | (go_simp; rfl)); intro ga hga w1 hbox hb; have HB1 := Aside0.mk (below_step HB.out hb); have BK := Aside0.mk hbox; clear HB; clear hb hbox hga)
    | (go_at_call 52; refine (impl_RoutesOk.calls k A0 c0 l0 true _ (Kd.C_below HR.out HB1.out) HC.out OK.out).mono ?_; rintro e w3 ⟨rfl, hb⟩; have HB3 := Aside0.mk (below_step HB1.out hb); have BK3 := Aside0.mk (blk_below BK.out hb); clear HB1 BK; clear hb; have h0 : w3.cell? ⟨ga, 0, none⟩ = some (.int .i64 a1_0) := (blk_cell BK3.out 0).trans rfl; have h1 : w3.cell? ⟨ga, 1, none⟩ = some (.int .i64 a1_1) := (blk_cell BK3.out 1).trans rfl; have h2 : w3.cell? ⟨ga, 2, none⟩ = some (.int .i64 a1_2) := (blk_cell BK3.out 2).trans rfl; have h3 : w3.cell? ⟨ga, 3, none⟩ = some (.int .i64 a1_3) := (blk_cell BK3.out 3).trans rfl)
    | (go_at_call 16; refine (impl_RouteOk.calls a1_0 a1_1 a1_2 a1_3 false w3 UK.out).mono ?_; rintro e w4 ⟨rfl, hb⟩; have HB4 := Aside0.mk (below_step HB3.out hb); clear HB3 BK3; clear hb h0 h1 h2 h3))
   go_ret2
   exact ⟨_, rfl, Kd.R_nil _ _ _ _ _, HB4.out⟩
  | true =>
   rw [if_pos rfl] at h
   by_cases hgood : l0.length ≤ 1000 ∧ l0.Pairwise (fun x y => ltR x y = true)
   ·rw [if_pos hgood] at h
    obtain ⟨m, hp, hz⟩ := put_cases hgood.2 (⟨a1_0, a1_1, a1_2, a1_3⟩ : S24);have HP := Aside0.mk hp;have HM := Aside0.mk (put_mono hgood.2 (⟨a1_0, a1_1, a1_2, a1_3⟩ : S24));have HL := Aside0.mk (show l0.length ≤ 1099511627776 by omega);have HL2 := Aside0.mk (show l0.length ≤ 1000000 by omega);clear hp hgood
    generalize hF : putR l0 (⟨a1_0, a1_1, a1_2, a1_3⟩ : S24) = F at h hz
    clear hF
    rcases hz with ⟨hz, hmn, he⟩ | ⟨hz, he⟩
    ·have HZ := Aside0.mk hz;have HE := Aside0.mk he;have HN := Aside0.mk (show 0 < l0.length by omega);have HI := Aside0.mk (show (m : Int) < (l0.length : Int) by omega)
     have hFl : F.length = l0.length := by rw [← he, List.length_set]
     have HFL := Aside0.mk hFl
     have hmi : (m : Int) < (l0.length : Int) := by omega
     have hm0 : (0 : Int) ≤ (m : Int) := by omega
     clear hz he
     by_cases h8 : F.length ≤ 8
     ·rw [if_pos h8] at h
      obtain ⟨rfl, rfl⟩ := Prod.mk.inj (Option.some.inj h);have HF8 := Aside0.mk h8
      have hgt : ¬ (8 : Int) < (l0.length : Int) := by omega
      clear h h8 hFl
      go_enter Try.func24, Try.ntmps24
      go_wp2_with (first
       | ((with_reducible refine gate_dst (N := 3) rfl ?_); refine box_event ?hg (N := 3) ?hd (cs := #[.int .i64 a1_0, .int .i64 a1_1, .int .i64 a1_2, .int .i64 a1_3]) (t := 24) ?hr ?_; (case hd => rfl); (case hg => rfl); (case hr => first | (go_simp; done) | (go_simp; rfl)); intro ga hga w1 hbox hb; have HB1 := Aside0.mk (below_step HB.out hb); have BK := Aside0.mk hbox; clear HB; clear hb hbox hga)
       | (go_at_call 52; refine (impl_RoutesOk.calls k A0 c0 l0 true _ (Kd.C_below HR.out HB1.out) HC.out OK.out).mono ?_; rintro e w3 ⟨rfl, hb⟩; have HB3 := Aside0.mk (below_step HB1.out hb); have BK3 := Aside0.mk (blk_below BK.out hb); clear HB1 BK; clear hb; have h0 : w3.cell? ⟨ga, 0, none⟩ = some (.int .i64 a1_0) := (blk_cell BK3.out 0).trans rfl; have h1 : w3.cell? ⟨ga, 1, none⟩ = some (.int .i64 a1_1) := (blk_cell BK3.out 1).trans rfl; have h2 : w3.cell? ⟨ga, 2, none⟩ = some (.int .i64 a1_2) := (blk_cell BK3.out 2).trans rfl; have h3 : w3.cell? ⟨ga, 3, none⟩ = some (.int .i64 a1_3) := (blk_cell BK3.out 3).trans rfl)
       | (go_at_call 16; refine (impl_RouteOk.calls a1_0 a1_1 a1_2 a1_3 true w3 UK.out).mono ?_; rintro e w4 ⟨rfl, hb⟩; have HB4 := Aside0.mk (below_step HB3.out hb); have BK4 := Aside0.mk (blk_below BK3.out hb); clear HB3 BK3; clear hb h0 h1 h2 h3)
       | (go_at_call 69; refine (putClone.calls A0 c0 l0 w4 (Kd.C_below HR.out HB4.out) HL.out).mono ?_; rintro e w5 ⟨v5, rfl, hO5, hb⟩; obtain ⟨A5, c5, e5⟩ := Kd.R_slice hO5; subst e5; obtain ⟨g, rfl⟩ := some_of hO5 HN.out; have HO5 := Aside0.mk hO5; have HB5 := Aside0.mk hb; have BK5 := Aside0.mk (blk_below BK4.out hb); clear hO5 hb BK4; have h0 : w5.cell? ⟨ga, 0, none⟩ = some (.int .i64 a1_0) := (blk_cell BK5.out 0).trans rfl; have h1 : w5.cell? ⟨ga, 1, none⟩ = some (.int .i64 a1_1) := (blk_cell BK5.out 1).trans rfl; have h2 : w5.cell? ⟨ga, 2, none⟩ = some (.int .i64 a1_2) := (blk_cell BK5.out 2).trans rfl; have h3 : w5.cell? ⟨ga, 3, none⟩ = some (.int .i64 a1_3) := (blk_cell BK5.out 3).trans rfl)
       | (go_at_call 70; refine (putFind2.calls (⟨a1_0, a1_1, a1_2, a1_3⟩ : S24) (some ⟨g, 0, none⟩) c5 l0 w5 (Kd.R_reads' HO5.out).2.2 HL2.out HM.out m HP.out).mono ?_; rw [HZ.out]; rintro e w6 ⟨rfl, hb⟩; have HO6 := Aside0.mk (Kd.R_below HO5.out hb); have HB6 := Aside0.mk (below_step HB5.out hb); have BK6 := Aside0.mk (blk_below BK5.out hb); clear HO5 HB5 BK5 h0 h1 h2 h3; clear hb; have h0 : w6.cell? ⟨ga, 0, none⟩ = some (.int .i64 a1_0) := (blk_cell BK6.out 0).trans rfl; have h1 : w6.cell? ⟨ga, 1, none⟩ = some (.int .i64 a1_1) := (blk_cell BK6.out 1).trans rfl; have h2 : w6.cell? ⟨ga, 2, none⟩ = some (.int .i64 a1_2) := (blk_cell BK6.out 2).trans rfl; have h3 : w6.cell? ⟨ga, 3, none⟩ = some (.int .i64 a1_3) := (blk_cell BK6.out 3).trans rfl; have hiz := HI.out; obtain ⟨ce, hcl, hM, hcc, hfr⟩ := Kd.R_elem HO6.out z24 (m : Int) (Int.natCast_nonneg m) hiz; obtain rfl := k24_openM hM; have HS := Aside0.mk (Kd.R_seg HO6.out (m : Int) (Int.natCast_nonneg m) hiz (seg := [.int .i64 a1_0, .int .i64 a1_1, .int .i64 a1_2, .int .i64 a1_3]) (j := 0) hcl hcc (show 4 ≤ 4 from by decide) (x' := (⟨a1_0, a1_1, a1_2, a1_3⟩ : S24)) (k24_mkM _ _ _ (⟨a1_0, a1_1, a1_2, a1_3⟩ : S24)) (fun _ hk => ⟨trivial, hk⟩)).1; have hx0 : w6.cell? ⟨g, m * 4, none⟩ = some (.int .i64 (rd_T24 l0 (m : Int)).f0) := hcc 0 _ rfl; have hx1 : w6.cell? ⟨g, m * 4 + 1, none⟩ = some (.int .i64 (rd_T24 l0 (m : Int)).f1) := hcc 1 _ rfl; have hx2 : w6.cell? ⟨g, m * 4 + 2, none⟩ = some (.int .i64 (rd_T24 l0 (m : Int)).f2) := hcc 2 _ rfl; have hx3 : w6.cell? ⟨g, m * 4 + 3, none⟩ = some (.int .i64 (rd_T24 l0 (m : Int)).f3) := hcc 3 _ rfl; have hg0 : w6.frozen? ⟨g, m * 4, none⟩ = false := hfr 0; have hg1 : w6.frozen? ⟨g, m * 4 + 1, none⟩ = false := hfr 1; have hg2 : w6.frozen? ⟨g, m * 4 + 2, none⟩ = false := hfr 2; have hg3 : w6.frozen? ⟨g, m * 4 + 3, none⟩ = false := hfr 3; clear hcl hM hcc hfr)
       | ((with_reducible refine gate_store (t := 24) (p := 29) rfl ?_); refine store_event (t := 24) (p := 29) (v := ?vo_) (w1 := ((((w6.setCell ⟨g, m * 4, none⟩ (.int .i64 a1_0)).setCell ⟨g, m * 4 + 1, none⟩ (.int .i64 a1_1)).setCell ⟨g, m * 4 + 2, none⟩ (.int .i64 a1_2)).setCell ⟨g, m * 4 + 3, none⟩ (.int .i64 a1_3))) ?hg ?ho ?hn ?hr ?_; (case ho => rfl); (case hg => rfl); (case hn => rfl); (case hr => first | (go_simp; done) | (go_simp; rfl)); intro w7 hw; have HO7 := Aside0.mk (show Kd.R k24 24 w7 w4.heap.size (fun _ => True) (.slice (some ⟨g, 0, none⟩) l0.length c5) F from by rw [hw, ← HE.out]; exact HS.out); have HG := Aside0.mk (Kd.R_base HO6.out g rfl); have HB7 := Aside0.mk (show Below w4.heap.size w4 w7 from by rw [hw]; exact below_set (below_set (below_set (below_set HB6.out HG.out) HG.out) HG.out) HG.out); clear HS HO6 HB6; clear hx0 hx1 hx2 hx3 hg0 hg1 hg2 hg3 h0 h1 h2 h3 hw hiz)
       | (go_at_call 73; have hk_ := impl_Route_73.calls (some ⟨g, 0, none⟩) c5 F F w7 (Kd.R_reads' HO7.out).2.2 (by have h_ := (Kd.R_reads' HO7.out).2.1; have h__ := HFL.out; omega) (by unfold impl_Route_73.f; exact if_pos (by have h__ := HF8.out; omega)); rw [HFL.out] at hk_; refine hk_.mono ?_; clear hk_; rintro e w9 ⟨v9, rfl, hO9, hb⟩; have HO9 := Aside0.mk (Kd.R_lower (Kd.R_lower hO9 HB7.out.size) HB4.out.size); have HB9 := Aside0.mk (below_step HB4.out (below_step HB7.out hb)); clear hO9 hb; clear HB7))
      go_ret2
      exact ⟨_, rfl, HO9.out, HB9.out⟩
     ·rw [if_neg h8] at h
      obtain ⟨rfl, rfl⟩ := Prod.mk.inj (Option.some.inj h)
      have hgt : (8 : Int) < (l0.length : Int) := by omega
      clear h h8 hFl
      go_enter Try.func24, Try.ntmps24
      go_wp2_with (first
       | ((with_reducible refine gate_dst (N := 3) rfl ?_); refine box_event ?hg (N := 3) ?hd (cs := #[.int .i64 a1_0, .int .i64 a1_1, .int .i64 a1_2, .int .i64 a1_3]) (t := 24) ?hr ?_; (case hd => rfl); (case hg => rfl); (case hr => first | (go_simp; done) | (go_simp; rfl)); intro ga hga w1 hbox hb; have HB1 := Aside0.mk (below_step HB.out hb); have BK := Aside0.mk hbox; clear HB; clear hb hbox hga)
       | (go_at_call 52; refine (impl_RoutesOk.calls k A0 c0 l0 true _ (Kd.C_below HR.out HB1.out) HC.out OK.out).mono ?_; rintro e w3 ⟨rfl, hb⟩; have HB3 := Aside0.mk (below_step HB1.out hb); have BK3 := Aside0.mk (blk_below BK.out hb); clear HB1 BK; clear hb; have h0 : w3.cell? ⟨ga, 0, none⟩ = some (.int .i64 a1_0) := (blk_cell BK3.out 0).trans rfl; have h1 : w3.cell? ⟨ga, 1, none⟩ = some (.int .i64 a1_1) := (blk_cell BK3.out 1).trans rfl; have h2 : w3.cell? ⟨ga, 2, none⟩ = some (.int .i64 a1_2) := (blk_cell BK3.out 2).trans rfl; have h3 : w3.cell? ⟨ga, 3, none⟩ = some (.int .i64 a1_3) := (blk_cell BK3.out 3).trans rfl)
       | (go_at_call 16; refine (impl_RouteOk.calls a1_0 a1_1 a1_2 a1_3 true w3 UK.out).mono ?_; rintro e w4 ⟨rfl, hb⟩; have HB4 := Aside0.mk (below_step HB3.out hb); have BK4 := Aside0.mk (blk_below BK3.out hb); clear HB3 BK3; clear hb h0 h1 h2 h3)
       | (go_at_call 69; refine (putClone.calls A0 c0 l0 w4 (Kd.C_below HR.out HB4.out) HL.out).mono ?_; rintro e w5 ⟨v5, rfl, hO5, hb⟩; obtain ⟨A5, c5, e5⟩ := Kd.R_slice hO5; subst e5; obtain ⟨g, rfl⟩ := some_of hO5 HN.out; have HO5 := Aside0.mk hO5; have HB5 := Aside0.mk hb; have BK5 := Aside0.mk (blk_below BK4.out hb); clear hO5 hb BK4; have h0 : w5.cell? ⟨ga, 0, none⟩ = some (.int .i64 a1_0) := (blk_cell BK5.out 0).trans rfl; have h1 : w5.cell? ⟨ga, 1, none⟩ = some (.int .i64 a1_1) := (blk_cell BK5.out 1).trans rfl; have h2 : w5.cell? ⟨ga, 2, none⟩ = some (.int .i64 a1_2) := (blk_cell BK5.out 2).trans rfl; have h3 : w5.cell? ⟨ga, 3, none⟩ = some (.int .i64 a1_3) := (blk_cell BK5.out 3).trans rfl)
       | (go_at_call 70; refine (putFind2.calls (⟨a1_0, a1_1, a1_2, a1_3⟩ : S24) (some ⟨g, 0, none⟩) c5 l0 w5 (Kd.R_reads' HO5.out).2.2 HL2.out HM.out m HP.out).mono ?_; rw [HZ.out]; rintro e w6 ⟨rfl, hb⟩; have HO6 := Aside0.mk (Kd.R_below HO5.out hb); have HB6 := Aside0.mk (below_step HB5.out hb); have BK6 := Aside0.mk (blk_below BK5.out hb); clear HO5 HB5 BK5 h0 h1 h2 h3; clear hb; have h0 : w6.cell? ⟨ga, 0, none⟩ = some (.int .i64 a1_0) := (blk_cell BK6.out 0).trans rfl; have h1 : w6.cell? ⟨ga, 1, none⟩ = some (.int .i64 a1_1) := (blk_cell BK6.out 1).trans rfl; have h2 : w6.cell? ⟨ga, 2, none⟩ = some (.int .i64 a1_2) := (blk_cell BK6.out 2).trans rfl; have h3 : w6.cell? ⟨ga, 3, none⟩ = some (.int .i64 a1_3) := (blk_cell BK6.out 3).trans rfl; have hiz := HI.out; obtain ⟨ce, hcl, hM, hcc, hfr⟩ := Kd.R_elem HO6.out z24 (m : Int) (Int.natCast_nonneg m) hiz; obtain rfl := k24_openM hM; have HS := Aside0.mk (Kd.R_seg HO6.out (m : Int) (Int.natCast_nonneg m) hiz (seg := [.int .i64 a1_0, .int .i64 a1_1, .int .i64 a1_2, .int .i64 a1_3]) (j := 0) hcl hcc (show 4 ≤ 4 from by decide) (x' := (⟨a1_0, a1_1, a1_2, a1_3⟩ : S24)) (k24_mkM _ _ _ (⟨a1_0, a1_1, a1_2, a1_3⟩ : S24)) (fun _ hk => ⟨trivial, hk⟩)).1; have hx0 : w6.cell? ⟨g, m * 4, none⟩ = some (.int .i64 (rd_T24 l0 (m : Int)).f0) := hcc 0 _ rfl; have hx1 : w6.cell? ⟨g, m * 4 + 1, none⟩ = some (.int .i64 (rd_T24 l0 (m : Int)).f1) := hcc 1 _ rfl; have hx2 : w6.cell? ⟨g, m * 4 + 2, none⟩ = some (.int .i64 (rd_T24 l0 (m : Int)).f2) := hcc 2 _ rfl; have hx3 : w6.cell? ⟨g, m * 4 + 3, none⟩ = some (.int .i64 (rd_T24 l0 (m : Int)).f3) := hcc 3 _ rfl; have hg0 : w6.frozen? ⟨g, m * 4, none⟩ = false := hfr 0; have hg1 : w6.frozen? ⟨g, m * 4 + 1, none⟩ = false := hfr 1; have hg2 : w6.frozen? ⟨g, m * 4 + 2, none⟩ = false := hfr 2; have hg3 : w6.frozen? ⟨g, m * 4 + 3, none⟩ = false := hfr 3; clear hcl hM hcc hfr)
       | ((with_reducible refine gate_store (t := 24) (p := 29) rfl ?_); refine store_event (t := 24) (p := 29) (v := ?vo_) (w1 := ((((w6.setCell ⟨g, m * 4, none⟩ (.int .i64 a1_0)).setCell ⟨g, m * 4 + 1, none⟩ (.int .i64 a1_1)).setCell ⟨g, m * 4 + 2, none⟩ (.int .i64 a1_2)).setCell ⟨g, m * 4 + 3, none⟩ (.int .i64 a1_3))) ?hg ?ho ?hn ?hr ?_; (case ho => rfl); (case hg => rfl); (case hn => rfl); (case hr => first | (go_simp; done) | (go_simp; rfl)); intro w7 hw; have HO7 := Aside0.mk (show Kd.R k24 24 w7 w4.heap.size (fun _ => True) (.slice (some ⟨g, 0, none⟩) l0.length c5) F from by rw [hw, ← HE.out]; exact HS.out); have HG := Aside0.mk (Kd.R_base HO6.out g rfl); have HB7 := Aside0.mk (show Below w4.heap.size w4 w7 from by rw [hw]; exact below_set (below_set (below_set (below_set HB6.out HG.out) HG.out) HG.out) HG.out); clear HS HO6 HB6; clear hx0 hx1 hx2 hx3 hg0 hg1 hg2 hg3 h0 h1 h2 h3 hw hiz))
      go_ret2
      exact ⟨_, rfl, Kd.R_nil _ _ _ _ _, below_step HB4.out HB7.out⟩
    ·have HZ := Aside0.mk hz;have HE := Aside0.mk he;have HFL := Aside0.mk (rfl : F.length = F.length);clear hz he
     by_cases h8 : F.length ≤ 8
     ·rw [if_pos h8] at h
      obtain ⟨rfl, rfl⟩ := Prod.mk.inj (Option.some.inj h);have HF8 := Aside0.mk h8
      have hgt : ¬ (8 : Int) < (F.length : Int) := by omega
      clear h h8
      go_enter Try.func24, Try.ntmps24
      go_wp2_with (first
       | ((with_reducible refine gate_dst (N := 3) rfl ?_); refine box_event ?hg (N := 3) ?hd (cs := #[.int .i64 a1_0, .int .i64 a1_1, .int .i64 a1_2, .int .i64 a1_3]) (t := 24) ?hr ?_; (case hd => rfl); (case hg => rfl); (case hr => first | (go_simp; done) | (go_simp; rfl)); intro ga hga w1 hbox hb; have HB1 := Aside0.mk (below_step HB.out hb); have BK := Aside0.mk hbox; clear HB; clear hb hbox hga)
       | (go_at_call 52; refine (impl_RoutesOk.calls k A0 c0 l0 true _ (Kd.C_below HR.out HB1.out) HC.out OK.out).mono ?_; rintro e w3 ⟨rfl, hb⟩; have HB3 := Aside0.mk (below_step HB1.out hb); have BK3 := Aside0.mk (blk_below BK.out hb); clear HB1 BK; clear hb; have h0 : w3.cell? ⟨ga, 0, none⟩ = some (.int .i64 a1_0) := (blk_cell BK3.out 0).trans rfl; have h1 : w3.cell? ⟨ga, 1, none⟩ = some (.int .i64 a1_1) := (blk_cell BK3.out 1).trans rfl; have h2 : w3.cell? ⟨ga, 2, none⟩ = some (.int .i64 a1_2) := (blk_cell BK3.out 2).trans rfl; have h3 : w3.cell? ⟨ga, 3, none⟩ = some (.int .i64 a1_3) := (blk_cell BK3.out 3).trans rfl)
       | (go_at_call 16; refine (impl_RouteOk.calls a1_0 a1_1 a1_2 a1_3 true w3 UK.out).mono ?_; rintro e w4 ⟨rfl, hb⟩; have HB4 := Aside0.mk (below_step HB3.out hb); have BK4 := Aside0.mk (blk_below BK3.out hb); clear HB3 BK3; clear hb h0 h1 h2 h3)
       | (go_at_call 69; refine (putClone.calls A0 c0 l0 w4 (Kd.C_below HR.out HB4.out) HL.out).mono ?_; rintro e w5 ⟨v5, rfl, hO5, hb⟩; obtain ⟨A5, c5, e5⟩ := Kd.R_slice hO5; subst e5; have HO5 := Aside0.mk hO5; have HB5 := Aside0.mk hb; have BK5 := Aside0.mk (blk_below BK4.out hb); clear hO5 hb BK4; have h0 : w5.cell? ⟨ga, 0, none⟩ = some (.int .i64 a1_0) := (blk_cell BK5.out 0).trans rfl; have h1 : w5.cell? ⟨ga, 1, none⟩ = some (.int .i64 a1_1) := (blk_cell BK5.out 1).trans rfl; have h2 : w5.cell? ⟨ga, 2, none⟩ = some (.int .i64 a1_2) := (blk_cell BK5.out 2).trans rfl; have h3 : w5.cell? ⟨ga, 3, none⟩ = some (.int .i64 a1_3) := (blk_cell BK5.out 3).trans rfl)
       | (go_at_call 70; refine (putFind2.calls (⟨a1_0, a1_1, a1_2, a1_3⟩ : S24) A5 c5 l0 w5 (Kd.R_reads' HO5.out).2.2 HL2.out HM.out m HP.out).mono ?_; rw [HZ.out]; rintro e w6 ⟨rfl, hb⟩; have HO6 := Aside0.mk (Kd.R_below HO5.out hb); have HB6 := Aside0.mk (below_step HB5.out hb); have BK6 := Aside0.mk (blk_below BK5.out hb); clear HO5 HB5 BK5 h0 h1 h2 h3; clear hb; have h0 : w6.cell? ⟨ga, 0, none⟩ = some (.int .i64 a1_0) := (blk_cell BK6.out 0).trans rfl; have h1 : w6.cell? ⟨ga, 1, none⟩ = some (.int .i64 a1_1) := (blk_cell BK6.out 1).trans rfl; have h2 : w6.cell? ⟨ga, 2, none⟩ = some (.int .i64 a1_2) := (blk_cell BK6.out 2).trans rfl; have h3 : w6.cell? ⟨ga, 3, none⟩ = some (.int .i64 a1_3) := (blk_cell BK6.out 3).trans rfl)
       | ((with_reducible refine gate_dst (N := 33) rfl ?_); refine lit_event ?hg (N := 33) ?hd (cs := #[.int .i64 a1_0, .int .i64 a1_1, .int .i64 a1_2, .int .i64 a1_3]) (t := 24) (n := 1) ?hr ?_; (case hd => rfl); (case hg => rfl); (case hr => first | (go_simp; done) | (go_simp; rfl)); intro vb hvb w7 hbox hb; have HV := Aside0.mk (show w7.heap[vb]? = some (.cells (rCells (⟨a1_0, a1_1, a1_2, a1_3⟩ : S24)).toArray 24 (0, 0)) from hbox); have HVB := Aside0.mk (show w6.heap.size ≤ vb from by omega); have HO7 := Aside0.mk (Kd.R_below HO6.out hb); have HB7 := Aside0.mk (below_step HB6.out hb); clear HB6; clear hb hbox hvb h0 h1 h2 h3)
       | (go_at_call 72; refine (putIns.calls (⟨a1_0, a1_1, a1_2, a1_3⟩ : S24) A5 c5 l0.length m l0 w4 w6 w7 rfl HP.out.1 HL2.out HO6.out HO7.out HB7.out vb HVB.out HV.out).mono ?_; rw [HE.out]; rintro e w8 ⟨v8, rfl, hO8, hb⟩; obtain ⟨A8, c8, e8⟩ := Kd.R_slice hO8; subst e8; have HO8 := Aside0.mk hO8; have HB8 := Aside0.mk hb; clear hO8 hb; clear HO6 HO7 HB7 HV HVB)
       | (go_at_call 73; have hk_ := impl_Route_73.calls A8 c8 F F w8 (Kd.R_reads' HO8.out).2.2 (by have h_ := (Kd.R_reads' HO8.out).2.1; have h__ := HFL.out; omega) (by unfold impl_Route_73.f; exact if_pos (by have h__ := HF8.out; omega)); refine hk_.mono ?_; clear hk_; rintro e w9 ⟨v9, rfl, hO9, hb⟩; have HO9 := Aside0.mk (Kd.R_lower (Kd.R_lower hO9 HB8.out.size) HB4.out.size); have HB9 := Aside0.mk (below_step HB4.out (below_step HB8.out hb)); clear hO9 hb; clear HB8))
      go_ret2
      exact ⟨_, rfl, HO9.out, HB9.out⟩
     ·rw [if_neg h8] at h
      obtain ⟨rfl, rfl⟩ := Prod.mk.inj (Option.some.inj h)
      have hgt : (8 : Int) < (F.length : Int) := by omega
      clear h h8
      go_enter Try.func24, Try.ntmps24
      go_wp2_with (first
       | ((with_reducible refine gate_dst (N := 3) rfl ?_); refine box_event ?hg (N := 3) ?hd (cs := #[.int .i64 a1_0, .int .i64 a1_1, .int .i64 a1_2, .int .i64 a1_3]) (t := 24) ?hr ?_; (case hd => rfl); (case hg => rfl); (case hr => first | (go_simp; done) | (go_simp; rfl)); intro ga hga w1 hbox hb; have HB1 := Aside0.mk (below_step HB.out hb); have BK := Aside0.mk hbox; clear HB; clear hb hbox hga)
       | (go_at_call 52; refine (impl_RoutesOk.calls k A0 c0 l0 true _ (Kd.C_below HR.out HB1.out) HC.out OK.out).mono ?_; rintro e w3 ⟨rfl, hb⟩; have HB3 := Aside0.mk (below_step HB1.out hb); have BK3 := Aside0.mk (blk_below BK.out hb); clear HB1 BK; clear hb; have h0 : w3.cell? ⟨ga, 0, none⟩ = some (.int .i64 a1_0) := (blk_cell BK3.out 0).trans rfl; have h1 : w3.cell? ⟨ga, 1, none⟩ = some (.int .i64 a1_1) := (blk_cell BK3.out 1).trans rfl; have h2 : w3.cell? ⟨ga, 2, none⟩ = some (.int .i64 a1_2) := (blk_cell BK3.out 2).trans rfl; have h3 : w3.cell? ⟨ga, 3, none⟩ = some (.int .i64 a1_3) := (blk_cell BK3.out 3).trans rfl)
       | (go_at_call 16; refine (impl_RouteOk.calls a1_0 a1_1 a1_2 a1_3 true w3 UK.out).mono ?_; rintro e w4 ⟨rfl, hb⟩; have HB4 := Aside0.mk (below_step HB3.out hb); have BK4 := Aside0.mk (blk_below BK3.out hb); clear HB3 BK3; clear hb h0 h1 h2 h3)
       | (go_at_call 69; refine (putClone.calls A0 c0 l0 w4 (Kd.C_below HR.out HB4.out) HL.out).mono ?_; rintro e w5 ⟨v5, rfl, hO5, hb⟩; obtain ⟨A5, c5, e5⟩ := Kd.R_slice hO5; subst e5; have HO5 := Aside0.mk hO5; have HB5 := Aside0.mk hb; have BK5 := Aside0.mk (blk_below BK4.out hb); clear hO5 hb BK4; have h0 : w5.cell? ⟨ga, 0, none⟩ = some (.int .i64 a1_0) := (blk_cell BK5.out 0).trans rfl; have h1 : w5.cell? ⟨ga, 1, none⟩ = some (.int .i64 a1_1) := (blk_cell BK5.out 1).trans rfl; have h2 : w5.cell? ⟨ga, 2, none⟩ = some (.int .i64 a1_2) := (blk_cell BK5.out 2).trans rfl; have h3 : w5.cell? ⟨ga, 3, none⟩ = some (.int .i64 a1_3) := (blk_cell BK5.out 3).trans rfl)
       | (go_at_call 70; refine (putFind2.calls (⟨a1_0, a1_1, a1_2, a1_3⟩ : S24) A5 c5 l0 w5 (Kd.R_reads' HO5.out).2.2 HL2.out HM.out m HP.out).mono ?_; rw [HZ.out]; rintro e w6 ⟨rfl, hb⟩; have HO6 := Aside0.mk (Kd.R_below HO5.out hb); have HB6 := Aside0.mk (below_step HB5.out hb); have BK6 := Aside0.mk (blk_below BK5.out hb); clear HO5 HB5 BK5 h0 h1 h2 h3; clear hb; have h0 : w6.cell? ⟨ga, 0, none⟩ = some (.int .i64 a1_0) := (blk_cell BK6.out 0).trans rfl; have h1 : w6.cell? ⟨ga, 1, none⟩ = some (.int .i64 a1_1) := (blk_cell BK6.out 1).trans rfl; have h2 : w6.cell? ⟨ga, 2, none⟩ = some (.int .i64 a1_2) := (blk_cell BK6.out 2).trans rfl; have h3 : w6.cell? ⟨ga, 3, none⟩ = some (.int .i64 a1_3) := (blk_cell BK6.out 3).trans rfl)
       | ((with_reducible refine gate_dst (N := 33) rfl ?_); refine lit_event ?hg (N := 33) ?hd (cs := #[.int .i64 a1_0, .int .i64 a1_1, .int .i64 a1_2, .int .i64 a1_3]) (t := 24) (n := 1) ?hr ?_; (case hd => rfl); (case hg => rfl); (case hr => first | (go_simp; done) | (go_simp; rfl)); intro vb hvb w7 hbox hb; have HV := Aside0.mk (show w7.heap[vb]? = some (.cells (rCells (⟨a1_0, a1_1, a1_2, a1_3⟩ : S24)).toArray 24 (0, 0)) from hbox); have HVB := Aside0.mk (show w6.heap.size ≤ vb from by omega); have HO7 := Aside0.mk (Kd.R_below HO6.out hb); have HB7 := Aside0.mk (below_step HB6.out hb); clear HB6; clear hb hbox hvb h0 h1 h2 h3)
       | (go_at_call 72; refine (putIns.calls (⟨a1_0, a1_1, a1_2, a1_3⟩ : S24) A5 c5 l0.length m l0 w4 w6 w7 rfl HP.out.1 HL2.out HO6.out HO7.out HB7.out vb HVB.out HV.out).mono ?_; rw [HE.out]; rintro e w8 ⟨v8, rfl, hO8, hb⟩; obtain ⟨A8, c8, e8⟩ := Kd.R_slice hO8; subst e8; have HO8 := Aside0.mk hO8; have HB8 := Aside0.mk hb; clear hO8 hb; clear HO6 HO7 HB7 HV HVB))
      go_ret2
      exact ⟨_, rfl, Kd.R_nil _ _ _ _ _, below_step HB4.out HB8.out⟩
   ·rw [if_neg hgood] at h; cases h

/-- A state of type 98 at block g of W; what its slices lead to came in by w0. -/
def IsS98 (w0 W : World) (g : Nat) (f0 : List Int) (f1 : Int) : Prop := ∃ A0 c0, W.heap[g]? = some (.cells #[.slice A0 f0.length c0, .int .i64 f1] 98 (0, 0)) ∧ w0.heap.size ≤ g ∧ Kd.C (Kd.int .u8) w0 A0 f0.length f0
theorem IsS98.grown {w0 W : World} {g : Nat} {f0 : List Int} {f1 : Int} {W1 : World} {row : Option Nat} (h : IsS98 w0 W g f0 f1) (hw : W.grownBy W1 row) (hne : some g ≠ row) : IsS98 w0 W1 g f0 f1 := by
 obtain ⟨A0, c0, hb, hg, hr0⟩ := h;exact ⟨A0, c0, blk_grown hb hw hne, hg, hr0⟩
theorem IsS98.own_neN {w0 W : World} {g : Nat} {f0 : List Int} {f1 : Int} {α : Type} {d : Kd α} {e : Nat} {base : Nat} {ok : Nat → Prop} {v : Value} {xs : List α} (h : IsS98 w0 W g f0 f1) (ho : Kd.N d e W base ok v xs) (ht : e ≠ 98) : some g ≠ v.ownBlock := by
 obtain ⟨A0, c0, hb, hg, hr0⟩ := h;exact Kd.N_ne ho hb ht
theorem IsS98.fresh {w0 W : World} {g : Nat} {f0 : List Int} {f1 : Int} (h : IsS98 w0 W g f0 f1) : ∀ k, W.heap.size ≤ k → k ≠ g := by
 obtain ⟨A0, c0, hb, hg, hr0⟩ := h;exact Kd.freshB hb
theorem IsS98.kept {w0 W : World} {g : Nat} {f0 : List Int} {f1 : Int} {W1 : World} {S : Nat → Prop} (h : IsS98 w0 W g f0 f1) (hk : Kept W W1 S) (hne : ¬ S g) : IsS98 w0 W1 g f0 f1 := by
 obtain ⟨A0, c0, hb, hg, hr0⟩ := h;exact ⟨A0, c0, blk_kept hb hk hne, hg, hr0⟩
theorem IsS98.below {w0 W : World} {g : Nat} {f0 : List Int} {f1 : Int} {W1 : World} (h : IsS98 w0 W g f0 f1) (hw : Below W.heap.size W W1) : IsS98 w0 W1 g f0 f1 := h.grown (grown_of_below hw none) (by simp)
theorem IsS98.alloc {w0 W : World} {g : Nat} {f0 : List Int} {f1 : Int} (h : IsS98 w0 W g f0 f1) (o : Obj) : IsS98 w0 (W.alloc o) g f0 f1 := h.below (below_alloc (Below.refl _ _) o)
theorem IsS98.drewN {w0 W : World} {g : Nat} {f0 : List Int} {f1 : Int} (h : IsS98 w0 W g f0 f1) (m : Nat) : IsS98 w0 (W.drewN m) g f0 f1 := h
theorem IsS98.drew {w0 W : World} {g : Nat} {f0 : List Int} {f1 : Int} (h : IsS98 w0 W g f0 f1) : IsS98 w0 W.drew g f0 f1 := h
theorem IsS98.at_ {w0 W : World} {g : Nat} {f0 : List Int} {f1 : Int} {w' : World} {m : Nat} (hq : W.drewN m = w') (h : IsS98 w0 W g f0 f1) : IsS98 w0 w' g f0 f1 := by subst hq; exact IsS98.drewN h m
theorem IsS98.apart {w0 W : World} {g : Nat} {f0 : List Int} {f1 : Int} {α : Type} {d : Kd α} {e : Nat} {base : Nat} {ok : Nat → Prop} {v : Value} {xs : List α} (h : IsS98 w0 W g f0 f1) (ho : d.R e W base ok v xs) (ht : ∀ q, q ∈ e :: d.E → q ≠ 98) : d.R e W base (fun k => ok k ∧ k ≠ g) v xs := by
 obtain ⟨A0, c0, hb, hg, hr0⟩ := h;exact Kd.R_types ho hb ht
theorem IsS98.own_ne {w0 W : World} {g : Nat} {f0 : List Int} {f1 : Int} {α : Type} {d : Kd α} {e : Nat} {base : Nat} {ok : Nat → Prop} {v : Value} {xs : List α} (h : IsS98 w0 W g f0 f1) (ho : d.R e W base ok v xs) (ht : e ≠ 98) : some g ≠ v.ownBlock := by
 obtain ⟨A0, c0, hb, hg, hr0⟩ := h;exact Kd.R_ne ho hb ht
theorem IsS98.apartQ {w0 W : World} {g : Nat} {f0 : List Int} {f1 : Int} {α : Type} {d : Kd α} {e : Nat} {base : Nat} {ok : Nat → Prop} {v : Value} {xs : List α} (h : IsS98 w0 W g f0 f1) (ho : d.Q e W base ok v xs) (ht : ∀ q, q ∈ e :: d.E → q ≠ 98) : d.Q e W base (fun k => ok k ∧ k ≠ g) v xs := by
 obtain ⟨A0, c0, hb, hg, hr0⟩ := h;exact Kd.Q_types ho hb ht
theorem IsS98.own_neQ {w0 W : World} {g : Nat} {f0 : List Int} {f1 : Int} {α : Type} {d : Kd α} {e : Nat} {base : Nat} {ok : Nat → Prop} {v : Value} {xs : List α} (h : IsS98 w0 W g f0 f1) (ho : d.Q e W base ok v xs) (ht : e ≠ 98) : some g ≠ v.ownBlock := by
 obtain ⟨A0, c0, hb, hg, hr0⟩ := h;exact Kd.Q_ne ho hb ht
theorem IsS98.apartS {w0 W : World} {g : Nat} {f0 : List Int} {f1 : Int} {α : Type} {d : Kd α} {e : Nat} {base : Nat} {ok : Nat → Prop} {v : Value} {xs : List α} (h : IsS98 w0 W g f0 f1) (ho : d.S e W base ok v xs) (ht : ∀ q, q ∈ e :: d.E → q ≠ 98) : d.S e W base (fun k => ok k ∧ k ≠ g) v xs := by
 obtain ⟨A0, c0, hb, hg, hr0⟩ := h;exact Kd.S_types ho hb ht
theorem IsS98.own_neS {w0 W : World} {g : Nat} {f0 : List Int} {f1 : Int} {α : Type} {d : Kd α} {e : Nat} {base : Nat} {ok : Nat → Prop} {v : Value} {xs : List α} (h : IsS98 w0 W g f0 f1) (ho : d.S e W base ok v xs) (ht : e ≠ 98) : some g ≠ v.ownBlock := by
 obtain ⟨A0, c0, hb, hg, hr0⟩ := h;exact Kd.S_ne ho hb ht
theorem IsS98.lt {w0 W : World} {g : Nat} {f0 : List Int} {f1 : Int} (h : IsS98 w0 W g f0 f1) : g < W.heap.size := by
 obtain ⟨A0, c0, hb, hg, hr0⟩ := h;exact blk_lt hb
theorem IsS98.ge {w0 W : World} {g : Nat} {f0 : List Int} {f1 : Int} (h : IsS98 w0 W g f0 f1) : w0.heap.size ≤ g := by
 obtain ⟨A0, c0, hb, hg, hr0⟩ := h;exact hg
theorem IsS98.ne_blk {w0 W : World} {g : Nat} {f0 : List Int} {f1 : Int} {a : Nat} {cs : Array Value} {t : TypeId} {fr : Nat × Nat} (h : IsS98 w0 W g f0 f1) (hb2 : W.heap[a]? = some (.cells cs t fr)) (ht : t ≠ 98) : g ≠ a := by
 obtain ⟨A0, c0, hb, hg, hr0⟩ := h
 rintro rfl
 rw [hb] at hb2
 injection hb2 with hb2
 injection hb2 with _ ht2
 exact ht ht2.symm
theorem IsS98.far {w0 W : World} {g : Nat} {f0 : List Int} {f1 : Int} {p : Addr} (h : IsS98 w0 W g f0 f1) (hne : g ≠ p.block) (u : Value) : IsS98 w0 (W.setCell p u) g f0 f1 := by
 obtain ⟨A0, c0, hb, hg, hr0⟩ := h;exact ⟨A0, c0, blk_far hb hne u, hg, hr0⟩
theorem cellS98_0 {W : World} {g : Nat} {A0 : Option Addr} {c0 : Nat} {f0 : List Int} {f1 : Int} (h : W.heap[g]? = some (.cells #[.slice A0 f0.length c0, .int .i64 f1] 98 (0, 0))) : W.cell? ⟨g, 0, none⟩ = some (.slice A0 f0.length c0) := (blk_cell h 0).trans rfl
theorem cellS98_1 {W : World} {g : Nat} {A0 : Option Addr} {c0 : Nat} {f0 : List Int} {f1 : Int} (h : W.heap[g]? = some (.cells #[.slice A0 f0.length c0, .int .i64 f1] 98 (0, 0))) : W.cell? ⟨g, 1, none⟩ = some (.int .i64 f1) := (blk_cell h 1).trans rfl
theorem IsS98.set_1 {w0 W : World} {g : Nat} {f0 : List Int} {f1 : Int} (h : IsS98 w0 W g f0 f1) (x : Int) : IsS98 w0 (W.setCell ⟨g, 1, none⟩ (.int .i64 x)) g f0 x := by
 obtain ⟨A0, c0, hb, hg, hr0⟩ := h;exact ⟨A0, c0, by simpa using blk_set hb 1 (.int .i64 x), hg, hr0⟩
theorem IsS98.new (w0 W : World) (A0 : Option Addr) (c0 : Nat) (f0 : List Int) (f1 : Int) (hB : Below w0.heap.size w0 W) (hr0 : Kd.C (Kd.int .u8) w0 A0 f0.length f0) : IsS98 w0 (W.alloc (.cells #[.slice A0 f0.length c0, .int .i64 f1] 98)) W.heap.size f0 f1 := ⟨A0, c0, by simpa using heap_alloc_new W _, hB.size, hr0⟩

/-! ### spec_l20Rd_pick: function 78 -/
def spec_l20Rd_pick.j0 : Nat → Int → Bool → List Int → Int → Option (Int × Int)
 | 0, _, _, _, _ => none
 | k + 1, x1, x24, x1000, x1001 => if x24 = true then (some (0, x1001)) else (if (wrap64 (x1001 - 1)) < (x1000.length : Int) then (if 0 ≤ (wrap64 (x1001 - 1)) then (if x1 = 0 then (none) else (some (Int.tmod (wrap64 (rd x1000 (wrap64 (x1001 - 1)))) x1, x1001))) else (none)) else (if (x1000.length : Int) = 0 then (none) else (if 0 ≤ (Int.tmod (wrap64 (x1001 - 1)) (x1000.length : Int)) then (if (Int.tmod (wrap64 (x1001 - 1)) (x1000.length : Int)) < (x1000.length : Int) then (if 0 ≤ (Int.tmod (wrap64 ((wrap64 ((wrap64 (x1001 - 1)) * 7)) + 3)) (x1000.length : Int)) then (if (Int.tmod (wrap64 ((wrap64 ((wrap64 (x1001 - 1)) * 7)) + 3)) (x1000.length : Int)) < (x1000.length : Int) then (if x1 = 0 then (none) else (some (Int.tmod (Go.bits .xor .i64 (wrap64 ((wrap64 ((wrap64 ((wrap64 ((wrap64 (rd x1000 (Int.tmod (wrap64 (x1001 - 1)) (x1000.length : Int)))) * 131)) + (wrap64 ((wrap64 (rd x1000 (Int.tmod (wrap64 ((wrap64 ((wrap64 (x1001 - 1)) * 7)) + 3)) (x1000.length : Int)))) * 1117)))) + (wrap64 ((wrap64 (x1001 - 1)) * 29)))) + (wrap64 ((wrap64 (Int.tdiv (wrap64 (x1001 - 1)) (x1000.length : Int))) * 53)))) (wrap64 (Int.tdiv (wrap64 ((wrap64 ((wrap64 ((wrap64 ((wrap64 (rd x1000 (Int.tmod (wrap64 (x1001 - 1)) (x1000.length : Int)))) * 131)) + (wrap64 ((wrap64 (rd x1000 (Int.tmod (wrap64 ((wrap64 ((wrap64 (x1001 - 1)) * 7)) + 3)) (x1000.length : Int)))) * 1117)))) + (wrap64 ((wrap64 (x1001 - 1)) * 29)))) + (wrap64 ((wrap64 (Int.tdiv (wrap64 (x1001 - 1)) (x1000.length : Int))) * 53)))) 64))) x1, x1001))) else (none)) else (none)) else (none)) else (none))))
def spec_l20Rd_pick.f (k : Nat) (s0_0 : List Int) (s0_1 : Int) (a1 : Int) : Option (Int × Int) := if a1 < 1 then (spec_l20Rd_pick.j0 k a1 true s0_0 (wrap64 (s0_1 + 1))) else (spec_l20Rd_pick.j0 k a1 ((s0_0.length : Int) == 0) s0_0 (wrap64 (s0_1 + 1)))
theorem spec_l20Rd_pick.mono_l : ∀ k, (∀ y0 y1 y2 y3, LeO (spec_l20Rd_pick.j0 k y0 y1 y2 y3) (spec_l20Rd_pick.j0 (k + 1) y0 y1 y2 y3))
 | 0 => fun _ _ _ _ r h => by simp [spec_l20Rd_pick.j0] at h
 | k + 1 => by
  have ih0 := spec_l20Rd_pick.mono_l k
  ·intro y0 y1 y2 y3
   unfold spec_l20Rd_pick.j0
   repeat' first
   | (with_reducible exact ih0 _ _ _ _)
   | (with_reducible exact LeO.refl _)
   | (with_reducible exact LeO.none _)
   | (with_reducible refine LeO.ite ?_ ?_)
   | (with_reducible refine LeO.bind ?_ (fun _ => ?_))
   | exact ih0 _ _ _ _
   | exact LeO.none _
   | refine LeO.ite ?_ ?_
   | refine LeO.bind ?_ (fun _ => ?_)
theorem spec_l20Rd_pick.mono : ∀ a0 a1 a2 k, LeO (spec_l20Rd_pick.f k a0 a1 a2) (spec_l20Rd_pick.f (k + 1) a0 a1 a2) := by
 intro a0 a1 a2 k;have ih0 := spec_l20Rd_pick.mono_l k
 unfold spec_l20Rd_pick.f
 repeat' first
   | (with_reducible exact ih0 _ _ _ _)
   | (with_reducible exact LeO.refl _)
   | (with_reducible exact LeO.none _)
   | (with_reducible refine LeO.ite ?_ ?_)
   | (with_reducible refine LeO.bind ?_ (fun _ => ?_))
   | exact ih0 _ _ _ _
   | exact LeO.none _
   | refine LeO.ite ?_ ?_
   | refine LeO.bind ?_ (fun _ => ?_)
set_option maxHeartbeats 8000000 in
set_option maxRecDepth 100000 in
theorem spec_l20Rd_pick.calls (k : Nat) (g : Nat) (s0_0 : List Int) (s0_1 : Int) (a1 : Int) (r1 : Int) (r2 : Int) (w0 w : World) (hI : IsS98 w0 w g s0_0 s0_1) (hB : Below w0.heap.size w0 w) (h : spec_l20Rd_pick.f k s0_0 s0_1 a1 = some (r1, r2)) :
  Calls Try.prog 78 #[.pointer (some ⟨g, 0, none⟩), .int .i64 a1] w fun e w' => e = .returned (.int .i64 r1) ∧ IsS98 w0 w' g s0_0 r2 ∧ Below w0.heap.size w0 w' ∧ KeepBut w w' g none := by
 have HI0 := Aside0.mk hI;have HK := Aside0.mk (KeepBut.refl w g none);have HL := Aside0.mk hB.size;clear hI;have HW0 := Aside0.mk hB.size;have HB := Aside0.mk hB;clear hB;have H : (if a1 < 1 then (spec_l20Rd_pick.j0 k a1 true s0_0 (wrap64 (s0_1 + 1))) else (spec_l20Rd_pick.j0 k a1 ((s0_0.length : Int) == 0) s0_0 (wrap64 (s0_1 + 1)))) = some (r1, r2) := h;clear h;have HC3 := Aside0.mk H;clear H;obtain ⟨ASz4_0, cSz4_0, HGz4, hgz4, HSz4_0⟩ := HI0.out;have hcz4_0 := cellS98_0 HGz4;have hcz4_1 := cellS98_1 HGz4;have hfz4_1 := blk_frozen HGz4 1;clear HGz4 hgz4
 go_enter Try.func78, Try.ntmps78
 go_upto_region 2 with (fail)
 repeat (go_quiet (fail); go_upto_region 2 with (fail))
 go_cut [24] (fun v24 wc => ∃ (kq : Nat) (x24_2 : Bool), v24 = .bool x24_2 ∧ Aside0 (spec_l20Rd_pick.j0 kq a1 x24_2 s0_0 (wrap64 (s0_1 + 1)) = some (r1, r2)) ∧ Aside0 (kq ≤ k) ∧ Aside0 (IsS98 w0 wc g s0_0 (wrap64 (s0_1 + 1))) ∧ Aside0 (KeepBut w wc g none) ∧ Aside0 (Below w0.heap.size w0 wc))
 case first =>
  have H := HC3.out;clear HC3
  by_cases c5 : a1 < 1
  ·rw [if_pos c5] at H
   have c5b0 : decide (a1 < 1) = true := decide_eq_true c5;clear c5
   (first | rw [c5b0] | (simp only [i64_w, i32_w]; rw [c5b0]) | skip)
   have H' := Aside0.mk H;clear H
   go_wp2
   repeat (go_quiet (fail); try go_wp2)
   go_meet
   case rel => exact ⟨_, (true), (by first | rfl | (simp; done) | (simp [*]; done)), H', ⟨by first | omega | exact Nat.le_refl _⟩, ⟨by repeat (first | (with_reducible first | exact HI0.out | apply IsS98.alloc | apply IsS98.drewN | apply IsS98.drew | apply IsS98.set_1) | exact HI0.out)⟩, ⟨by repeat (first | (with_reducible first | exact HK.out | apply KeepBut.set_ | apply keep_drewN | apply keep_drew | apply keep_alloc) | exact HK.out)⟩, ⟨by repeat (first | (with_reducible first | exact HB.out | apply below_alloc | apply pw_below_drewN | apply below_drew1 | refine below_set ?_ (IsS98.ge HI0.out)) | exact HB.out)⟩⟩
  ·rw [if_neg c5] at H
   have c5b0 : decide (a1 < 1) = false := decide_eq_false c5;clear c5
   (first | rw [c5b0] | (simp only [i64_w, i32_w]; rw [c5b0]) | skip)
   have H' := Aside0.mk H;clear H;obtain ⟨ASz6_0, cSz6_0, HGz6, hgz6, HSz6_0⟩ := HI0.out;have hcz6_0 := cellS98_0 HGz6;have hcz6_1 := cellS98_1 HGz6;have hfz6_1 := blk_frozen HGz6 1;clear HGz6 hgz6
   go_wp2
   repeat (go_quiet (fail); try go_wp2)
   go_meet
   case rel => exact ⟨_, (((s0_0.length : Int) == 0)), (by first | rfl | (simp; done) | (simp [*]; done)), H', ⟨by first | omega | exact Nat.le_refl _⟩, ⟨by repeat (first | (with_reducible first | exact HI0.out | apply IsS98.alloc | apply IsS98.drewN | apply IsS98.drew | apply IsS98.set_1) | exact HI0.out)⟩, ⟨by repeat (first | (with_reducible first | exact HK.out | apply KeepBut.set_ | apply keep_drewN | apply keep_drew | apply keep_alloc) | exact HK.out)⟩, ⟨by repeat (first | (with_reducible first | exact HB.out | apply below_alloc | apply pw_below_drewN | apply below_drew1 | refine below_set ?_ (IsS98.ge HI0.out)) | exact HB.out)⟩⟩
 case rest =>
  clear HC3
  try clear p2
  try clear c5
  try clear c5b0
  try clear p6
  try clear hcz4_0
  try clear hcz4_1
  try clear hcz6_0
  try clear hcz6_1
  try clear hfz4_1
  try clear hfz6_1
  obtain ⟨kq, x24_2, rfl, HA, HJ2, HI0, HK, HB⟩ := hcut
  cases kq with
  | zero => exact absurd HA.out (by simp [spec_l20Rd_pick.j0])
  | succ kj2 =>
   have H := HA.out;clear HA;simp only [spec_l20Rd_pick.j0] at H
   by_cases c7 : x24_2 = true
   ·subst c7
    have H1 : (some (0, (wrap64 (s0_1 + 1)))) = some (r1, r2) := by rw [if_pos rfl] at H; exact H
    clear H;have H := H1;clear H1;simp only [Option.some.injEq, Prod.mk.injEq] at H;obtain ⟨rfl, rfl⟩ := H
    go_wp2
    repeat (go_quiet (fail); try go_wp2)
    go_ret;exact ⟨by first | rfl | (simp <;> rfl) | (simp [*] <;> rfl), by repeat (first | (with_reducible first | exact HI0.out | apply IsS98.alloc | apply IsS98.drewN | apply IsS98.drew | apply IsS98.set_1) | exact HI0.out), by repeat (first | (with_reducible first | exact HB.out | apply below_alloc | apply pw_below_drewN | apply below_drew1 | refine below_set ?_ (IsS98.ge HI0.out)) | exact HB.out), by repeat (first | (with_reducible first | exact HK.out | apply KeepBut.set_ | apply keep_drewN | apply keep_drew | apply keep_alloc) | exact HK.out)⟩
   ·replace c7 := Bool.eq_false_iff.mpr c7
    subst c7
    have H1 : (if (wrap64 ((wrap64 (s0_1 + 1)) - 1)) < (s0_0.length : Int) then (if 0 ≤ (wrap64 ((wrap64 (s0_1 + 1)) - 1)) then (if a1 = 0 then (none) else (some (Int.tmod (wrap64 (rd s0_0 (wrap64 ((wrap64 (s0_1 + 1)) - 1)))) a1, (wrap64 (s0_1 + 1))))) else (none)) else (if (s0_0.length : Int) = 0 then (none) else (if 0 ≤ (Int.tmod (wrap64 ((wrap64 (s0_1 + 1)) - 1)) (s0_0.length : Int)) then (if (Int.tmod (wrap64 ((wrap64 (s0_1 + 1)) - 1)) (s0_0.length : Int)) < (s0_0.length : Int) then (if 0 ≤ (Int.tmod (wrap64 ((wrap64 ((wrap64 ((wrap64 (s0_1 + 1)) - 1)) * 7)) + 3)) (s0_0.length : Int)) then (if (Int.tmod (wrap64 ((wrap64 ((wrap64 ((wrap64 (s0_1 + 1)) - 1)) * 7)) + 3)) (s0_0.length : Int)) < (s0_0.length : Int) then (if a1 = 0 then (none) else (some (Int.tmod (Go.bits .xor .i64 (wrap64 ((wrap64 ((wrap64 ((wrap64 ((wrap64 (rd s0_0 (Int.tmod (wrap64 ((wrap64 (s0_1 + 1)) - 1)) (s0_0.length : Int)))) * 131)) + (wrap64 ((wrap64 (rd s0_0 (Int.tmod (wrap64 ((wrap64 ((wrap64 ((wrap64 (s0_1 + 1)) - 1)) * 7)) + 3)) (s0_0.length : Int)))) * 1117)))) + (wrap64 ((wrap64 ((wrap64 (s0_1 + 1)) - 1)) * 29)))) + (wrap64 ((wrap64 (Int.tdiv (wrap64 ((wrap64 (s0_1 + 1)) - 1)) (s0_0.length : Int))) * 53)))) (wrap64 (Int.tdiv (wrap64 ((wrap64 ((wrap64 ((wrap64 ((wrap64 (rd s0_0 (Int.tmod (wrap64 ((wrap64 (s0_1 + 1)) - 1)) (s0_0.length : Int)))) * 131)) + (wrap64 ((wrap64 (rd s0_0 (Int.tmod (wrap64 ((wrap64 ((wrap64 ((wrap64 (s0_1 + 1)) - 1)) * 7)) + 3)) (s0_0.length : Int)))) * 1117)))) + (wrap64 ((wrap64 ((wrap64 (s0_1 + 1)) - 1)) * 29)))) + (wrap64 ((wrap64 (Int.tdiv (wrap64 ((wrap64 (s0_1 + 1)) - 1)) (s0_0.length : Int))) * 53)))) 64))) a1, (wrap64 (s0_1 + 1))))) else (none)) else (none)) else (none)) else (none)))) = some (r1, r2) := by rw [if_neg (show ¬ (false = true) by decide)] at H; exact H
    clear H;have H := H1;clear H1
    by_cases c8 : (wrap64 ((wrap64 (s0_1 + 1)) - 1)) < (s0_0.length : Int)
    ·rw [if_pos c8] at H
     have c8b0 : decide ((wrap64 ((wrap64 (s0_1 + 1)) - 1)) < (s0_0.length : Int)) = true := decide_eq_true c8;clear c8;obtain ⟨ji9, hji9⟩ : ∃ j_ : Int, (wrap64 ((wrap64 (s0_1 + 1)) - 1)) = j_ := ⟨_, rfl⟩
     replace H : (if 0 ≤ (ji9) then (if a1 = 0 then (none) else (some (Int.tmod (wrap64 (rd s0_0 (ji9))) a1, (wrap64 (s0_1 + 1))))) else (none)) = some (r1, r2) := by first | (rw [hji9] at H; exact H) | (simp only [hji9] at H ⊢; exact H)
     (try rw [hji9] at c8b0);have hji9w : (IntKind.i64.wrap ((wrap64 (s0_1 + 1)) - 1)) = ji9 := (i64_w _).trans hji9
     by_cases c10 : 0 ≤ (ji9)
     ·rw [if_pos c10] at H
      have c10b0 : decide (0 ≤ (ji9)) = true := decide_eq_true c10;clear c10
      by_cases c11 : a1 = 0
      ·rw [if_pos c11] at H
       exact absurd H (by simp)
      ·rw [if_neg c11] at H
       have c11b0 : (a1 == 0) = false := beq_eq_false_iff_ne.mpr c11;have c11b1 : (a1 != 0) = true := bne_iff_ne.mpr c11;simp only [Option.some.injEq, Prod.mk.injEq] at H;obtain ⟨rfl, rfl⟩ := H;obtain ⟨ASz12_0, cSz12_0, HGz12, hgz12, HSz12_0⟩ := HI0.out;have hcz12_0 := cellS98_0 HGz12;have hcz12_1 := cellS98_1 HGz12;have hfz12_1 := blk_frozen HGz12 1;clear HGz12 hgz12;have p214 : 0 ≤ ((ji9) : Int) := of_decide_eq_true (by first | (with_reducible assumption) | assumption);have q214 : (ji9) < (s0_0.length : Int) := of_decide_eq_true (by first | (with_reducible assumption) | assumption);obtain ⟨ad214, e214, hx214_0⟩ := Kd.at_int HSz12_0 (ji9) p214 q214
       cases e214
       replace hx214_0 := pw_cell_below HB.out hx214_0;replace p214 := eq_true p214;replace q214 := eq_true q214
       go_wp2
       repeat (go_quiet (fail); try go_wp2)
       go_ret;exact ⟨by first | rfl | (simp <;> rfl) | (simp only [← hji9]; first | rfl | (simp <;> rfl)) | (simp [*] <;> rfl), by repeat (first | (with_reducible first | exact HI0.out | apply IsS98.alloc | apply IsS98.drewN | apply IsS98.drew | apply IsS98.set_1) | exact HI0.out), by repeat (first | (with_reducible first | exact HB.out | apply below_alloc | apply pw_below_drewN | apply below_drew1 | refine below_set ?_ (IsS98.ge HI0.out)) | exact HB.out), by repeat (first | (with_reducible first | exact HK.out | apply KeepBut.set_ | apply keep_drewN | apply keep_drew | apply keep_alloc) | exact HK.out)⟩
     ·rw [if_neg c10] at H
      exact absurd H (by simp)
    ·rw [if_neg c8] at H
     have c8b0 : decide ((wrap64 ((wrap64 (s0_1 + 1)) - 1)) < (s0_0.length : Int)) = false := decide_eq_false c8;clear c8
     by_cases c13 : (s0_0.length : Int) = 0
     ·rw [if_pos c13] at H
      exact absurd H (by simp)
     ·rw [if_neg c13] at H
      have c13b0 : ((s0_0.length : Int) == 0) = false := beq_eq_false_iff_ne.mpr c13;have c13b1 : ((s0_0.length : Int) != 0) = true := bne_iff_ne.mpr c13;have c13b2 : ¬ (s0_0 = []) := fun h_ => c13 (by rw [h_]; rfl);obtain ⟨ji14, hji14⟩ : ∃ j_ : Int, (Int.tmod (wrap64 ((wrap64 (s0_1 + 1)) - 1)) (s0_0.length : Int)) = j_ := ⟨_, rfl⟩
      replace H : (if 0 ≤ (ji14) then (if (ji14) < (s0_0.length : Int) then (if 0 ≤ (Int.tmod (wrap64 ((wrap64 ((wrap64 ((wrap64 (s0_1 + 1)) - 1)) * 7)) + 3)) (s0_0.length : Int)) then (if (Int.tmod (wrap64 ((wrap64 ((wrap64 ((wrap64 (s0_1 + 1)) - 1)) * 7)) + 3)) (s0_0.length : Int)) < (s0_0.length : Int) then (if a1 = 0 then (none) else (some (Int.tmod (Go.bits .xor .i64 (wrap64 ((wrap64 ((wrap64 ((wrap64 ((wrap64 (rd s0_0 (ji14))) * 131)) + (wrap64 ((wrap64 (rd s0_0 (Int.tmod (wrap64 ((wrap64 ((wrap64 ((wrap64 (s0_1 + 1)) - 1)) * 7)) + 3)) (s0_0.length : Int)))) * 1117)))) + (wrap64 ((wrap64 ((wrap64 (s0_1 + 1)) - 1)) * 29)))) + (wrap64 ((wrap64 (Int.tdiv (wrap64 ((wrap64 (s0_1 + 1)) - 1)) (s0_0.length : Int))) * 53)))) (wrap64 (Int.tdiv (wrap64 ((wrap64 ((wrap64 ((wrap64 ((wrap64 (rd s0_0 (ji14))) * 131)) + (wrap64 ((wrap64 (rd s0_0 (Int.tmod (wrap64 ((wrap64 ((wrap64 ((wrap64 (s0_1 + 1)) - 1)) * 7)) + 3)) (s0_0.length : Int)))) * 1117)))) + (wrap64 ((wrap64 ((wrap64 (s0_1 + 1)) - 1)) * 29)))) + (wrap64 ((wrap64 (Int.tdiv (wrap64 ((wrap64 (s0_1 + 1)) - 1)) (s0_0.length : Int))) * 53)))) 64))) a1, (wrap64 (s0_1 + 1))))) else (none)) else (none)) else (none)) else (none)) = some (r1, r2) := by first | (rw [hji14] at H; exact H) | (simp only [hji14] at H ⊢; exact H)
      by_cases c15 : 0 ≤ (ji14)
      ·rw [if_pos c15] at H
       have c15b0 : decide (0 ≤ (ji14)) = true := decide_eq_true c15;clear c15
       by_cases c16 : (ji14) < (s0_0.length : Int)
       ·rw [if_pos c16] at H
        have c16b0 : decide ((ji14) < (s0_0.length : Int)) = true := decide_eq_true c16;clear c16;obtain ⟨ji17, hji17⟩ : ∃ j_ : Int, (Int.tmod (wrap64 ((wrap64 ((wrap64 ((wrap64 (s0_1 + 1)) - 1)) * 7)) + 3)) (s0_0.length : Int)) = j_ := ⟨_, rfl⟩
        replace H : (if 0 ≤ (ji17) then (if (ji17) < (s0_0.length : Int) then (if a1 = 0 then (none) else (some (Int.tmod (Go.bits .xor .i64 (wrap64 ((wrap64 ((wrap64 ((wrap64 ((wrap64 (rd s0_0 (ji14))) * 131)) + (wrap64 ((wrap64 (rd s0_0 (ji17))) * 1117)))) + (wrap64 ((wrap64 ((wrap64 (s0_1 + 1)) - 1)) * 29)))) + (wrap64 ((wrap64 (Int.tdiv (wrap64 ((wrap64 (s0_1 + 1)) - 1)) (s0_0.length : Int))) * 53)))) (wrap64 (Int.tdiv (wrap64 ((wrap64 ((wrap64 ((wrap64 ((wrap64 (rd s0_0 (ji14))) * 131)) + (wrap64 ((wrap64 (rd s0_0 (ji17))) * 1117)))) + (wrap64 ((wrap64 ((wrap64 (s0_1 + 1)) - 1)) * 29)))) + (wrap64 ((wrap64 (Int.tdiv (wrap64 ((wrap64 (s0_1 + 1)) - 1)) (s0_0.length : Int))) * 53)))) 64))) a1, (wrap64 (s0_1 + 1))))) else (none)) else (none)) = some (r1, r2) := by first | (rw [hji17] at H; exact H) | (simp only [hji17] at H ⊢; exact H)
        by_cases c18 : 0 ≤ (ji17)
        ·rw [if_pos c18] at H
         have c18b0 : decide (0 ≤ (ji17)) = true := decide_eq_true c18;clear c18
         by_cases c19 : (ji17) < (s0_0.length : Int)
         ·rw [if_pos c19] at H
          have c19b0 : decide ((ji17) < (s0_0.length : Int)) = true := decide_eq_true c19;clear c19
          by_cases c20 : a1 = 0
          ·rw [if_pos c20] at H
           exact absurd H (by simp)
          ·rw [if_neg c20] at H
           have c20b0 : (a1 == 0) = false := beq_eq_false_iff_ne.mpr c20;have c20b1 : (a1 != 0) = true := bne_iff_ne.mpr c20;simp only [Option.some.injEq, Prod.mk.injEq] at H;obtain ⟨rfl, rfl⟩ := H;obtain ⟨ASz21_0, cSz21_0, HGz21, hgz21, HSz21_0⟩ := HI0.out;have hcz21_0 := cellS98_0 HGz21;have hcz21_1 := cellS98_1 HGz21;have hfz21_1 := blk_frozen HGz21 1;clear HGz21 hgz21;have p215 : 0 ≤ ((ji14) : Int) := of_decide_eq_true (by first | (with_reducible assumption) | assumption);have q215 : (ji14) < (s0_0.length : Int) := of_decide_eq_true (by first | (with_reducible assumption) | assumption);obtain ⟨ad215, e215, hx215_0⟩ := Kd.at_int HSz21_0 (ji14) p215 q215
           cases e215
           replace hx215_0 := pw_cell_below HB.out hx215_0;replace p215 := eq_true p215;replace q215 := eq_true q215;have p216 : 0 ≤ ((ji17) : Int) := of_decide_eq_true (by first | (with_reducible assumption) | assumption);have q216 : (ji17) < (s0_0.length : Int) := of_decide_eq_true (by first | (with_reducible assumption) | assumption);obtain ⟨ad216, e216, hx216_0⟩ := Kd.at_int HSz21_0 (ji17) p216 q216;obtain rfl : ad215 = ad216 := (by injection e216);replace hx216_0 := pw_cell_below HB.out hx216_0;replace p216 := eq_true p216;replace q216 := eq_true q216
           go_wp2
           repeat (go_quiet (fail); try go_wp2)
           go_ret;exact ⟨by first | rfl | (simp <;> rfl) | (simp only [← hji14, ← hji17]; first | rfl | (simp <;> rfl)) | (simp [*] <;> rfl), by repeat (first | (with_reducible first | exact HI0.out | apply IsS98.alloc | apply IsS98.drewN | apply IsS98.drew | apply IsS98.set_1) | exact HI0.out), by repeat (first | (with_reducible first | exact HB.out | apply below_alloc | apply pw_below_drewN | apply below_drew1 | refine below_set ?_ (IsS98.ge HI0.out)) | exact HB.out), by repeat (first | (with_reducible first | exact HK.out | apply KeepBut.set_ | apply keep_drewN | apply keep_drew | apply keep_alloc) | exact HK.out)⟩
         ·rw [if_neg c19] at H
          exact absurd H (by simp)
        ·rw [if_neg c18] at H
         exact absurd H (by simp)
       ·rw [if_neg c16] at H
        exact absurd H (by simp)
      ·rw [if_neg c15] at H
       exact absurd H (by simp)

/-! ### spec_l20Rd_odd: function 87 -/
def spec_l20Rd_odd.f (k : Nat) (s0_0 : List Int) (s0_1 : Int) (a1 : Int) : Option (Bool × Int) := if a1 > 0 then ((spec_l20Rd_pick.f k s0_0 s0_1 a1).bind fun bt217 => (some ((bt217.1 == (wrap64 (a1 - 1))), bt217.2))) else (some (false, s0_1))
theorem spec_l20Rd_odd.mono : ∀ a0 a1 a2 k, LeO (spec_l20Rd_odd.f k a0 a1 a2) (spec_l20Rd_odd.f (k + 1) a0 a1 a2) := by
 intro a0 a1 a2 k
 unfold spec_l20Rd_odd.f
 repeat' first
   | (with_reducible exact spec_l20Rd_pick.mono _ _ _ _)
   | (with_reducible exact LeO.refl _)
   | (with_reducible exact LeO.none _)
   | (with_reducible refine LeO.ite ?_ ?_)
   | (with_reducible refine LeO.bind ?_ (fun _ => ?_))
   | exact spec_l20Rd_pick.mono _ _ _ _
   | exact LeO.none _
   | refine LeO.ite ?_ ?_
   | refine LeO.bind ?_ (fun _ => ?_)
set_option maxHeartbeats 8000000 in
set_option maxRecDepth 100000 in
theorem spec_l20Rd_odd.calls (k : Nat) (g : Nat) (s0_0 : List Int) (s0_1 : Int) (a1 : Int) (r1 : Bool) (r2 : Int) (w0 w : World) (hI : IsS98 w0 w g s0_0 s0_1) (hB : Below w0.heap.size w0 w) (h : spec_l20Rd_odd.f k s0_0 s0_1 a1 = some (r1, r2)) :
  Calls Try.prog 87 #[.pointer (some ⟨g, 0, none⟩), .int .i64 a1] w fun e w' => e = .returned (.bool r1) ∧ IsS98 w0 w' g s0_0 r2 ∧ Below w0.heap.size w0 w' ∧ KeepBut w w' g none := by
 have HI0 := Aside0.mk hI;have HK := Aside0.mk (KeepBut.refl w g none);have HL := Aside0.mk hB.size;clear hI;have HW0 := Aside0.mk hB.size;have HB := Aside0.mk hB;clear hB;have H : (if a1 > 0 then ((spec_l20Rd_pick.f k s0_0 s0_1 a1).bind fun bt217 => (some ((bt217.1 == (wrap64 (a1 - 1))), bt217.2))) else (some (false, s0_1))) = some (r1, r2) := h;clear h
 by_cases c3 : a1 > 0
 ·rw [if_pos c3] at H
  have c3b0 : decide (0 < a1) = true := decide_eq_true c3;clear c3;replace H := ze H;obtain ⟨⟨t217, t218⟩, A40, H⟩ := H;replace H : (some ((t217 == (wrap64 (a1 - 1))), t218)) = some (r1, r2) := H;have A4 := Aside0.mk A40;clear A40;simp only [Option.some.injEq, Prod.mk.injEq] at H;obtain ⟨rfl, rfl⟩ := H
  go_enter Try.func87, Try.ntmps87
  go_wp2_with (first | (go_at_call 78; (with_reducible refine (spec_l20Rd_pick.calls k g s0_0 s0_1 a1 t217 t218 w0 _ ?side1 ?side2 A4.out).mono ?_); (case side1 => repeat (first | (with_reducible first | exact HI0.out | apply IsS98.alloc | apply IsS98.drewN | apply IsS98.drew | apply IsS98.set_1) | exact HI0.out)); (case side2 => repeat (first | (with_reducible first | exact HB.out | apply below_alloc | apply pw_below_drewN | apply below_drew1 | refine below_set ?_ (IsS98.ge HI0.out)) | exact HB.out)); rintro e w5 ⟨rfl, hi, hb, hk⟩; have n0_ := Aside0.mk (KeepBut.trans (by repeat (first | (with_reducible first | exact HK.out | apply KeepBut.set_ | apply keep_drewN | apply keep_drew | apply keep_alloc) | exact HK.out)) hk (.inl rfl)); have n1_ := Aside0.mk (hb); have n2_ := Aside0.mk (hi); clear HK; clear HB; clear HI0; have HK := n0_; have HB := n1_; have HI0 := n2_; clear n0_ n1_ n2_; (try clear hb); (try clear hb2); (try clear hk); (try clear hi)))
  go_ret;exact ⟨by first | rfl | (simp <;> rfl) | (simp [*] <;> rfl), by repeat (first | (with_reducible first | exact HI0.out | apply IsS98.alloc | apply IsS98.drewN | apply IsS98.drew | apply IsS98.set_1) | exact HI0.out), by repeat (first | (with_reducible first | exact HB.out | apply below_alloc | apply pw_below_drewN | apply below_drew1 | refine below_set ?_ (IsS98.ge HI0.out)) | exact HB.out), by repeat (first | (with_reducible first | exact HK.out | apply KeepBut.set_ | apply keep_drewN | apply keep_drew | apply keep_alloc) | exact HK.out)⟩
 ·rw [if_neg c3] at H
  have c3b0 : decide (0 < a1) = false := decide_eq_false c3;clear c3;simp only [Option.some.injEq, Prod.mk.injEq] at H;obtain ⟨rfl, rfl⟩ := H
  go_enter Try.func87, Try.ntmps87
  go_wp2
  go_ret;exact ⟨by first | rfl | (simp <;> rfl) | (simp [*] <;> rfl), by repeat (first | (with_reducible first | exact HI0.out | apply IsS98.alloc | apply IsS98.drewN | apply IsS98.drew | apply IsS98.set_1) | exact HI0.out), by repeat (first | (with_reducible first | exact HB.out | apply below_alloc | apply pw_below_drewN | apply below_drew1 | refine below_set ?_ (IsS98.ge HI0.out)) | exact HB.out), by repeat (first | (with_reducible first | exact HK.out | apply KeepBut.set_ | apply keep_drewN | apply keep_drew | apply keep_alloc) | exact HK.out)⟩

end Go.Proofs.Ytpoedefohfonjaa.PFnRoutePut

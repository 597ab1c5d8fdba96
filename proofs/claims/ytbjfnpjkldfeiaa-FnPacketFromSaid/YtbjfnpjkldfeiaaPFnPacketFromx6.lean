/- The machine side of some functions: each comes to its pure answer (written by a program of this session with the kit's print). No condition. -/
import Derived.Test.YtbjfnpjkldfeiaaPFnPacketFromx0
import Derived.Test.YtbjfnpjkldfeiaaPFnPacketFromx5
namespace Go.Proofs.Ytbjfnpjkldfeiaa.PFnPacketFrom
open Go.RowKit Go.Proofs.YtbjfnpjkldfeiaaUFnPacketFrom.PrintWords Go.Proofs.YtbjfnpjkldfeiaaUFnPacketFrom.PrintLast Go.Proofs.YtbjfnpjkldfeiaaUFnPacketFrom.PrintMore
attribute [local go_sem] max2_int min2_int max_two min_two max_three min_three max_four min_four   -- for this text's walks alone
set_option linter.unusedVariables false
set_option linter.unusedSimpArgs false

/-! ### impl_sumOf: function 70 -/
section
open Go.Shelf
/-- All are bytes. -/
def bytesB (l : List Int) : Bool := l.all fun x => decide (0 ≤ x ∧ x < 256)
/-- Two numbers added up; what is more comes in again. -/
def sumAdd (a b : Int) : Int := if a + b > 65535 then a + b - 65535 else a + b
/-- The pairs of bytes added up. -/
def sumP : List Int → Int → Int
 | [], s => s
 | [a], s => sumAdd s (a * 256)
 | a :: b :: l, s => sumP l (sumAdd s (a * 256 + b))
def impl_sumOf.f (k : Nat) (l0 : List Int) : Option (Int) := if bytesB l0 = true ∧ l0.length ≤ 4611686018427387904 then some (65535 - sumP l0 0) else none
theorem impl_sumOf.mono : ∀ a0 k, LeO (impl_sumOf.f k a0) (impl_sumOf.f (k + 1) a0) := fun _ _ => LeO.refl _
theorem sumAdd_range {a b : Int} (ha : 0 ≤ a ∧ a ≤ 65535) (hb : 0 ≤ b ∧ b ≤ 65535) : 0 ≤ sumAdd a b ∧ sumAdd a b ≤ 65535 := by unfold sumAdd; split <;> omega
theorem sum_w64 {x : Int} (h0 : -9223372036854775808 ≤ x) (h1 : x < 9223372036854775808) : wrap64 x = x := by unfold wrap64; omega
theorem added_two {s n : Int} (hs : 0 ≤ s ∧ s ≤ 65535) (hn : 0 ≤ n ∧ n ≤ 65535) : impl_added.f 3 [s, n] = some (sumAdd s n) := by
 have e1 : wrap64 (0 + 1) = 1 := sum_w64 (by omega) (by omega);have e2 : wrap64 (1 + 1) = 2 := sum_w64 (by omega) (by omega);have e3 : wrap64 s = s := sum_w64 (by omega) (by omega);have e4 : wrap64 (s + n) = s + n := sum_w64 (by omega) (by omega)
 have h1 : ¬ 65535 < s := by omega
 unfold impl_added.f sumAdd
 simp only [impl_added.l0, List.length_cons, List.length_nil, rd, e1, e2]
 simp [e3, h1, e4]
 by_cases h2 : 65535 < s + n
 ·rw [if_pos h2, if_pos h2, sum_w64 (by omega) (by omega)]
 ·rw [if_neg h2, if_neg h2]
theorem or_byte_ {x y : Int} (hx0 : 0 ≤ x) (hx1 : x < 256) (hy0 : 0 ≤ y) (hy1 : y < 256) : Go.bits .or .i64 (x * 256) y = x * 256 + y := by
 refine bits_join .i64 63 (by decide) ?_ 8 (x * 256) y (by omega) (by omega) ?_ hy0 (by simpa using hy1) ?_
 ·intro n h0 h1;have h1' : n < 9223372036854775808 := h1
  rw [IntKind.wrap_i64]; omega
 ·show x * 256 < 9223372036854775808
  omega
 ·show y < 9223372036854775808
  omega
theorem lit_two (W : World) (s n : Int) : Kd.C (Kd.int .i64) (W.alloc (.cells #[.int .i64 s, .int .i64 n] 3)) (some ⟨W.heap.size, 0, none⟩) 2 [s, n] := by
 refine ⟨rfl, by omega, fun _ => ⟨_, rfl, fun j p hj => ?_⟩⟩;refine ⟨[.int .i64 p], rfl, rfl, fun i u hu => ?_⟩
 have hi : i = 0 := by
  have := (List.getElem?_eq_some_iff.1 hu).1
  simpa using this
 subst hi
 have hu' : Value.int .i64 p = u := by simpa using hu
 subst hu'
 have hjl : j < 2 := (List.getElem?_eq_some_iff.1 hj).1
 show World.cell? _ ((⟨W.heap.size, 0, none⟩ : Addr).add (j * 1 + 0)) = _
 rw [Nat.mul_one, Nat.add_zero, add_plain, blk_cell (blk_new W _) j]
 obtain rfl | rfl : j = 0 ∨ j = 1 := by omega
 ·have : s = p := by simpa using hj
  subst this; rfl
 ·have : n = p := by simpa using hj
  subst this; rfl
theorem cell_later {W : World} {a : Addr} {v : Value} (nd : Nat) (h : W.cell? a = some v) : (W.drewN nd).cell? a = some v := h
theorem frozen_later {W : World} {a : Addr} {b : Bool} (nd : Nat) (h : W.frozen? a = b) : (W.drewN nd).frozen? a = b := h
theorem keeps_drewN (W : World) (nd : Nat) : KeepsOthers W (W.drewN nd) := ⟨Nat.le_refl _, fun _ _ h _ => h⟩
theorem cell_alloc_m {W : World} {a : Addr} {v : Value} (o : Obj) (h : W.cell? a = some v) : (W.alloc o).cell? a = some v := (((Below.refl W.heap.size W).alloc (Nat.le_refl _) o).cell (World.block_lt_of_cell? W a h)).trans h
theorem frozen_alloc_m {W : World} {a : Addr} {v : Value} {b : Bool} (o : Obj) (h : W.cell? a = some v) (hf : W.frozen? a = b) : (W.alloc o).frozen? a = b := (((Below.refl W.heap.size W).alloc (Nat.le_refl _) o).frozen (World.block_lt_of_cell? W a h)).trans hf
theorem addr_one (p : Addr) : p.add 1 = ⟨p.block, p.off + 1, none⟩ := by unfold Addr.add; simp
/-- A chunk: where it lies, how many bytes it has, and these. -/
structure Ck where
 p : Addr
 m : Nat
 x : Int
 y : Int
def Ck.Ok (w : World) (c : Ck) : Prop := (c.m = 1 ∨ c.m = 2) ∧ w.cell? c.p = some (.int .u8 c.x) ∧ (c.m = 2 → w.cell? (c.p.add 1) = some (.int .u8 c.y)) ∧ (0 ≤ c.x ∧ c.x < 256) ∧ (0 ≤ c.y ∧ c.y < 256)
abbrev CkAt (w : World) := { c : Ck // c.Ok w }
def Ck.val (c : Ck) : Int := if c.m = 2 then c.x * 256 + c.y else c.x * 256
def ckSum {w : World} (pre : List (CkAt w)) : Int := pre.foldl (fun s c => sumAdd s c.1.val) 0
theorem ckSum_snoc {w : World} (pre : List (CkAt w)) (c : CkAt w) : ckSum (pre ++ [c]) = sumAdd (ckSum pre) c.1.val := by simp [ckSum]
theorem Ck.val_range {w : World} (c : CkAt w) : 0 ≤ c.1.val ∧ c.1.val ≤ 65535 := by
 obtain ⟨c, _, _, _, h1, h2⟩ := c
 show 0 ≤ c.val ∧ c.val ≤ 65535
 unfold Ck.val; split <;> omega
theorem ckSum_range {w : World} (pre : List (CkAt w)) : 0 ≤ ckSum pre ∧ ckSum pre ≤ 65535 := by
 unfold ckSum
 suffices h : ∀ s : Int, 0 ≤ s ∧ s ≤ 65535 → 0 ≤ pre.foldl (fun s c => sumAdd s c.1.val) s ∧ pre.foldl (fun s c => sumAdd s c.1.val) s ≤ 65535 from h 0 (by omega)
 induction pre with
 | nil => exact fun s hs => hs
 | cons c pre ih => exact fun s hs => ih _ (sumAdd_range hs (Ck.val_range c))
theorem take_next {α : Type} {L : List α} {k : Nat} {c : α} (h : L[k]? = some c) : L.take (k + 1) = L.take k ++ [c] := by
 obtain ⟨hk, e⟩ := List.getElem?_eq_some_iff.1 h
 rw [List.take_succ_eq_append_getElem hk, e]
/-- What a round keeps: what lay ahead of the call, and the two boxes of the iterator. -/
def KeepsBoxes (n₀ Bs Bn : Nat) (A B : World) : Prop := Below n₀ A B ∧ B.cell? ⟨Bs, 0, none⟩ = A.cell? ⟨Bs, 0, none⟩ ∧ B.cell? ⟨Bn, 0, none⟩ = A.cell? ⟨Bn, 0, none⟩
theorem KeepsBoxes.refl (n₀ Bs Bn : Nat) (A : World) : KeepsBoxes n₀ Bs Bn A A := ⟨Below.refl _ _, rfl, rfl⟩
theorem KeepsBoxes.drew (n₀ Bs Bn : Nat) (A : World) : KeepsBoxes n₀ Bs Bn A A.drew := ⟨below_drew (Below.refl _ _), rfl, rfl⟩
theorem KeepsBoxes.trans {n₀ Bs Bn : Nat} {A B C : World} (h : KeepsBoxes n₀ Bs Bn A B) (k : KeepsBoxes n₀ Bs Bn B C) : KeepsBoxes n₀ Bs Bn A C := ⟨h.1.trans k.1, k.2.1.trans h.2.1, k.2.2.trans h.2.2⟩
theorem KeepsBoxes.put {n₀ Bs Bn : Nat} {w : World} (hn : n₀ ≤ w.heap.size) (hs : Bs < w.heap.size) (hn' : Bn < w.heap.size) (W : World) (l : Nat) (o o' : Obj) (hl : w.heap.size ≤ l) (h : W.heap[l]? = some o) (_ : o.isCells = false) (_ : o.isWalk = false) : KeepsBoxes n₀ Bs Bn W (W.putObj l o') := by
 have hlt := (Array.getElem?_eq_some_iff.1 h).1;have hg : Below w.heap.size W (W.putObj l o') := (Below.refl _ W).grown (grownBy_putObj' W l o') (by omega) (fun k e => by cases e; omega);exact ⟨hg.mono hn, hg.cell (p := ⟨Bs, 0, none⟩) hs, hg.cell (p := ⟨Bn, 0, none⟩) hn'⟩
attribute [local go_sem] Oper.semAt_some
set_option maxRecDepth 100000 in
set_option maxHeartbeats 2000000 in
/-- slices.Chunk's closure, at 2 bytes a chunk: for every loop body that keeps what lay ahead and the two boxes. -/
theorem chunk1_in (w0 : World) (n : Nat) (hn : 1 ≤ n) (l Bs Bn n₀ : Nat) (A : Option Addr) (len cap : Nat) (hlc : len ≤ cap) (hcap : len ≤ 4611686018427387904) (L : List (CkAt w0)) (hL : L.length = (len + 1) / 2)
  (hg : ∀ k c, L[k]? = some c → ∃ ad, A = some ad ∧ c.1.p = ad.add (2 * k) ∧ c.1.m = min 2 (len - 2 * k)) (J Jx : List (CkAt w0) → World → Prop) (hJd : ∀ {pre W}, J pre W → J pre W.drew)
  (hY : ∀ pre x W, J pre W → pre.length < (len + 1) / 2 → YieldAt Fence.wide (n - 1) Try.prog l #[.slice (some x.1.p) x.1.m x.1.m] W fun e W' =>
   (e = .returned (.bool true) ∧ J (pre ++ [x]) W' ∧ KeepsBoxes n₀ Bs Bn W W') ∨ (e = .returned (.bool false) ∧ Jx (pre ++ [x]) W'))
  (W : World) (hBs : W.cell? ⟨Bs, 0, none⟩ = some (.slice A len cap)) (hBn : W.cell? ⟨Bn, 0, none⟩ = some (.int .i64 2)) (h0 : J [] W) :
  CallsIn Fence.wide n Try.prog 122 #[.func (.yield l) #[] #[], .pointer (some ⟨Bs, 0, none⟩), .pointer (some ⟨Bn, 0, none⟩)] W fun e W' => (∃ v, e = .returned v) ∧
   ((∃ ys, ys = L ∧ J ys W') ∨ (∃ pre, (∃ k, pre = L.take k) ∧ Jx pre W')) := by
 refine callsIn_of_wp Try.func122 rfl trivial ?_ rfl;simp only [Try.ntmps122, List.size_toArray, List.length_cons, List.length_nil, Nat.reduceAdd, Nat.reduceSub, Array.replicate_succ, Array.replicate_zero, List.push_toArray, List.append_toArray, List.nil_append, List.cons_append]
 gi_wp2
 gi_loopw [4] (fun i wr => ∃ k : Nat, k ≤ (len + 1) / 2 ∧ i = .int .i64 ((2 * k : Nat) : Int) ∧ J (L.take k) wr ∧ KeepsBoxes n₀ Bs Bn W wr)
  (fun i _ => len + 1 - (intOf i).toNat)
 case atStart => exact ⟨0, Nat.zero_le _, rfl, h0, KeepsBoxes.refl _ _ _ _⟩
 case round =>
  obtain ⟨k, hk, rfl, hJs, hnx⟩ := hrel;have hcs := hnx.2.1.trans hBs;have hcn := hnx.2.2.trans hBn
  by_cases hlt : 2 * k < len
  ·obtain ⟨c, hc⟩ : ∃ c, L[k]? = some c := ⟨_, List.getElem?_eq_getElem (by omega)⟩;have HT := Lib.hid (take_next hc);obtain ⟨ad, rfl, hp, hm⟩ := hg k c hc;clear hc hg;obtain ⟨fn, tmps, assign, body, hy, hR⟩ := hY _ c wr.drew (hJd hJs) (by rw [List.length_take]; omega)
   rw [hp, hm] at hy
   have hk1 : 2 * (k + 1) = 2 * k + 2 := by omega
   obtain ⟨j, hj⟩ : ∃ j : Nat, 2 * k = j := ⟨_, rfl⟩
   rw [hj] at hlt hk1 hy ⊢
   have HK1 : Hid (2 * (k + 1) = j + 2) := Lib.hid hk1;clear hk1 hp hm
   have b1 : (0 : Int) ≤ (j : Int) := by omega
   have b2 : (j : Int) ≤ (len : Int) := by omega
   have b3 : (len : Int) ≤ (cap : Int) := by omega
   have b4 : ¬ (cap = j) := by omega
   rcases (show len - j = 1 ∨ 2 ≤ len - j by omega) with hm | hm
   ·rw [show min 2 (len - j) = 1 by omega] at hy
    have b6 : ((len - j : Nat) : Int) < 2 := by omega
    have b5 : (j : Int) + 1 ≤ (len : Int) := by omega
    gi_wp2
    gi_region
    gi_wp2
    refine hR.mono ?_
    rintro e W3 (⟨rfl, hJ3, hk3⟩ | ⟨rfl, hJx3⟩)
    ·have hcn3 := hk3.2.2.trans hcn
     gi_wp2
     go_roundw
     case rel => exact ⟨k + 1, by omega, by rw [HK1.out]; go_num, by rw [HT.out]; exact hJ3, hnx.trans ((KeepsBoxes.drew _ _ _ _).trans hk3)⟩
     case measure => simp [intOf]; omega
    ·gi_wp2
     refine bodyPost_ret (results_none rfl _ _ _) rfl ?_;exact ⟨⟨_, rfl⟩, .inr ⟨_, ⟨k + 1, HT.out.symm⟩, hJx3⟩⟩
   ·rw [show min 2 (len - j) = 2 by omega] at hy
    have b6 : ¬ ((len - j : Nat) : Int) < 2 := by omega
    have b5 : (j : Int) + 2 ≤ (len : Int) := by omega
    gi_wp2
    gi_region
    gi_wp2
    refine hR.mono ?_
    rintro e W3 (⟨rfl, hJ3, hk3⟩ | ⟨rfl, hJx3⟩)
    ·have hcn3 := hk3.2.2.trans hcn
     gi_wp2
     go_roundw
     case rel => exact ⟨k + 1, by omega, by rw [HK1.out]; go_num, by rw [HT.out]; exact hJ3, hnx.trans ((KeepsBoxes.drew _ _ _ _).trans hk3)⟩
     case measure => simp [intOf]; omega
    ·gi_wp2
     refine bodyPost_ret (results_none rfl _ _ _) rfl ?_;exact ⟨⟨_, rfl⟩, .inr ⟨_, ⟨k + 1, HT.out.symm⟩, hJx3⟩⟩
  ·obtain hk2 : k = (len + 1) / 2 := by omega
   gi_wp2
   go_end0
   exact ⟨⟨_, rfl⟩, .inl ⟨_, List.take_of_length_le (by omega), hJs⟩⟩

set_option maxHeartbeats 1000000 in
/-- slices.Chunk: the slice and the number are boxed; the function value captures the boxes. -/
theorem chunk_in (n : Nat) (a : Option Addr) (len cap : Nat) (w : World) :
  CallsIn Fence.wide n Try.prog 106 #[.slice a len cap, .int .i64 2] w fun e w' => e = .returned (.func (.func 122) #[] #[.pointer (some ⟨w.heap.size, 0, none⟩), .pointer (some ⟨w.heap.size + 1, 0, none⟩)]) ∧
   w' = (w.alloc (.cells #[.slice a len cap] 22)).alloc (.cells #[.int .i64 2] 3) := by
 refine callsIn_of_wp Try.func106 rfl trivial ?_ rfl;simp only [Try.ntmps106, List.size_toArray, List.length_cons, List.length_nil, Nat.reduceAdd, Nat.reduceSub, Array.replicate_succ, Array.replicate_zero, List.push_toArray, List.append_toArray, List.nil_append, List.cons_append]
 gi_wp2
 go_ret;exact ⟨rfl, rfl⟩
/-- The iterator's contract. -/
theorem chunk_stops (w0 : World) (n : Nat) (hn : 1 ≤ n) (Bs Bn n₀ : Nat) (A : Option Addr) (len cap : Nat) (hlc : len ≤ cap) (hcap : len ≤ 4611686018427387904) (L : List (CkAt w0)) (hL : L.length = (len + 1) / 2)
  (hg : ∀ k c, L[k]? = some c → ∃ ad, A = some ad ∧ c.1.p = ad.add (2 * k) ∧ c.1.m = min 2 (len - 2 * k)) (w : World) (hs : Bs < w.heap.size) (hb : Bn < w.heap.size)
  (hBs : w.cell? ⟨Bs, 0, none⟩ = some (.slice A len cap)) (hBn : w.cell? ⟨Bn, 0, none⟩ = some (.int .i64 2)) :
  SeqStopsK Fence.wide n Try.prog 122 #[.pointer (some ⟨Bs, 0, none⟩), .pointer (some ⟨Bn, 0, none⟩)] (fun x : CkAt w0 => #[Value.slice (some x.1.p) x.1.m x.1.m]) (KeepsBoxes n₀ Bs Bn)
   (fun ys => ys = L) (fun pre => ∃ k, pre = L.take k) ((len + 1) / 2) w := fun l J Jx W hW hJ hJx hY h0 =>
 chunk1_in w0 n hn l Bs Bn n₀ A len cap hlc hcap L hL hg J Jx (fun {pre W} h => hJ pre W W.drew none h (grown_of_below (below_drew (Below.refl _ _)) none) (fun r e => by cases e)) hY W ((hW.cell (p := ⟨Bs, 0, none⟩) hs).trans hBs) ((hW.cell (p := ⟨Bn, 0, none⟩) hb).trans hBn) h0
/-- The pairs that have come are the pairs of bytes. -/
theorem ck_drop (w0 : World) (l : List Int) (L : List (CkAt w0)) (hL : L.length = (l.length + 1) / 2) (hv : ∀ k c, L[k]? = some c → c.1.val = (if 2 * k + 1 < l.length then rd l ((2 * k : Nat) : Int) * 256 + rd l ((2 * k + 1 : Nat) : Int) else rd l ((2 * k : Nat) : Int) * 256)) :
  ∀ k, k ≤ (l.length + 1) / 2 → sumP l 0 = sumP (l.drop (2 * k)) (ckSum (L.take k))
 | 0, _ => rfl
 | k + 1, hk => by
  obtain ⟨c, hc⟩ : ∃ c, L[k]? = some c := ⟨_, List.getElem?_eq_getElem (by omega)⟩
  rw [ck_drop w0 l L hL hv k (by omega), take_next hc, ckSum_snoc, hv k c hc]
  have hr : ∀ i : Nat, i < l.length → rd l (i : Int) = l.getD i 0 := fun i hi => by unfold rd; rfl
  have hd : ∀ i : Nat, i < l.length → l.drop i = l.getD i 0 :: l.drop (i + 1) := fun i hi => by
   rw [List.drop_eq_getElem_cons hi]; simp [List.getD_eq_getElem?_getD, hi]
  rw [show 2 * (k + 1) = 2 * k + 1 + 1 by omega, hd (2 * k) (by omega), hr (2 * k) (by omega)]
  by_cases h : 2 * k + 1 < l.length
  ·rw [if_pos h, hd (2 * k + 1) h, hr (2 * k + 1) h]; rfl
  ·rw [if_neg h, List.drop_of_length_le (show l.length ≤ 2 * k + 1 by omega), List.drop_of_length_le (show l.length ≤ 2 * k + 1 + 1 by omega)]; rfl
/-- What a round leaves. -/
theorem body_end {w W : World} {s v : Int} {o : Obj} (hc : W.cell? ⟨w.heap.size, 0, none⟩ = some (.int .i64 s)) (hf : W.frozen? ⟨w.heap.size, 0, none⟩ = false) (hB : Below w.heap.size w W) (hW : w.heap.size + 1 + 1 < W.heap.size) (nd : Nat) (W' : World) (hW' : W' = ((W.alloc o).drewN nd).setCell ⟨w.heap.size, 0, none⟩ (.int .i64 v)) (B : Nat) :
  KeepsFrom B W W' ∧ KeepsBoxes w.heap.size (w.heap.size + 1) (w.heap.size + 1 + 1) W W' ∧ (W'.cell? ⟨w.heap.size, 0, none⟩ = some (.int .i64 v) ∧ W'.frozen? ⟨w.heap.size, 0, none⟩ = false ∧ w.heap.size + 1 + 1 < W'.heap.size) ∧ Below w.heap.size w W' := by
 subst hW'
 have b1 : Below W.heap.size W ((W.alloc o).drewN nd) := pw_below_drewN ((Below.refl _ W).alloc (Nat.le_refl _) _) nd;have hc1 := cell_later nd (cell_alloc_m o hc)
 have hle : w.heap.size ≤ W.heap.size := by omega
 refine ⟨(((KeepsOthers.alloc W o).trans (keeps_drewN _ nd)).trans (KeepsOthers.setCell _ _ _)).from B, ⟨(b1.mono hle).setCell (p := ⟨w.heap.size, 0, none⟩) (Nat.le_refl _) _, ?_, ?_⟩, ⟨World.cell?_setCell_same' _ _ _ (by rw [hc1]; rfl), by rw [World.frozen?_setCell]; exact frozen_later nd (frozen_alloc_m o hc hf), Nat.lt_of_lt_of_le hW (by simp)⟩, (hB.trans (b1.mono hle)).setCell (p := ⟨w.heap.size, 0, none⟩) (Nat.le_refl _) _⟩
 ·rw [World.cell?_setCell_other _ _ _ _ (by simp)]; exact b1.cell (p := ⟨w.heap.size + 1, 0, none⟩) (by show w.heap.size + 1 < W.heap.size; omega)
 ·rw [World.cell?_setCell_other _ _ _ _ (by simp)]; exact b1.cell (p := ⟨w.heap.size + 1 + 1, 0, none⟩) hW
set_option maxRecDepth 100000 in
set_option maxHeartbeats 2000000 in
theorem sumOf_in (A0 : Option Addr) (c0 : Nat) (l0 : List Int) (w : World) (hc0 : l0.length ≤ c0) (hcap : l0.length ≤ 4611686018427387904) (L : List (CkAt w)) (hL : L.length = (l0.length + 1) / 2)
  (hg : ∀ k c, L[k]? = some c → ∃ ad, A0 = some ad ∧ c.1.p = ad.add (2 * k) ∧ c.1.m = min 2 (l0.length - 2 * k))
  (hv : ∀ k c, L[k]? = some c → c.1.val = (if 2 * k + 1 < l0.length then rd l0 ((2 * k : Nat) : Int) * 256 + rd l0 ((2 * k + 1 : Nat) : Int) else rd l0 ((2 * k : Nat) : Int) * 256)) :
  CallsIn Fence.wide 3 Try.prog 70 #[.slice A0 l0.length c0] w fun e w' => e = .returned (.int .i64 (65535 - sumP l0 0)) ∧ Below w.heap.size w w' := by
 have hro : Fence.wide.round = none := rfl
 have h1 : 1 ≤ 3 := by omega
 refine callsIn_of_wp_marks Try.func70 rfl trivial ?_ hro;simp only [Try.ntmps70, List.size_toArray, List.length_cons, List.length_nil, Nat.reduceAdd, Nat.reduceSub, Array.replicate_succ, Array.replicate_zero, List.push_toArray, List.append_toArray, List.nil_append, List.cons_append]
 gi_wp2_with (refine ⟨trivial, ?_⟩; gi_at_call 106; refine (chunk_in _ _ _ _ _).mono ?_; rintro e w' ⟨rfl, rfl⟩)
 have bS := Boxed.new w 3 (.int .i64 0);have bN := Boxed.new (w.alloc (.cells #[.int .i64 0] 3)) 22 (.slice A0 l0.length c0);have bM := Boxed.new ((w.alloc (.cells #[.int .i64 0] 3)).alloc (.cells #[.slice A0 l0.length c0] 22)) 3 (.int .i64 2)
 rw [World.size_alloc] at bN bM
 rw [World.size_alloc] at bM
 have hB0 : Below w.heap.size w (((w.alloc (.cells #[.int .i64 0] 3)).alloc (.cells #[.slice A0 l0.length c0] 22)).alloc (.cells #[.int .i64 2] 3)) := (((Below.refl _ w).alloc (Nat.le_refl _) _).alloc (by simp) _).alloc (by simp; omega) _
 refine wpIn_rangeFunc_ownG hro h1 (gf := 122) (lb := #[.pointer (some ⟨w.heap.size + 1, 0, none⟩), .pointer (some ⟨w.heap.size + 1 + 1, 0, none⟩)]) rfl trivial (enters_of Try.func122 (by kernel_rfl) rfl)
  (chunk_stops w (3 - 1) (by omega) (w.heap.size + 1) (w.heap.size + 1 + 1) w.heap.size A0 l0.length c0 hc0 hcap L hL hg _ (by simp) (by simp) (bN.alloc _).cell bM.cell) KeepsBoxes.trans (KeepsBoxes.put (by simp; omega) (by simp) (by simp)) (Below.refl _ _) (fun _ => rfl)
  (fun pre W => (W.cell? ⟨w.heap.size, 0, none⟩ = some (.int .i64 (ckSum pre)) ∧ W.frozen? ⟨w.heap.size, 0, none⟩ = false ∧ w.heap.size + 1 + 1 < W.heap.size) ∧ Below w.heap.size w W)
  (fun _ _ _ => False)
  (OwnFrom.and (Own.from (fun s A B row hs hg hr => ⟨cell_kept hs.1 hg hr, (frozen_kept hs.1 hg hr).trans hs.2.1, Nat.lt_of_lt_of_le hs.2.2 hg.size⟩) _) (ownFrom_below (Nat.le_refl _) (by simp; omega)))
  (fun _ _ _ _ _ hs _ _ => hs)
  ⟨⟨((bS.alloc _).alloc _).cell, ((bS.alloc _).alloc _).frozen, by simp⟩, hB0⟩
  (fun x => { tmps := #[.slice A0 l0.length c0, undef, .int .i64 0, .pointer (some ⟨w.heap.size, 0, none⟩), .slice (some x.1.p) x.1.m x.1.m, undef, .slice A0 l0.length c0, .func (.func 122) #[] #[.pointer (some ⟨w.heap.size + 1, 0, none⟩), .pointer (some ⟨w.heap.size + 1 + 1, 0, none⟩)], .slice (some x.1.p) x.1.m x.1.m, undef, undef, undef, undef, undef, undef, undef, undef, undef, undef, undef, undef, undef, undef, undef, undef, undef, undef, undef, undef], defers := [] }) ?assign ?body ?done ?stop
 case assign =>
  intro l x W K hK
  gi_wp2
  exact hK
 case body =>
  rintro l pre ⟨⟨p, m, x, y⟩, hm, hx, hy, rx, ry⟩ W ⟨⟨hc, hf, hsz⟩, hB⟩ _
  have HZ := Lib.hid hsz;clear hsz;have hx' := (hB.cell (World.block_lt_of_cell? w _ hx)).trans hx;have rS := ckSum_range pre
  dsimp only at hm hx' rx ry hc ⊢
  have hsn := ckSum_snoc pre ⟨⟨p, m, x, y⟩, hm, hx, hy, rx, ry⟩;have HS := Lib.hid hsn;clear hsn
  generalize ckSum pre = s at hc rS HS
  rcases hm with rfl | rfl
  ·have b1 : x * 256 ≤ 65280 := by omega
   have b2 : 0 ≤ x * 256 := by omega
   gi_wp2_with (refine ⟨trivial, ?_⟩; gi_at_call 102; refine (CallsIn.inRound l (callsIn_wide.2 (impl_added.calls 3 (some ⟨W.heap.size, 0, none⟩) 2 [s, x * 256] (sumAdd s (x * 256)) _ (lit_two W s (x * 256)) (by simp) (added_two rS (by omega))))).mono ?_; rintro e w' ⟨rfl, ⟨nd, rfl⟩⟩; have hcW := cell_later nd (cell_alloc_m (.cells #[.int .i64 s, .int .i64 (x * 256)] 3) hc); have hfW := frozen_later nd (frozen_alloc_m (.cells #[.int .i64 s, .int .i64 (x * 256)] 3) hc hf))
   obtain ⟨q1, q2, ⟨q3, q4, q6⟩, q5⟩ := body_end hc hf hB HZ.out _ _ rfl _;exact ⟨q1, q2, ⟨by rw [HS.out]; exact q3, q4, q6⟩, q5⟩
  ·have hy' := (hB.cell (World.block_lt_of_cell? w _ (hy rfl))).trans (hy rfl)
   rw [addr_one] at hy'
   have b1 : x * 256 ≤ 65280 := by omega
   have b2 : 0 ≤ x * 256 := by omega
   have hor : Go.bits .or .i64 (x * 256) y = x * 256 + y := or_byte_ (by omega) (by omega) (by omega) (by omega)
   gi_wp2_with (refine ⟨trivial, ?_⟩; gi_at_call 102; refine (CallsIn.inRound l (callsIn_wide.2 (impl_added.calls 3 (some ⟨W.heap.size, 0, none⟩) 2 [s, x * 256 + y] (sumAdd s (x * 256 + y)) _ (lit_two W s (x * 256 + y)) (by simp) (added_two rS (by omega))))).mono ?_; rintro e w' ⟨rfl, ⟨nd, rfl⟩⟩; have hcW := cell_later nd (cell_alloc_m (.cells #[.int .i64 s, .int .i64 (x * 256 + y)] 3) hc); have hfW := frozen_later nd (frozen_alloc_m (.cells #[.int .i64 s, .int .i64 (x * 256 + y)] 3) hc hf))
   obtain ⟨q1, q2, ⟨q3, q4, q6⟩, q5⟩ := body_end hc hf hB HZ.out _ _ rfl _;exact ⟨q1, q2, ⟨by rw [HS.out]; exact q3, q4, q6⟩, q5⟩
 case done =>
  rintro D ys W hD hys ⟨⟨hc, _⟩, hB⟩ hK
  rw [hys] at hc
  clear hys;have rS := ckSum_range L
  gi_wp2
  refine ⟨by simp, .inl ⟨_, _, rfl, run_takeDeferred hK, ?_⟩⟩;refine ⟨_, results_tmp rfl _ _ _, ?_, hB.trans (belowK_b (w := w) (Nat.le_refl _) W D _ _ (by simp at hD; omega) hK rfl rfl)⟩
  rw [ck_drop w l0 L hL hv _ (Nat.le_refl _), List.drop_of_length_le (by omega), List.take_of_length_le (by omega)]; rfl
 case stop =>
  rintro D c pre W _ _ h _
  exact h.elim

/-- The chunks of a row of bytes. -/
theorem chunks_of (A0 : Option Addr) (l0 : List Int) (w : World) (hr0 : Kd.C (Kd.int .u8) w A0 l0.length l0) (hb : ∀ x ∈ l0, 0 ≤ x ∧ x < 256) : ∀ m, m ≤ (l0.length + 1) / 2 → ∃ L : List (CkAt w), L.length = m ∧
  (∀ k c, L[k]? = some c → (∃ ad, A0 = some ad ∧ c.1.p = ad.add (2 * k) ∧ c.1.m = min 2 (l0.length - 2 * k)) ∧ c.1.val = (if 2 * k + 1 < l0.length then rd l0 ((2 * k : Nat) : Int) * 256 + rd l0 ((2 * k + 1 : Nat) : Int) else rd l0 ((2 * k : Nat) : Int) * 256))
 | 0, _ => ⟨[], rfl, fun k c h => by simp at h⟩
 | m + 1, hm => by
  obtain ⟨L, hL, hp⟩ := chunks_of A0 l0 w hr0 hb m (by omega);obtain ⟨ad, e0, hx⟩ := Kd.at_int hr0 ((2 * m : Nat) : Int) (by omega) (by omega)
  have rr : ∀ i : Nat, i < l0.length → 0 ≤ rd l0 (i : Int) ∧ rd l0 (i : Int) < 256 := fun i hi => by
   have : rd l0 (i : Int) = l0[i] := by unfold rd; simp [List.getD_eq_getElem?_getD, hi]
   rw [this]; exact hb _ (List.getElem_mem hi)
  have hx' : w.cell? (ad.add (2 * m)) = some (.int .u8 (rd l0 ((2 * m : Nat) : Int))) := hx
  by_cases h : 2 * m + 1 < l0.length
  ·obtain ⟨ad', e1, hy⟩ := Kd.at_int hr0 ((2 * m + 1 : Nat) : Int) (by omega) (by omega);obtain rfl : ad = ad' := Option.some.inj (e0.symm.trans e1)
   have hy' : w.cell? ((ad.add (2 * m)).add 1) = some (.int .u8 (rd l0 ((2 * m + 1 : Nat) : Int))) := by
    have : (ad.add (2 * m)).add 1 = ad.add (2 * m + 1) := by exact Deep.add_add ad (2 * m) 1
    rw [this]; exact hy
   refine ⟨L ++ [⟨⟨ad.add (2 * m), 2, rd l0 ((2 * m : Nat) : Int), rd l0 ((2 * m + 1 : Nat) : Int)⟩, .inr rfl, hx', fun _ => hy', rr _ (by omega), rr _ h⟩], by simp [hL], fun k c hc => ?_⟩
   by_cases hk : k < m
   ·rw [List.getElem?_append_left (by omega)] at hc; exact hp k c hc
   ·have hk2 : k < (L ++ [_]).length := (List.getElem?_eq_some_iff.1 hc).1
    rw [List.length_append, List.length_singleton] at hk2
    obtain rfl : k = m := by omega
    rw [List.getElem?_append_right (by omega)] at hc
    have hc' := Option.some.inj (show some _ = some c by simpa [hL] using hc)
    subst hc'
    exact ⟨⟨ad, e0, rfl, by show 2 = _; omega⟩, by rw [if_pos h]; unfold Ck.val; rfl⟩
  ·refine ⟨L ++ [⟨⟨ad.add (2 * m), 1, rd l0 ((2 * m : Nat) : Int), 0⟩, .inl rfl, hx', (fun h => absurd h (by show ¬ (1 : Nat) = 2; decide)), rr _ (by omega), (show (0 : Int) ≤ 0 ∧ (0 : Int) < 256 by decide)⟩], by simp [hL], fun k c hc => ?_⟩
   by_cases hk : k < m
   ·rw [List.getElem?_append_left (by omega)] at hc; exact hp k c hc
   ·have hk2 : k < (L ++ [_]).length := (List.getElem?_eq_some_iff.1 hc).1
    rw [List.length_append, List.length_singleton] at hk2
    obtain rfl : k = m := by omega
    rw [List.getElem?_append_right (by omega)] at hc
    have hc' := Option.some.inj (show some _ = some c by simpa [hL] using hc)
    subst hc'
    exact ⟨⟨ad, e0, rfl, by show 1 = _; omega⟩, by rw [if_neg h]; unfold Ck.val; rfl⟩
theorem impl_sumOf.calls (k : Nat) (A0 : Option Addr) (c0 : Nat) (l0 : List Int) (r : Int) (w : World) (hr0 : Kd.C (Kd.int .u8) w A0 l0.length l0) (hc0 : l0.length ≤ c0) (h : impl_sumOf.f k l0 = some r) :
  Calls Try.prog 70 #[.slice A0 l0.length c0] w fun e w' => e = .returned (.int .i64 r) ∧ Below w.heap.size w w' := by
 unfold impl_sumOf.f at h
 by_cases hb : bytesB l0 = true ∧ l0.length ≤ 4611686018427387904
 ·rw [if_pos hb] at h
  obtain rfl := Option.some.inj h;have hb' : ∀ x ∈ l0, 0 ≤ x ∧ x < 256 := fun x hx => of_decide_eq_true (List.all_eq_true.mp hb.1 x hx);obtain ⟨L, hL, hp⟩ := chunks_of A0 l0 w hr0 hb' _ (Nat.le_refl _);exact callsIn_wide.1 (sumOf_in A0 c0 l0 w hc0 hb.2 L hL (fun k c hc => (hp k c hc).1) (fun k c hc => (hp k c hc).2))
 ·rw [if_neg hb] at h; cases h
end

/-! ### impl_SumFits: function 95 -/
def impl_SumFits.f (k : Nat) (l0 : List Int) (a1 : Int) : Option (Bool) := (impl_sumOf.f k l0).bind fun t285 => ((impl_word.f a1).bind fun t286 => (if t286 = true then (if a1 = t285 then (some true) else (if (Int.tmod a1 65535) = 0 then (some ((Int.tmod t285 65535) == 0)) else (some false))) else (some false)))
theorem impl_SumFits.mono : ∀ a0 a1 k, LeO (impl_SumFits.f k a0 a1) (impl_SumFits.f (k + 1) a0 a1) := by
 intro a0 a1 k
 unfold impl_SumFits.f
 repeat' first
   | (with_reducible exact impl_sumOf.mono _ _)
   | (with_reducible exact LeO.refl _)
   | (with_reducible exact LeO.none _)
   | (with_reducible refine LeO.ite ?_ ?_)
   | (with_reducible refine LeO.bind ?_ (fun _ => ?_))
   | exact impl_sumOf.mono _ _
   | exact LeO.none _
   | refine LeO.ite ?_ ?_
   | refine LeO.bind ?_ (fun _ => ?_)
set_option maxHeartbeats 8000000 in
set_option maxRecDepth 100000 in
theorem impl_SumFits.calls (k : Nat) (A0 : Option Addr) (c0 : Nat) (l0 : List Int) (a1 : Int) (r : Bool) (w : World) (hr0 : Kd.C (Kd.int .u8) w A0 l0.length l0) (hc0 : l0.length ≤ c0) (h : impl_SumFits.f k l0 a1 = some r) :
  Calls Try.prog 95 #[.slice A0 l0.length c0, .int .i64 a1] w fun e w' => e = .returned (.bool r) ∧ Below w.heap.size w w' := by
 have HR0 := Aside0.mk hr0;have HC0 := Aside0.mk hc0;clear hr0 hc0;have HB := Aside0.mk (Below.refl w.heap.size w);have H : ((impl_sumOf.f k l0).bind fun t285 => ((impl_word.f a1).bind fun t286 => (if t286 = true then (if a1 = t285 then (some true) else (if (Int.tmod a1 65535) = 0 then (some ((Int.tmod t285 65535) == 0)) else (some false))) else (some false)))) = some r := h;clear h;replace H := Option.bind_eq_some_iff.mp H;obtain ⟨t285, A30, H⟩ := H;replace H : ((impl_word.f a1).bind fun t286 => (if t286 = true then (if a1 = t285 then (some true) else (if (Int.tmod a1 65535) = 0 then (some ((Int.tmod t285 65535) == 0)) else (some false))) else (some false))) = some r := H;have A3 := Aside0.mk A30;clear A30;replace H := Option.bind_eq_some_iff.mp H;obtain ⟨t286, A40, H⟩ := H;replace H : (if t286 = true then (if a1 = t285 then (some true) else (if (Int.tmod a1 65535) = 0 then (some ((Int.tmod t285 65535) == 0)) else (some false))) else (some false)) = some r := H;have A4 := Aside0.mk A40;clear A40
 by_cases c5 : t286 = true
 ·subst c5
  have H1 : (if a1 = t285 then (some true) else (if (Int.tmod a1 65535) = 0 then (some ((Int.tmod t285 65535) == 0)) else (some false))) = some r := by rw [if_pos rfl] at H; exact H
  clear H;have H := H1;clear H1
  by_cases c6 : a1 = t285
  ·rw [if_pos c6] at H
   have c6b0 : (a1 == t285) = true := beq_iff_eq.mpr c6;have c6b1 : (a1 != t285) = false := bne_eq_false_iff_eq.mpr c6;clear c6;obtain rfl := Option.some.inj H
   go_enter Try.func95, Try.ntmps95
   go_wp2_with (first | ((with_reducible refine gate_callee (f := 70) rfl ?_); refine goesL_ (some 7) rfl rfl Try.func70 (by kernel_rfl) rfl #[.slice A0 l0.length c0] rfl (by (try simp only [zm]); first | done | rfl | (simp only [List.length_drop, List.length_take]; rfl)) ?_; (with_reducible refine (impl_sumOf.calls k _ _ l0 t285 _ ?side1 ?side2 A3.out).mono ?_); (case side1 => repeat (first | exact HR0.out | (with_reducible refine Kd.C_alloc ?_ _) | (with_reducible refine Kd.C_drewN ?_ _) | (with_reducible refine Kd.C_drew ?_))); (case side2 => exact HC0.out); rintro e w7 ⟨rfl, hb⟩; refine ⟨_, rfl, ?_⟩; have n0_ := Aside0.mk (below_step (by repeat (first | (with_reducible first | exact HB.out | apply below_alloc | apply pw_below_drewN | apply below_drew1) | exact HB.out)) hb); clear HB; have HB := n0_; clear n0_; (try clear hb); (try clear hb2); (try clear hk); (try clear hi)) | ((with_reducible refine gate_callee (f := 78) rfl ?_); refine goesL_ (some 9) rfl rfl Try.func78 (by kernel_rfl) rfl #[.int .i64 a1] rfl (by (try simp only [zm]); first | done | rfl | (simp only [List.length_drop, List.length_take]; rfl)) ?_; (with_reducible refine (impl_word.calls a1 true _ A4.out).mono ?_); rintro e w' ⟨rfl, ⟨nd, rfl⟩⟩; refine ⟨_, rfl, ?_⟩))
   go_ret;exact ⟨by first | rfl | (simp [errW_none, errW_some] <;> rfl) | (simp [*, errW_none, errW_some] <;> rfl), by repeat (first | (with_reducible first | exact HB.out | apply below_alloc | apply pw_below_drewN | apply below_drew1) | exact HB.out)⟩
  ·rw [if_neg c6] at H
   have c6b0 : (a1 == t285) = false := beq_eq_false_iff_ne.mpr c6;have c6b1 : (a1 != t285) = true := bne_iff_ne.mpr c6
   by_cases c8 : (Int.tmod a1 65535) = 0
   ·rw [if_pos c8] at H
    have c8b0 : ((Int.tmod a1 65535) == 0) = true := beq_iff_eq.mpr c8;have c8b1 : ((Int.tmod a1 65535) != 0) = false := bne_eq_false_iff_eq.mpr c8;clear c8;obtain rfl := Option.some.inj H
    go_enter Try.func95, Try.ntmps95
    go_wp2_with (first | ((with_reducible refine gate_callee (f := 70) rfl ?_); refine goesL_ (some 7) rfl rfl Try.func70 (by kernel_rfl) rfl #[.slice A0 l0.length c0] rfl (by (try simp only [zm]); first | done | rfl | (simp only [List.length_drop, List.length_take]; rfl)) ?_; (with_reducible refine (impl_sumOf.calls k _ _ l0 t285 _ ?side1 ?side2 A3.out).mono ?_); (case side1 => repeat (first | exact HR0.out | (with_reducible refine Kd.C_alloc ?_ _) | (with_reducible refine Kd.C_drewN ?_ _) | (with_reducible refine Kd.C_drew ?_))); (case side2 => exact HC0.out); rintro e w9 ⟨rfl, hb⟩; refine ⟨_, rfl, ?_⟩; have n0_ := Aside0.mk (below_step (by repeat (first | (with_reducible first | exact HB.out | apply below_alloc | apply pw_below_drewN | apply below_drew1) | exact HB.out)) hb); clear HB; have HB := n0_; clear n0_; (try clear hb); (try clear hb2); (try clear hk); (try clear hi)) | ((with_reducible refine gate_callee (f := 78) rfl ?_); refine goesL_ (some 9) rfl rfl Try.func78 (by kernel_rfl) rfl #[.int .i64 a1] rfl (by (try simp only [zm]); first | done | rfl | (simp only [List.length_drop, List.length_take]; rfl)) ?_; (with_reducible refine (impl_word.calls a1 true _ A4.out).mono ?_); rintro e w' ⟨rfl, ⟨nd, rfl⟩⟩; refine ⟨_, rfl, ?_⟩))
    go_ret;exact ⟨by first | rfl | (simp [errW_none, errW_some] <;> rfl) | (simp [*, errW_none, errW_some] <;> rfl), by repeat (first | (with_reducible first | exact HB.out | apply below_alloc | apply pw_below_drewN | apply below_drew1) | exact HB.out)⟩
   ·rw [if_neg c8] at H
    have c8b0 : ((Int.tmod a1 65535) == 0) = false := beq_eq_false_iff_ne.mpr c8;have c8b1 : ((Int.tmod a1 65535) != 0) = true := bne_iff_ne.mpr c8;obtain rfl := Option.some.inj H
    go_enter Try.func95, Try.ntmps95
    go_wp2_with (first | ((with_reducible refine gate_callee (f := 70) rfl ?_); refine goesL_ (some 7) rfl rfl Try.func70 (by kernel_rfl) rfl #[.slice A0 l0.length c0] rfl (by (try simp only [zm]); first | done | rfl | (simp only [List.length_drop, List.length_take]; rfl)) ?_; (with_reducible refine (impl_sumOf.calls k _ _ l0 t285 _ ?side1 ?side2 A3.out).mono ?_); (case side1 => repeat (first | exact HR0.out | (with_reducible refine Kd.C_alloc ?_ _) | (with_reducible refine Kd.C_drewN ?_ _) | (with_reducible refine Kd.C_drew ?_))); (case side2 => exact HC0.out); rintro e w10 ⟨rfl, hb⟩; refine ⟨_, rfl, ?_⟩; have n0_ := Aside0.mk (below_step (by repeat (first | (with_reducible first | exact HB.out | apply below_alloc | apply pw_below_drewN | apply below_drew1) | exact HB.out)) hb); clear HB; have HB := n0_; clear n0_; (try clear hb); (try clear hb2); (try clear hk); (try clear hi)) | ((with_reducible refine gate_callee (f := 78) rfl ?_); refine goesL_ (some 9) rfl rfl Try.func78 (by kernel_rfl) rfl #[.int .i64 a1] rfl (by (try simp only [zm]); first | done | rfl | (simp only [List.length_drop, List.length_take]; rfl)) ?_; (with_reducible refine (impl_word.calls a1 true _ A4.out).mono ?_); rintro e w' ⟨rfl, ⟨nd, rfl⟩⟩; refine ⟨_, rfl, ?_⟩))
    go_ret;exact ⟨by first | rfl | (simp [errW_none, errW_some] <;> rfl) | (simp [*, errW_none, errW_some] <;> rfl), by repeat (first | (with_reducible first | exact HB.out | apply below_alloc | apply pw_below_drewN | apply below_drew1) | exact HB.out)⟩
 ·replace c5 := Bool.eq_false_iff.mpr c5
  subst c5
  have H1 : (some false) = some r := by rw [if_neg (show ¬ (false = true) by decide)] at H; exact H
  clear H;have H := H1;clear H1;obtain rfl := Option.some.inj H
  go_enter Try.func95, Try.ntmps95
  go_wp2_with (first | ((with_reducible refine gate_callee (f := 70) rfl ?_); refine goesL_ (some 7) rfl rfl Try.func70 (by kernel_rfl) rfl #[.slice A0 l0.length c0] rfl (by (try simp only [zm]); first | done | rfl | (simp only [List.length_drop, List.length_take]; rfl)) ?_; (with_reducible refine (impl_sumOf.calls k _ _ l0 t285 _ ?side1 ?side2 A3.out).mono ?_); (case side1 => repeat (first | exact HR0.out | (with_reducible refine Kd.C_alloc ?_ _) | (with_reducible refine Kd.C_drewN ?_ _) | (with_reducible refine Kd.C_drew ?_))); (case side2 => exact HC0.out); rintro e w11 ⟨rfl, hb⟩; refine ⟨_, rfl, ?_⟩; have n0_ := Aside0.mk (below_step (by repeat (first | (with_reducible first | exact HB.out | apply below_alloc | apply pw_below_drewN | apply below_drew1) | exact HB.out)) hb); clear HB; have HB := n0_; clear n0_; (try clear hb); (try clear hb2); (try clear hk); (try clear hi)) | ((with_reducible refine gate_callee (f := 78) rfl ?_); refine goesL_ (some 9) rfl rfl Try.func78 (by kernel_rfl) rfl #[.int .i64 a1] rfl (by (try simp only [zm]); first | done | rfl | (simp only [List.length_drop, List.length_take]; rfl)) ?_; (with_reducible refine (impl_word.calls a1 false _ A4.out).mono ?_); rintro e w' ⟨rfl, ⟨nd, rfl⟩⟩; refine ⟨_, rfl, ?_⟩))
  go_ret;exact ⟨by first | rfl | (simp [errW_none, errW_some] <;> rfl) | (simp [*, errW_none, errW_some] <;> rfl), by repeat (first | (with_reducible first | exact HB.out | apply below_alloc | apply pw_below_drewN | apply below_drew1) | exact HB.out)⟩

end Go.Proofs.Ytbjfnpjkldfeiaa.PFnPacketFrom

/- The machine side of some functions: each comes to its pure answer (written by a program of this session with the kit's print). No condition. -/
import Derived.Test.YtbjfnpjkldfeiaaPFnPacketBytesx0
import Derived.Test.YtbjfnpjkldfeiaaPFnPacketBytesx1
import Derived.Test.YtbjfnpjkldfeiaaPFnPacketBytesx3
namespace Go.Proofs.Ytbjfnpjkldfeiaa.PFnPacketBytes
open Go.RowKit Go.Proofs.YtbjfnpjkldfeiaaUFnPacketBytes.PrintWords Go.Proofs.YtbjfnpjkldfeiaaUFnPacketBytes.PrintLast Go.Proofs.YtbjfnpjkldfeiaaUFnPacketBytes.PrintMore
attribute [local go_sem] max2_int min2_int max_two min_two max_three min_three max_four min_four   -- for this text's walks alone
set_option linter.unusedVariables false
set_option linter.unusedSimpArgs false

/-! ### impl_sumOf: function 70 -/
section
open Go.Shelf
/-- All are bytes. -/
def bytesB (l : List Int) : Bool := l.all fun x => decide (0 ≤ x ∧ x < 256)
/-- Two numbers added up; what is more comes in again. -/
def sumAdd (a b : Int) : Int := if a + b > 65535 then a + b - 65535 else a + b
/-- The pairs of bytes added up. -/
def sumP : List Int → Int → Int
 | [], s => s
 | [a], s => sumAdd s (a * 256)
 | a :: b :: l, s => sumP l (sumAdd s (a * 256 + b))
def impl_sumOf.f (k : Nat) (l0 : List Int) : Option (Int) := if bytesB l0 = true ∧ l0.length ≤ 4611686018427387904 then some (65535 - sumP l0 0) else none
theorem impl_sumOf.mono : ∀ a0 k, LeO (impl_sumOf.f k a0) (impl_sumOf.f (k + 1) a0) := fun _ _ => LeO.refl _
theorem sumAdd_range {a b : Int} (ha : 0 ≤ a ∧ a ≤ 65535) (hb : 0 ≤ b ∧ b ≤ 65535) : 0 ≤ sumAdd a b ∧ sumAdd a b ≤ 65535 := by unfold sumAdd; split <;> omega
theorem sum_w64 {x : Int} (h0 : -9223372036854775808 ≤ x) (h1 : x < 9223372036854775808) : wrap64 x = x := by unfold wrap64; omega
theorem added_two {s n : Int} (hs : 0 ≤ s ∧ s ≤ 65535) (hn : 0 ≤ n ∧ n ≤ 65535) : impl_added.f 3 [s, n] = some (sumAdd s n) := by
 have e1 : wrap64 (0 + 1) = 1 := sum_w64 (by omega) (by omega);have e2 : wrap64 (1 + 1) = 2 := sum_w64 (by omega) (by omega);have e3 : wrap64 s = s := sum_w64 (by omega) (by omega);have e4 : wrap64 (s + n) = s + n := sum_w64 (by omega) (by omega)
 have h1 : ¬ 65535 < s := by omega
 unfold impl_added.f sumAdd
 simp only [impl_added.l0, List.length_cons, List.length_nil, rd, e1, e2]
 simp [e3, h1, e4]
 by_cases h2 : 65535 < s + n
 ·rw [if_pos h2, if_pos h2, sum_w64 (by omega) (by omega)]
 ·rw [if_neg h2, if_neg h2]
theorem or_byte_ {x y : Int} (hx0 : 0 ≤ x) (hx1 : x < 256) (hy0 : 0 ≤ y) (hy1 : y < 256) : Go.bits .or .i64 (x * 256) y = x * 256 + y := by
 refine bits_join .i64 63 (by decide) ?_ 8 (x * 256) y (by omega) (by omega) ?_ hy0 (by simpa using hy1) ?_
 ·intro n h0 h1;have h1' : n < 9223372036854775808 := h1
  rw [IntKind.wrap_i64]; omega
 ·show x * 256 < 9223372036854775808
  omega
 ·show y < 9223372036854775808
  omega
theorem lit_two (W : World) (s n : Int) : Kd.C (Kd.int .i64) (W.alloc (.cells #[.int .i64 s, .int .i64 n] 3)) (some ⟨W.heap.size, 0, none⟩) 2 [s, n] := by
 refine ⟨rfl, by omega, fun _ => ⟨_, rfl, fun j p hj => ?_⟩⟩;refine ⟨[.int .i64 p], rfl, rfl, fun i u hu => ?_⟩
 have hi : i = 0 := by
  have := (List.getElem?_eq_some_iff.1 hu).1
  simpa using this
 subst hi
 have hu' : Value.int .i64 p = u := by simpa using hu
 subst hu'
 have hjl : j < 2 := (List.getElem?_eq_some_iff.1 hj).1
 show World.cell? _ ((⟨W.heap.size, 0, none⟩ : Addr).add (j * 1 + 0)) = _
 rw [Nat.mul_one, Nat.add_zero, add_plain, blk_cell (blk_new W _) j]
 obtain rfl | rfl : j = 0 ∨ j = 1 := by omega
 ·have : s = p := by simpa using hj
  subst this; rfl
 ·have : n = p := by simpa using hj
  subst this; rfl
theorem cell_later {W : World} {a : Addr} {v : Value} (nd : Nat) (h : W.cell? a = some v) : (W.drewN nd).cell? a = some v := h
theorem frozen_later {W : World} {a : Addr} {b : Bool} (nd : Nat) (h : W.frozen? a = b) : (W.drewN nd).frozen? a = b := h
theorem keeps_drewN (W : World) (nd : Nat) : KeepsOthers W (W.drewN nd) := ⟨Nat.le_refl _, fun _ _ h _ => h⟩
theorem cell_alloc_m {W : World} {a : Addr} {v : Value} (o : Obj) (h : W.cell? a = some v) : (W.alloc o).cell? a = some v := (((Below.refl W.heap.size W).alloc (Nat.le_refl _) o).cell (World.block_lt_of_cell? W a h)).trans h
theorem frozen_alloc_m {W : World} {a : Addr} {v : Value} {b : Bool} (o : Obj) (h : W.cell? a = some v) (hf : W.frozen? a = b) : (W.alloc o).frozen? a = b := (((Below.refl W.heap.size W).alloc (Nat.le_refl _) o).frozen (World.block_lt_of_cell? W a h)).trans hf
theorem addr_one (p : Addr) : p.add 1 = ⟨p.block, p.off + 1, none⟩ := by unfold Addr.add; simp
/-- A chunk: where it lies, how many bytes it has, and these. -/
structure Ck where
 p : Addr
 m : Nat
 x : Int
 y : Int
def Ck.Ok (w : World) (c : Ck) : Prop := (c.m = 1 ∨ c.m = 2) ∧ w.cell? c.p = some (.int .u8 c.x) ∧ (c.m = 2 → w.cell? (c.p.add 1) = some (.int .u8 c.y)) ∧ (0 ≤ c.x ∧ c.x < 256) ∧ (0 ≤ c.y ∧ c.y < 256)
abbrev CkAt (w : World) := { c : Ck // c.Ok w }
def Ck.val (c : Ck) : Int := if c.m = 2 then c.x * 256 + c.y else c.x * 256
def ckSum {w : World} (pre : List (CkAt w)) : Int := pre.foldl (fun s c => sumAdd s c.1.val) 0
theorem ckSum_snoc {w : World} (pre : List (CkAt w)) (c : CkAt w) : ckSum (pre ++ [c]) = sumAdd (ckSum pre) c.1.val := by simp [ckSum]
theorem Ck.val_range {w : World} (c : CkAt w) : 0 ≤ c.1.val ∧ c.1.val ≤ 65535 := by
 obtain ⟨c, _, _, _, h1, h2⟩ := c
 show 0 ≤ c.val ∧ c.val ≤ 65535
 unfold Ck.val; split <;> omega
theorem ckSum_range {w : World} (pre : List (CkAt w)) : 0 ≤ ckSum pre ∧ ckSum pre ≤ 65535 := by
 unfold ckSum
 suffices h : ∀ s : Int, 0 ≤ s ∧ s ≤ 65535 → 0 ≤ pre.foldl (fun s c => sumAdd s c.1.val) s ∧ pre.foldl (fun s c => sumAdd s c.1.val) s ≤ 65535 from h 0 (by omega)
 induction pre with
 | nil => exact fun s hs => hs
 | cons c pre ih => exact fun s hs => ih _ (sumAdd_range hs (Ck.val_range c))
theorem take_next {α : Type} {L : List α} {k : Nat} {c : α} (h : L[k]? = some c) : L.take (k + 1) = L.take k ++ [c] := by
 obtain ⟨hk, e⟩ := List.getElem?_eq_some_iff.1 h
 rw [List.take_succ_eq_append_getElem hk, e]
/-- What a round keeps: what lay ahead of the call, and the two boxes of the iterator. -/
def KeepsBoxes (n₀ Bs Bn : Nat) (A B : World) : Prop := Below n₀ A B ∧ B.cell? ⟨Bs, 0, none⟩ = A.cell? ⟨Bs, 0, none⟩ ∧ B.cell? ⟨Bn, 0, none⟩ = A.cell? ⟨Bn, 0, none⟩
theorem KeepsBoxes.refl (n₀ Bs Bn : Nat) (A : World) : KeepsBoxes n₀ Bs Bn A A := ⟨Below.refl _ _, rfl, rfl⟩
theorem KeepsBoxes.drew (n₀ Bs Bn : Nat) (A : World) : KeepsBoxes n₀ Bs Bn A A.drew := ⟨below_drew (Below.refl _ _), rfl, rfl⟩
theorem KeepsBoxes.trans {n₀ Bs Bn : Nat} {A B C : World} (h : KeepsBoxes n₀ Bs Bn A B) (k : KeepsBoxes n₀ Bs Bn B C) : KeepsBoxes n₀ Bs Bn A C := ⟨h.1.trans k.1, k.2.1.trans h.2.1, k.2.2.trans h.2.2⟩
theorem KeepsBoxes.put {n₀ Bs Bn : Nat} {w : World} (hn : n₀ ≤ w.heap.size) (hs : Bs < w.heap.size) (hn' : Bn < w.heap.size) (W : World) (l : Nat) (o o' : Obj) (hl : w.heap.size ≤ l) (h : W.heap[l]? = some o) (_ : o.isCells = false) (_ : o.isWalk = false) : KeepsBoxes n₀ Bs Bn W (W.putObj l o') := by
 have hlt := (Array.getElem?_eq_some_iff.1 h).1;have hg : Below w.heap.size W (W.putObj l o') := (Below.refl _ W).grown (grownBy_putObj' W l o') (by omega) (fun k e => by cases e; omega);exact ⟨hg.mono hn, hg.cell (p := ⟨Bs, 0, none⟩) hs, hg.cell (p := ⟨Bn, 0, none⟩) hn'⟩
attribute [local go_sem] Oper.semAt_some
set_option maxRecDepth 100000 in
set_option maxHeartbeats 2000000 in
/-- slices.Chunk's closure, at 2 bytes a chunk: for every loop body that keeps what lay ahead and the two boxes. -/
theorem chunk1_in (w0 : World) (n : Nat) (hn : 1 ≤ n) (l Bs Bn n₀ : Nat) (A : Option Addr) (len cap : Nat) (hlc : len ≤ cap) (hcap : len ≤ 4611686018427387904) (L : List (CkAt w0)) (hL : L.length = (len + 1) / 2)
  (hg : ∀ k c, L[k]? = some c → ∃ ad, A = some ad ∧ c.1.p = ad.add (2 * k) ∧ c.1.m = min 2 (len - 2 * k)) (J Jx : List (CkAt w0) → World → Prop) (hJd : ∀ {pre W}, J pre W → J pre W.drew)
  (hY : ∀ pre x W, J pre W → pre.length < (len + 1) / 2 → YieldAt Fence.wide (n - 1) Try.prog l #[.slice (some x.1.p) x.1.m x.1.m] W fun e W' =>
   (e = .returned (.bool true) ∧ J (pre ++ [x]) W' ∧ KeepsBoxes n₀ Bs Bn W W') ∨ (e = .returned (.bool false) ∧ Jx (pre ++ [x]) W'))
  (W : World) (hBs : W.cell? ⟨Bs, 0, none⟩ = some (.slice A len cap)) (hBn : W.cell? ⟨Bn, 0, none⟩ = some (.int .i64 2)) (h0 : J [] W) :
  CallsIn Fence.wide n Try.prog 122 #[.func (.yield l) #[] #[], .pointer (some ⟨Bs, 0, none⟩), .pointer (some ⟨Bn, 0, none⟩)] W fun e W' => (∃ v, e = .returned v) ∧
   ((∃ ys, ys = L ∧ J ys W') ∨ (∃ pre, (∃ k, pre = L.take k) ∧ Jx pre W')) := by
 refine callsIn_of_wp Try.func122 rfl trivial ?_ rfl;simp only [Try.ntmps122, List.size_toArray, List.length_cons, List.length_nil, Nat.reduceAdd, Nat.reduceSub, Array.replicate_succ, Array.replicate_zero, List.push_toArray, List.append_toArray, List.nil_append, List.cons_append]
 gi_wp2
 gi_loopw [4] (fun i wr => ∃ k : Nat, k ≤ (len + 1) / 2 ∧ i = .int .i64 ((2 * k : Nat) : Int) ∧ J (L.take k) wr ∧ KeepsBoxes n₀ Bs Bn W wr)
  (fun i _ => len + 1 - (intOf i).toNat)
 case atStart => exact ⟨0, Nat.zero_le _, rfl, h0, KeepsBoxes.refl _ _ _ _⟩
 case round =>
  obtain ⟨k, hk, rfl, hJs, hnx⟩ := hrel;have hcs := hnx.2.1.trans hBs;have hcn := hnx.2.2.trans hBn
  by_cases hlt : 2 * k < len
  ·obtain ⟨c, hc⟩ : ∃ c, L[k]? = some c := ⟨_, List.getElem?_eq_getElem (by omega)⟩;have HT := Lib.hid (take_next hc);obtain ⟨ad, rfl, hp, hm⟩ := hg k c hc;clear hc hg;obtain ⟨fn, tmps, assign, body, hy, hR⟩ := hY _ c wr.drew (hJd hJs) (by rw [List.length_take]; omega)
   rw [hp, hm] at hy
   have hk1 : 2 * (k + 1) = 2 * k + 2 := by omega
   obtain ⟨j, hj⟩ : ∃ j : Nat, 2 * k = j := ⟨_, rfl⟩
   rw [hj] at hlt hk1 hy ⊢
   have HK1 : Hid (2 * (k + 1) = j + 2) := Lib.hid hk1;clear hk1 hp hm
   have b1 : (0 : Int) ≤ (j : Int) := by omega
   have b2 : (j : Int) ≤ (len : Int) := by omega
   have b3 : (len : Int) ≤ (cap : Int) := by omega
   have b4 : ¬ (cap = j) := by omega
   rcases (show len - j = 1 ∨ 2 ≤ len - j by omega) with hm | hm
   ·rw [show min 2 (len - j) = 1 by omega] at hy
    have b6 : ((len - j : Nat) : Int) < 2 := by omega
    have b5 : (j : Int) + 1 ≤ (len : Int) := by omega
    gi_wp2
    gi_region
    gi_wp2
    refine hR.mono ?_
    rintro e W3 (⟨rfl, hJ3, hk3⟩ | ⟨rfl, hJx3⟩)
    ·have hcn3 := hk3.2.2.trans hcn
     gi_wp2
     go_roundw
     case rel => exact ⟨k + 1, by omega, by rw [HK1.out]; go_num, by rw [HT.out]; exact hJ3, hnx.trans ((KeepsBoxes.drew _ _ _ _).trans hk3)⟩
     case measure => simp [intOf]; omega
    ·gi_wp2
     refine bodyPost_ret (results_none rfl _ _ _) rfl ?_;exact ⟨⟨_, rfl⟩, .inr ⟨_, ⟨k + 1, HT.out.symm⟩, hJx3⟩⟩
   ·rw [show min 2 (len - j) = 2 by omega] at hy
    have b6 : ¬ ((len - j : Nat) : Int) < 2 := by omega
    have b5 : (j : Int) + 2 ≤ (len : Int) := by omega
    gi_wp2
    gi_region
    gi_wp2
    refine hR.mono ?_
    rintro e W3 (⟨rfl, hJ3, hk3⟩ | ⟨rfl, hJx3⟩)
    ·have hcn3 := hk3.2.2.trans hcn
     gi_wp2
     go_roundw
     case rel => exact ⟨k + 1, by omega, by rw [HK1.out]; go_num, by rw [HT.out]; exact hJ3, hnx.trans ((KeepsBoxes.drew _ _ _ _).trans hk3)⟩
     case measure => simp [intOf]; omega
    ·gi_wp2
     refine bodyPost_ret (results_none rfl _ _ _) rfl ?_;exact ⟨⟨_, rfl⟩, .inr ⟨_, ⟨k + 1, HT.out.symm⟩, hJx3⟩⟩
  ·obtain hk2 : k = (len + 1) / 2 := by omega
   gi_wp2
   go_end0
   exact ⟨⟨_, rfl⟩, .inl ⟨_, List.take_of_length_le (by omega), hJs⟩⟩

set_option maxHeartbeats 1000000 in
/-- slices.Chunk: the slice and the number are boxed; the function value captures the boxes. -/
theorem chunk_in (n : Nat) (a : Option Addr) (len cap : Nat) (w : World) :
  CallsIn Fence.wide n Try.prog 106 #[.slice a len cap, .int .i64 2] w fun e w' => e = .returned (.func (.func 122) #[] #[.pointer (some ⟨w.heap.size, 0, none⟩), .pointer (some ⟨w.heap.size + 1, 0, none⟩)]) ∧
   w' = (w.alloc (.cells #[.slice a len cap] 22)).alloc (.cells #[.int .i64 2] 3) := by
 refine callsIn_of_wp Try.func106 rfl trivial ?_ rfl;simp only [Try.ntmps106, List.size_toArray, List.length_cons, List.length_nil, Nat.reduceAdd, Nat.reduceSub, Array.replicate_succ, Array.replicate_zero, List.push_toArray, List.append_toArray, List.nil_append, List.cons_append]
 gi_wp2
 go_ret;exact ⟨rfl, rfl⟩
/-- The iterator's contract. -/
theorem chunk_stops (w0 : World) (n : Nat) (hn : 1 ≤ n) (Bs Bn n₀ : Nat) (A : Option Addr) (len cap : Nat) (hlc : len ≤ cap) (hcap : len ≤ 4611686018427387904) (L : List (CkAt w0)) (hL : L.length = (len + 1) / 2)
  (hg : ∀ k c, L[k]? = some c → ∃ ad, A = some ad ∧ c.1.p = ad.add (2 * k) ∧ c.1.m = min 2 (len - 2 * k)) (w : World) (hs : Bs < w.heap.size) (hb : Bn < w.heap.size)
  (hBs : w.cell? ⟨Bs, 0, none⟩ = some (.slice A len cap)) (hBn : w.cell? ⟨Bn, 0, none⟩ = some (.int .i64 2)) :
  SeqStopsK Fence.wide n Try.prog 122 #[.pointer (some ⟨Bs, 0, none⟩), .pointer (some ⟨Bn, 0, none⟩)] (fun x : CkAt w0 => #[Value.slice (some x.1.p) x.1.m x.1.m]) (KeepsBoxes n₀ Bs Bn)
   (fun ys => ys = L) (fun pre => ∃ k, pre = L.take k) ((len + 1) / 2) w := fun l J Jx W hW hJ hJx hY h0 =>
 chunk1_in w0 n hn l Bs Bn n₀ A len cap hlc hcap L hL hg J Jx (fun {pre W} h => hJ pre W W.drew none h (grown_of_below (below_drew (Below.refl _ _)) none) (fun r e => by cases e)) hY W ((hW.cell (p := ⟨Bs, 0, none⟩) hs).trans hBs) ((hW.cell (p := ⟨Bn, 0, none⟩) hb).trans hBn) h0
/-- The pairs that have come are the pairs of bytes. -/
theorem ck_drop (w0 : World) (l : List Int) (L : List (CkAt w0)) (hL : L.length = (l.length + 1) / 2) (hv : ∀ k c, L[k]? = some c → c.1.val = (if 2 * k + 1 < l.length then rd l ((2 * k : Nat) : Int) * 256 + rd l ((2 * k + 1 : Nat) : Int) else rd l ((2 * k : Nat) : Int) * 256)) :
  ∀ k, k ≤ (l.length + 1) / 2 → sumP l 0 = sumP (l.drop (2 * k)) (ckSum (L.take k))
 | 0, _ => rfl
 | k + 1, hk => by
  obtain ⟨c, hc⟩ : ∃ c, L[k]? = some c := ⟨_, List.getElem?_eq_getElem (by omega)⟩
  rw [ck_drop w0 l L hL hv k (by omega), take_next hc, ckSum_snoc, hv k c hc]
  have hr : ∀ i : Nat, i < l.length → rd l (i : Int) = l.getD i 0 := fun i hi => by unfold rd; rfl
  have hd : ∀ i : Nat, i < l.length → l.drop i = l.getD i 0 :: l.drop (i + 1) := fun i hi => by
   rw [List.drop_eq_getElem_cons hi]; simp [List.getD_eq_getElem?_getD, hi]
  rw [show 2 * (k + 1) = 2 * k + 1 + 1 by omega, hd (2 * k) (by omega), hr (2 * k) (by omega)]
  by_cases h : 2 * k + 1 < l.length
  ·rw [if_pos h, hd (2 * k + 1) h, hr (2 * k + 1) h]; rfl
  ·rw [if_neg h, List.drop_of_length_le (show l.length ≤ 2 * k + 1 by omega), List.drop_of_length_le (show l.length ≤ 2 * k + 1 + 1 by omega)]; rfl
/-- What a round leaves. -/
theorem body_end {w W : World} {s v : Int} {o : Obj} (hc : W.cell? ⟨w.heap.size, 0, none⟩ = some (.int .i64 s)) (hf : W.frozen? ⟨w.heap.size, 0, none⟩ = false) (hB : Below w.heap.size w W) (hW : w.heap.size + 1 + 1 < W.heap.size) (nd : Nat) (W' : World) (hW' : W' = ((W.alloc o).drewN nd).setCell ⟨w.heap.size, 0, none⟩ (.int .i64 v)) (B : Nat) :
  KeepsFrom B W W' ∧ KeepsBoxes w.heap.size (w.heap.size + 1) (w.heap.size + 1 + 1) W W' ∧ (W'.cell? ⟨w.heap.size, 0, none⟩ = some (.int .i64 v) ∧ W'.frozen? ⟨w.heap.size, 0, none⟩ = false ∧ w.heap.size + 1 + 1 < W'.heap.size) ∧ Below w.heap.size w W' := by
 subst hW'
 have b1 : Below W.heap.size W ((W.alloc o).drewN nd) := pw_below_drewN ((Below.refl _ W).alloc (Nat.le_refl _) _) nd;have hc1 := cell_later nd (cell_alloc_m o hc)
 have hle : w.heap.size ≤ W.heap.size := by omega
 refine ⟨(((KeepsOthers.alloc W o).trans (keeps_drewN _ nd)).trans (KeepsOthers.setCell _ _ _)).from B, ⟨(b1.mono hle).setCell (p := ⟨w.heap.size, 0, none⟩) (Nat.le_refl _) _, ?_, ?_⟩, ⟨World.cell?_setCell_same' _ _ _ (by rw [hc1]; rfl), by rw [World.frozen?_setCell]; exact frozen_later nd (frozen_alloc_m o hc hf), Nat.lt_of_lt_of_le hW (by simp)⟩, (hB.trans (b1.mono hle)).setCell (p := ⟨w.heap.size, 0, none⟩) (Nat.le_refl _) _⟩
 ·rw [World.cell?_setCell_other _ _ _ _ (by simp)]; exact b1.cell (p := ⟨w.heap.size + 1, 0, none⟩) (by show w.heap.size + 1 < W.heap.size; omega)
 ·rw [World.cell?_setCell_other _ _ _ _ (by simp)]; exact b1.cell (p := ⟨w.heap.size + 1 + 1, 0, none⟩) hW
set_option maxRecDepth 100000 in
set_option maxHeartbeats 2000000 in
theorem sumOf_in (A0 : Option Addr) (c0 : Nat) (l0 : List Int) (w : World) (hc0 : l0.length ≤ c0) (hcap : l0.length ≤ 4611686018427387904) (L : List (CkAt w)) (hL : L.length = (l0.length + 1) / 2)
  (hg : ∀ k c, L[k]? = some c → ∃ ad, A0 = some ad ∧ c.1.p = ad.add (2 * k) ∧ c.1.m = min 2 (l0.length - 2 * k))
  (hv : ∀ k c, L[k]? = some c → c.1.val = (if 2 * k + 1 < l0.length then rd l0 ((2 * k : Nat) : Int) * 256 + rd l0 ((2 * k + 1 : Nat) : Int) else rd l0 ((2 * k : Nat) : Int) * 256)) :
  CallsIn Fence.wide 3 Try.prog 70 #[.slice A0 l0.length c0] w fun e w' => e = .returned (.int .i64 (65535 - sumP l0 0)) ∧ Below w.heap.size w w' := by
 have hro : Fence.wide.round = none := rfl
 have h1 : 1 ≤ 3 := by omega
 refine callsIn_of_wp_marks Try.func70 rfl trivial ?_ hro;simp only [Try.ntmps70, List.size_toArray, List.length_cons, List.length_nil, Nat.reduceAdd, Nat.reduceSub, Array.replicate_succ, Array.replicate_zero, List.push_toArray, List.append_toArray, List.nil_append, List.cons_append]
 gi_wp2_with (refine ⟨trivial, ?_⟩; gi_at_call 106; refine (chunk_in _ _ _ _ _).mono ?_; rintro e w' ⟨rfl, rfl⟩)
 have bS := Boxed.new w 3 (.int .i64 0);have bN := Boxed.new (w.alloc (.cells #[.int .i64 0] 3)) 22 (.slice A0 l0.length c0);have bM := Boxed.new ((w.alloc (.cells #[.int .i64 0] 3)).alloc (.cells #[.slice A0 l0.length c0] 22)) 3 (.int .i64 2)
 rw [World.size_alloc] at bN bM
 rw [World.size_alloc] at bM
 have hB0 : Below w.heap.size w (((w.alloc (.cells #[.int .i64 0] 3)).alloc (.cells #[.slice A0 l0.length c0] 22)).alloc (.cells #[.int .i64 2] 3)) := (((Below.refl _ w).alloc (Nat.le_refl _) _).alloc (by simp) _).alloc (by simp; omega) _
 refine wpIn_rangeFunc_ownG hro h1 (gf := 122) (lb := #[.pointer (some ⟨w.heap.size + 1, 0, none⟩), .pointer (some ⟨w.heap.size + 1 + 1, 0, none⟩)]) rfl trivial (enters_of Try.func122 (by kernel_rfl) rfl)
  (chunk_stops w (3 - 1) (by omega) (w.heap.size + 1) (w.heap.size + 1 + 1) w.heap.size A0 l0.length c0 hc0 hcap L hL hg _ (by simp) (by simp) (bN.alloc _).cell bM.cell) KeepsBoxes.trans (KeepsBoxes.put (by simp; omega) (by simp) (by simp)) (Below.refl _ _) (fun _ => rfl)
  (fun pre W => (W.cell? ⟨w.heap.size, 0, none⟩ = some (.int .i64 (ckSum pre)) ∧ W.frozen? ⟨w.heap.size, 0, none⟩ = false ∧ w.heap.size + 1 + 1 < W.heap.size) ∧ Below w.heap.size w W)
  (fun _ _ _ => False)
  (OwnFrom.and (Own.from (fun s A B row hs hg hr => ⟨cell_kept hs.1 hg hr, (frozen_kept hs.1 hg hr).trans hs.2.1, Nat.lt_of_lt_of_le hs.2.2 hg.size⟩) _) (ownFrom_below (Nat.le_refl _) (by simp; omega)))
  (fun _ _ _ _ _ hs _ _ => hs)
  ⟨⟨((bS.alloc _).alloc _).cell, ((bS.alloc _).alloc _).frozen, by simp⟩, hB0⟩
  (fun x => { tmps := #[.slice A0 l0.length c0, undef, .int .i64 0, .pointer (some ⟨w.heap.size, 0, none⟩), .slice (some x.1.p) x.1.m x.1.m, undef, .slice A0 l0.length c0, .func (.func 122) #[] #[.pointer (some ⟨w.heap.size + 1, 0, none⟩), .pointer (some ⟨w.heap.size + 1 + 1, 0, none⟩)], .slice (some x.1.p) x.1.m x.1.m, undef, undef, undef, undef, undef, undef, undef, undef, undef, undef, undef, undef, undef, undef, undef, undef, undef, undef, undef, undef], defers := [] }) ?assign ?body ?done ?stop
 case assign =>
  intro l x W K hK
  gi_wp2
  exact hK
 case body =>
  rintro l pre ⟨⟨p, m, x, y⟩, hm, hx, hy, rx, ry⟩ W ⟨⟨hc, hf, hsz⟩, hB⟩ _
  have HZ := Lib.hid hsz;clear hsz;have hx' := (hB.cell (World.block_lt_of_cell? w _ hx)).trans hx;have rS := ckSum_range pre
  dsimp only at hm hx' rx ry hc ⊢
  have hsn := ckSum_snoc pre ⟨⟨p, m, x, y⟩, hm, hx, hy, rx, ry⟩;have HS := Lib.hid hsn;clear hsn
  generalize ckSum pre = s at hc rS HS
  rcases hm with rfl | rfl
  ·have b1 : x * 256 ≤ 65280 := by omega
   have b2 : 0 ≤ x * 256 := by omega
   gi_wp2_with (refine ⟨trivial, ?_⟩; gi_at_call 102; refine (CallsIn.inRound l (callsIn_wide.2 (impl_added.calls 3 (some ⟨W.heap.size, 0, none⟩) 2 [s, x * 256] (sumAdd s (x * 256)) _ (lit_two W s (x * 256)) (by simp) (added_two rS (by omega))))).mono ?_; rintro e w' ⟨rfl, ⟨nd, rfl⟩⟩; have hcW := cell_later nd (cell_alloc_m (.cells #[.int .i64 s, .int .i64 (x * 256)] 3) hc); have hfW := frozen_later nd (frozen_alloc_m (.cells #[.int .i64 s, .int .i64 (x * 256)] 3) hc hf))
   obtain ⟨q1, q2, ⟨q3, q4, q6⟩, q5⟩ := body_end hc hf hB HZ.out _ _ rfl _;exact ⟨q1, q2, ⟨by rw [HS.out]; exact q3, q4, q6⟩, q5⟩
  ·have hy' := (hB.cell (World.block_lt_of_cell? w _ (hy rfl))).trans (hy rfl)
   rw [addr_one] at hy'
   have b1 : x * 256 ≤ 65280 := by omega
   have b2 : 0 ≤ x * 256 := by omega
   have hor : Go.bits .or .i64 (x * 256) y = x * 256 + y := or_byte_ (by omega) (by omega) (by omega) (by omega)
   gi_wp2_with (refine ⟨trivial, ?_⟩; gi_at_call 102; refine (CallsIn.inRound l (callsIn_wide.2 (impl_added.calls 3 (some ⟨W.heap.size, 0, none⟩) 2 [s, x * 256 + y] (sumAdd s (x * 256 + y)) _ (lit_two W s (x * 256 + y)) (by simp) (added_two rS (by omega))))).mono ?_; rintro e w' ⟨rfl, ⟨nd, rfl⟩⟩; have hcW := cell_later nd (cell_alloc_m (.cells #[.int .i64 s, .int .i64 (x * 256 + y)] 3) hc); have hfW := frozen_later nd (frozen_alloc_m (.cells #[.int .i64 s, .int .i64 (x * 256 + y)] 3) hc hf))
   obtain ⟨q1, q2, ⟨q3, q4, q6⟩, q5⟩ := body_end hc hf hB HZ.out _ _ rfl _;exact ⟨q1, q2, ⟨by rw [HS.out]; exact q3, q4, q6⟩, q5⟩
 case done =>
  rintro D ys W hD hys ⟨⟨hc, _⟩, hB⟩ hK
  rw [hys] at hc
  clear hys;have rS := ckSum_range L
  gi_wp2
  refine ⟨by simp, .inl ⟨_, _, rfl, run_takeDeferred hK, ?_⟩⟩;refine ⟨_, results_tmp rfl _ _ _, ?_, hB.trans (belowK_b (w := w) (Nat.le_refl _) W D _ _ (by simp at hD; omega) hK rfl rfl)⟩
  rw [ck_drop w l0 L hL hv _ (Nat.le_refl _), List.drop_of_length_le (by omega), List.take_of_length_le (by omega)]; rfl
 case stop =>
  rintro D c pre W _ _ h _
  exact h.elim

/-- The chunks of a row of bytes. -/
theorem chunks_of (A0 : Option Addr) (l0 : List Int) (w : World) (hr0 : Kd.C (Kd.int .u8) w A0 l0.length l0) (hb : ∀ x ∈ l0, 0 ≤ x ∧ x < 256) : ∀ m, m ≤ (l0.length + 1) / 2 → ∃ L : List (CkAt w), L.length = m ∧
  (∀ k c, L[k]? = some c → (∃ ad, A0 = some ad ∧ c.1.p = ad.add (2 * k) ∧ c.1.m = min 2 (l0.length - 2 * k)) ∧ c.1.val = (if 2 * k + 1 < l0.length then rd l0 ((2 * k : Nat) : Int) * 256 + rd l0 ((2 * k + 1 : Nat) : Int) else rd l0 ((2 * k : Nat) : Int) * 256))
 | 0, _ => ⟨[], rfl, fun k c h => by simp at h⟩
 | m + 1, hm => by
  obtain ⟨L, hL, hp⟩ := chunks_of A0 l0 w hr0 hb m (by omega);obtain ⟨ad, e0, hx⟩ := Kd.at_int hr0 ((2 * m : Nat) : Int) (by omega) (by omega)
  have rr : ∀ i : Nat, i < l0.length → 0 ≤ rd l0 (i : Int) ∧ rd l0 (i : Int) < 256 := fun i hi => by
   have : rd l0 (i : Int) = l0[i] := by unfold rd; simp [List.getD_eq_getElem?_getD, hi]
   rw [this]; exact hb _ (List.getElem_mem hi)
  have hx' : w.cell? (ad.add (2 * m)) = some (.int .u8 (rd l0 ((2 * m : Nat) : Int))) := hx
  by_cases h : 2 * m + 1 < l0.length
  ·obtain ⟨ad', e1, hy⟩ := Kd.at_int hr0 ((2 * m + 1 : Nat) : Int) (by omega) (by omega);obtain rfl : ad = ad' := Option.some.inj (e0.symm.trans e1)
   have hy' : w.cell? ((ad.add (2 * m)).add 1) = some (.int .u8 (rd l0 ((2 * m + 1 : Nat) : Int))) := by
    have : (ad.add (2 * m)).add 1 = ad.add (2 * m + 1) := by exact Deep.add_add ad (2 * m) 1
    rw [this]; exact hy
   refine ⟨L ++ [⟨⟨ad.add (2 * m), 2, rd l0 ((2 * m : Nat) : Int), rd l0 ((2 * m + 1 : Nat) : Int)⟩, .inr rfl, hx', fun _ => hy', rr _ (by omega), rr _ h⟩], by simp [hL], fun k c hc => ?_⟩
   by_cases hk : k < m
   ·rw [List.getElem?_append_left (by omega)] at hc; exact hp k c hc
   ·have hk2 : k < (L ++ [_]).length := (List.getElem?_eq_some_iff.1 hc).1
    rw [List.length_append, List.length_singleton] at hk2
    obtain rfl : k = m := by omega
    rw [List.getElem?_append_right (by omega)] at hc
    have hc' := Option.some.inj (show some _ = some c by simpa [hL] using hc)
    subst hc'
    exact ⟨⟨ad, e0, rfl, by show 2 = _; omega⟩, by rw [if_pos h]; unfold Ck.val; rfl⟩
  ·refine ⟨L ++ [⟨⟨ad.add (2 * m), 1, rd l0 ((2 * m : Nat) : Int), 0⟩, .inl rfl, hx', (fun h => absurd h (by show ¬ (1 : Nat) = 2; decide)), rr _ (by omega), (show (0 : Int) ≤ 0 ∧ (0 : Int) < 256 by decide)⟩], by simp [hL], fun k c hc => ?_⟩
   by_cases hk : k < m
   ·rw [List.getElem?_append_left (by omega)] at hc; exact hp k c hc
   ·have hk2 : k < (L ++ [_]).length := (List.getElem?_eq_some_iff.1 hc).1
    rw [List.length_append, List.length_singleton] at hk2
    obtain rfl : k = m := by omega
    rw [List.getElem?_append_right (by omega)] at hc
    have hc' := Option.some.inj (show some _ = some c by simpa [hL] using hc)
    subst hc'
    exact ⟨⟨ad, e0, rfl, by show 1 = _; omega⟩, by rw [if_neg h]; unfold Ck.val; rfl⟩
theorem impl_sumOf.calls (k : Nat) (A0 : Option Addr) (c0 : Nat) (l0 : List Int) (r : Int) (w : World) (hr0 : Kd.C (Kd.int .u8) w A0 l0.length l0) (hc0 : l0.length ≤ c0) (h : impl_sumOf.f k l0 = some r) :
  Calls Try.prog 70 #[.slice A0 l0.length c0] w fun e w' => e = .returned (.int .i64 r) ∧ Below w.heap.size w w' := by
 unfold impl_sumOf.f at h
 by_cases hb : bytesB l0 = true ∧ l0.length ≤ 4611686018427387904
 ·rw [if_pos hb] at h
  obtain rfl := Option.some.inj h;have hb' : ∀ x ∈ l0, 0 ≤ x ∧ x < 256 := fun x hx => of_decide_eq_true (List.all_eq_true.mp hb.1 x hx);obtain ⟨L, hL, hp⟩ := chunks_of A0 l0 w hr0 hb' _ (Nat.le_refl _);exact callsIn_wide.1 (sumOf_in A0 c0 l0 w hc0 hb.2 L hL (fun k c hc => (hp k c hc).1) (fun k c hc => (hp k c hc).2))
 ·rw [if_neg hb] at h; cases h
end

/-! ### impl_bit: function 121 -/
def impl_bit.f (a0 : Bool) (a1 : Int) : Option (Int) := if a0 = true then (some a1) else (some 0)
set_option maxHeartbeats 8000000 in
set_option maxRecDepth 100000 in
theorem impl_bit.calls (a0 : Bool) (a1 : Int) (r : Int) (w : World) (h : impl_bit.f a0 a1 = some r) :
  Calls Try.prog 121 #[.bool a0, .int .i64 a1] w fun e w' => e = .returned (.int .i64 r) ∧ Drawn0 w w' := by
 have H : (if a0 = true then (some a1) else (some 0)) = some r := h;clear h
 by_cases c3 : a0 = true
 ·subst c3
  have H1 : (some a1) = some r := by rw [if_pos rfl] at H; exact H
  clear H;have H := H1;clear H1;obtain rfl := Option.some.inj H
  go_enter Try.func121, Try.ntmps121
  go_wp2
  go_ret;exact ⟨by first | rfl | (simp; done) | (simp [*]; done), by repeat (first | exact Drawn0.refl _ | apply Drawn0.step)⟩
 ·replace c3 := Bool.eq_false_iff.mpr c3
  subst c3
  have H1 : (some 0) = some r := by rw [if_neg (show ¬ (false = true) by decide)] at H; exact H
  clear H;have H := H1;clear H1;obtain rfl := Option.some.inj H
  go_enter Try.func121, Try.ntmps121
  go_wp2
  go_ret;exact ⟨by first | rfl | (simp; done) | (simp [*]; done), by repeat (first | exact Drawn0.refl _ | apply Drawn0.step)⟩

/-! ### impl_packetBytes: function 93 -/
def impl_packetBytes.f (k : Nat) (a0_0 : Int) (a0_1 : Int) (a0_2 : Int) (a0_3 : Int) (a0_4 : Int) (a0_5 : Int) (a0_6 : Bool) (a0_7 : Bool) (l0_8 : List Int) : Option (List Int) := (impl_bytesOf.f k a0_0 2).bind fun t196 => ((impl_bytesOf.f k a0_1 2).bind fun t199 => ((impl_bit.f a0_6 1).bind fun t202 => ((impl_bit.f a0_7 2).bind fun t203 => ((slices_Concat_byte_byte.f k (([t196, t199, (([(a0_2) % 256, (a0_3) % 256, (a0_4) % 256, (a0_5) % 256, (wrap64 (t202 + t203)) % 256, ((l0_8.length : Int)) % 256] : List Int))] : List (List Int)))).bind fun t210 => ((impl_sumOf.f k t210).bind fun t213 => ((impl_bytesOf.f k t213 2).bind fun t214 => ((slices_Concat_byte_byte.f k (([t210, t214, l0_8] : List (List Int)))).bind fun t220 => (some t220))))))))
theorem impl_packetBytes.mono : ∀ a0 a1 a2 a3 a4 a5 a6 a7 a8 k, LeO (impl_packetBytes.f k a0 a1 a2 a3 a4 a5 a6 a7 a8) (impl_packetBytes.f (k + 1) a0 a1 a2 a3 a4 a5 a6 a7 a8) := by
 intro a0 a1 a2 a3 a4 a5 a6 a7 a8 k
 unfold impl_packetBytes.f
 repeat' first
   | (with_reducible exact impl_bytesOf.mono _ _ _)
   | (with_reducible exact impl_sumOf.mono _ _)
   | (with_reducible exact slices_Concat_byte_byte.mono _ _)
   | (with_reducible exact LeO.refl _)
   | (with_reducible exact LeO.none _)
   | (with_reducible refine LeO.ite ?_ ?_)
   | (with_reducible refine LeO.bind ?_ (fun _ => ?_))
   | exact impl_bytesOf.mono _ _ _
   | exact impl_sumOf.mono _ _
   | exact slices_Concat_byte_byte.mono _ _
   | exact LeO.none _
   | refine LeO.ite ?_ ?_
   | refine LeO.bind ?_ (fun _ => ?_)
def impl_packetBytes.T1 : Bool × List (List Nat × List Nat) := (true, [([], []), ([0], [0]), ([1], [1]), ([], []), ([3], [3]), ([4, 2], [4]), ([], []), ([6], [6]), ([7], [7]), ([], []), ([9], [9]), ([10], [10]), ([], []), ([12], [12]), ([13], [13]), ([], []), ([15], [15]), ([16], [16]), ([], []), ([18], [18]), ([19, 5], [19]), ([], []), ([21], [21]), ([22, 20], [22]), ([20, 23], [20, 23]), ([24], [24]), ([], []), ([26], [26]), ([27], [27]), ([28], [28]), ([8, 11, 14, 17, 25, 29], [8, 11, 14, 17, 25, 29]), ([2, 5, 30], [2, 5, 30]), ([31, 23], [31]), ([32, 32, 0, 1, 2, 3, 4, 5, 6, 7, 8, 9, 10, 11, 12, 13, 14, 15, 16, 17, 18, 19, 20, 21, 22, 23, 24, 25, 26, 27, 28, 29, 30, 31, 32], [32])])
def impl_packetBytes.B1 : List Nat := [0, 1, 3, 0, 8, 31, 0, 64, 192, 0, 512, 1536, 0, 4096, 12288, 0, 32768, 98304, 0, 262144, 786495, 0, 2097152, 8126527, 16515135, 33292351, 0, 67108864, 201326592, 469762048, 1073741823, 2147483647, 4294967295, 8589934591]
theorem impl_packetBytes.tab1 : rtab .any (opsOf Try.f93 1) = impl_packetBytes.T1 := by kernel_rfl
theorem impl_packetBytes.bits1 : waitsOk impl_packetBytes.T1.2 impl_packetBytes.B1 = true := by kernel_rfl
def impl_packetBytes.T2 : Bool × List (List Nat × List Nat) := (true, [([], []), ([], []), ([1], [1]), ([2, 2], [2]), ([], []), ([4], [4]), ([0, 3, 5], [0, 3, 5]), ([6, 3], [6]), ([7, 7, 0, 1, 2, 3, 4, 5, 6, 7], [7])])
def impl_packetBytes.B2 : List Nat := [0, 0, 2, 6, 0, 16, 63, 127, 255]
theorem impl_packetBytes.tab2 : rtab .any (opsOf Try.f93 2) = impl_packetBytes.T2 := by kernel_rfl
theorem impl_packetBytes.bits2 : waitsOk impl_packetBytes.T2.2 impl_packetBytes.B2 = true := by kernel_rfl
set_option maxHeartbeats 8000000 in
set_option maxRecDepth 100000 in
theorem impl_packetBytes.calls (k : Nat) (a0_0 : Int) (a0_1 : Int) (a0_2 : Int) (a0_3 : Int) (a0_4 : Int) (a0_5 : Int) (a0_6 : Bool) (a0_7 : Bool) (P0_8_ : Nat → Prop) (A0_8 : Option Addr) (c0_8 : Nat) (l0_8 : List Int) (r : List Int) (w : World) (hs0_8 : Kd.V (Kd.int .u8) 5 w w.heap.size (fun k_ => P0_8_ k_) (.slice A0_8 l0_8.length c0_8) l0_8) (h : impl_packetBytes.f k a0_0 a0_1 a0_2 a0_3 a0_4 a0_5 a0_6 a0_7 l0_8 = some r) :
  Calls Try.prog 93 #[.agg #[.int .i64 a0_0, .int .i64 a0_1, .int .i64 a0_2, .int .i64 a0_3, .int .i64 a0_4, .int .i64 a0_5, .bool a0_6, .bool a0_7, .slice A0_8 l0_8.length c0_8]] w fun e w' => ∃ v0_ : Value, e = .returned (v0_) ∧ Kd.R (Kd.int .u8) 5 w' w.heap.size (fun k_ => (w.heap.size ≤ k_)) v0_ r ∧ Below w.heap.size w w' := by
 have hu61 := Try.underlying61;have HO0_8 := Aside0.mk (show Kd.V (Kd.int .u8) 5 w w.heap.size (fun k_ => (P0_8_ k_ ∨ w.heap.size ≤ k_)) (.slice A0_8 l0_8.length c0_8) l0_8 from Kd.V_mono hs0_8 (fun k_ hk => .inl hk));have HB := Aside0.mk (Below.refl w.heap.size w);have H : ((impl_bytesOf.f k a0_0 2).bind fun t196 => ((impl_bytesOf.f k a0_1 2).bind fun t199 => ((impl_bit.f a0_6 1).bind fun t202 => ((impl_bit.f a0_7 2).bind fun t203 => ((slices_Concat_byte_byte.f k (([t196, t199, (([(a0_2) % 256, (a0_3) % 256, (a0_4) % 256, (a0_5) % 256, (wrap64 (t202 + t203)) % 256, ((l0_8.length : Int)) % 256] : List Int))] : List (List Int)))).bind fun t210 => ((impl_sumOf.f k t210).bind fun t213 => ((impl_bytesOf.f k t213 2).bind fun t214 => ((slices_Concat_byte_byte.f k (([t210, t214, l0_8] : List (List Int)))).bind fun t220 => (some t220))))))))) = some r := h;clear h;replace H := Option.bind_eq_some_iff.mp H;obtain ⟨t196, A20, H⟩ := H;replace H : ((impl_bytesOf.f k a0_1 2).bind fun t199 => ((impl_bit.f a0_6 1).bind fun t202 => ((impl_bit.f a0_7 2).bind fun t203 => ((slices_Concat_byte_byte.f k (([t196, t199, (([(a0_2) % 256, (a0_3) % 256, (a0_4) % 256, (a0_5) % 256, (wrap64 (t202 + t203)) % 256, ((l0_8.length : Int)) % 256] : List Int))] : List (List Int)))).bind fun t210 => ((impl_sumOf.f k t210).bind fun t213 => ((impl_bytesOf.f k t213 2).bind fun t214 => ((slices_Concat_byte_byte.f k (([t210, t214, l0_8] : List (List Int)))).bind fun t220 => (some t220)))))))) = some r := H;have A2 := Aside0.mk A20;clear A20;replace H := Option.bind_eq_some_iff.mp H;obtain ⟨t199, A30, H⟩ := H;replace H : ((impl_bit.f a0_6 1).bind fun t202 => ((impl_bit.f a0_7 2).bind fun t203 => ((slices_Concat_byte_byte.f k (([t196, t199, (([(a0_2) % 256, (a0_3) % 256, (a0_4) % 256, (a0_5) % 256, (wrap64 (t202 + t203)) % 256, ((l0_8.length : Int)) % 256] : List Int))] : List (List Int)))).bind fun t210 => ((impl_sumOf.f k t210).bind fun t213 => ((impl_bytesOf.f k t213 2).bind fun t214 => ((slices_Concat_byte_byte.f k (([t210, t214, l0_8] : List (List Int)))).bind fun t220 => (some t220))))))) = some r := H;have A3 := Aside0.mk A30;clear A30;replace H := Option.bind_eq_some_iff.mp H;obtain ⟨t202, A40, H⟩ := H;replace H : ((impl_bit.f a0_7 2).bind fun t203 => ((slices_Concat_byte_byte.f k (([t196, t199, (([(a0_2) % 256, (a0_3) % 256, (a0_4) % 256, (a0_5) % 256, (wrap64 (t202 + t203)) % 256, ((l0_8.length : Int)) % 256] : List Int))] : List (List Int)))).bind fun t210 => ((impl_sumOf.f k t210).bind fun t213 => ((impl_bytesOf.f k t213 2).bind fun t214 => ((slices_Concat_byte_byte.f k (([t210, t214, l0_8] : List (List Int)))).bind fun t220 => (some t220)))))) = some r := H;have A4 := Aside0.mk A40;clear A40;replace H := Option.bind_eq_some_iff.mp H;obtain ⟨t203, A50, H⟩ := H;replace H : ((slices_Concat_byte_byte.f k (([t196, t199, (([(a0_2) % 256, (a0_3) % 256, (a0_4) % 256, (a0_5) % 256, (wrap64 (t202 + t203)) % 256, ((l0_8.length : Int)) % 256] : List Int))] : List (List Int)))).bind fun t210 => ((impl_sumOf.f k t210).bind fun t213 => ((impl_bytesOf.f k t213 2).bind fun t214 => ((slices_Concat_byte_byte.f k (([t210, t214, l0_8] : List (List Int)))).bind fun t220 => (some t220))))) = some r := H;have A5 := Aside0.mk A50;clear A50;obtain ⟨y204, hy204⟩ : ∃ y_ : List Int, y_ = (([(a0_2) % 256, (a0_3) % 256, (a0_4) % 256, (a0_5) % 256, (wrap64 (t202 + t203)) % 256, ((l0_8.length : Int)) % 256] : List Int)) := ⟨_, rfl⟩
 replace H : ((slices_Concat_byte_byte.f k (([t196, t199, y204] : List (List Int)))).bind fun t210 => ((impl_sumOf.f k t210).bind fun t213 => ((impl_bytesOf.f k t213 2).bind fun t214 => ((slices_Concat_byte_byte.f k (([t210, t214, l0_8] : List (List Int)))).bind fun t220 => (some t220))))) = some r := by first | (rw [hy204]; with_reducible exact H) | (have H2_ := (Option.bind_some _ _).symm.trans H; rw [hy204]; with_reducible exact H2_) | (have H2_ := (Option.bind_some _ _).symm.trans H; with_reducible exact H2_) | with_reducible exact H | (rw [hy204]; exact H) | exact H
 have Ny204 := Aside0.mk hy204;clear hy204;obtain ⟨y207, hy207⟩ : ∃ y_ : List (List Int), y_ = (([t196, t199, y204] : List (List Int))) := ⟨_, rfl⟩
 replace H : ((slices_Concat_byte_byte.f k y207).bind fun t210 => ((impl_sumOf.f k t210).bind fun t213 => ((impl_bytesOf.f k t213 2).bind fun t214 => ((slices_Concat_byte_byte.f k (([t210, t214, l0_8] : List (List Int)))).bind fun t220 => (some t220))))) = some r := by first | (rw [hy207]; with_reducible exact H) | (have H2_ := (Option.bind_some _ _).symm.trans H; rw [hy207]; with_reducible exact H2_) | (have H2_ := (Option.bind_some _ _).symm.trans H; with_reducible exact H2_) | with_reducible exact H | (rw [hy207]; exact H) | exact H
 have Ny207 := Aside0.mk hy207;clear hy207;replace H := Option.bind_eq_some_iff.mp H;obtain ⟨t210, A60, H⟩ := H;replace H : ((impl_sumOf.f k t210).bind fun t213 => ((impl_bytesOf.f k t213 2).bind fun t214 => ((slices_Concat_byte_byte.f k (([t210, t214, l0_8] : List (List Int)))).bind fun t220 => (some t220)))) = some r := H;have A6 := Aside0.mk A60;clear A60;replace H := Option.bind_eq_some_iff.mp H;obtain ⟨t213, A70, H⟩ := H;replace H : ((impl_bytesOf.f k t213 2).bind fun t214 => ((slices_Concat_byte_byte.f k (([t210, t214, l0_8] : List (List Int)))).bind fun t220 => (some t220))) = some r := H;have A7 := Aside0.mk A70;clear A70;replace H := Option.bind_eq_some_iff.mp H;obtain ⟨t214, A80, H⟩ := H;replace H : ((slices_Concat_byte_byte.f k (([t210, t214, l0_8] : List (List Int)))).bind fun t220 => (some t220)) = some r := H;have A8 := Aside0.mk A80;clear A80;obtain ⟨y217, hy217⟩ : ∃ y_ : List (List Int), y_ = (([t210, t214, l0_8] : List (List Int))) := ⟨_, rfl⟩
 replace H : ((slices_Concat_byte_byte.f k y217).bind fun t220 => (some t220)) = some r := by first | (rw [hy217]; with_reducible exact H) | (have H2_ := (Option.bind_some _ _).symm.trans H; rw [hy217]; with_reducible exact H2_) | (have H2_ := (Option.bind_some _ _).symm.trans H; with_reducible exact H2_) | with_reducible exact H | (rw [hy217]; exact H) | exact H
 have Ny217 := Aside0.mk hy217;clear hy217;replace H := Option.bind_eq_some_iff.mp H;obtain ⟨t220, A90, H⟩ := H;replace H : (some t220) = some r := H;have A9 := Aside0.mk A90;clear A90;obtain rfl := Option.some.inj H
 go_enter Try.func93, Try.ntmps93
 try go_wp2_with (first | ((with_reducible refine gate_dst (N := 1) rfl ?_); refine box_event ?hg (N := 1) ?hd (cs := #[.int .i64 a0_0, .int .i64 a0_1, .int .i64 a0_2, .int .i64 a0_3, .int .i64 a0_4, .int .i64 a0_5, .bool a0_6, .bool a0_7, .slice A0_8 l0_8.length c0_8]) (t := 61) ?hr ?_; (case hd => rfl); (case hg => rfl); (case hr => first | (go_simp; done) | (go_simp; rfl)); intro gb195 hg w10 hbox hb; have n0_ := Aside0.mk (Kd.V_below (Kd.V_elderB (by (with_reducible repeat (first | apply Kd.V_alloc | apply Kd.V_drewN | apply Kd.V_drew)); exact HO0_8.out) gb195 (Nat.le_of_eq hg.symm)) hb); have n1_ := Aside0.mk (below_step (by repeat (first | (with_reducible first | exact HB.out | apply below_alloc | apply pw_below_drewN | apply below_drew1) | exact HB.out)) hb); have n2_ := Aside0.mk (hbox); have n3_ := Aside0.mk ((by rw [hg]; exact (below_size (by repeat (first | (with_reducible first | exact HB.out | apply below_alloc | apply pw_below_drewN | apply below_drew1) | exact HB.out))) : w.heap.size ≤ gb195)); have n4_ := Aside0.mk ((by rw [hg]; exact (below_size (by repeat (first | (with_reducible first | exact HB.out | apply below_alloc | apply pw_below_drewN | apply below_drew1) | exact HB.out))) : w.heap.size ≤ gb195)); clear HO0_8; clear HB; have HO0_8 := n0_; have HB := n1_; have BK195 := n2_; have GW195 := n3_; have GE195 := n4_; clear n0_ n1_ n2_ n3_ n4_; clear hb hbox hg))
 have n0_ := Aside0.mk (Kd.V_drew HO0_8.out);have n1_ := Aside0.mk (blk_drew BK195.out);have n2_ := Aside0.mk (below_drew1 HB.out);clear HO0_8;clear BK195;clear HB;have HO0_8 := n0_;have BK195 := n1_;have HB := n2_;clear n0_ n1_ n2_;refine start_ (n := 34) (S := fun w' => w'.cell? ⟨gb195, 0, none⟩ = some (.int .i64 a0_0) ∧ w'.cell? ⟨gb195, 1, none⟩ = some (.int .i64 a0_1) ∧ w'.cell? ⟨gb195, 2, none⟩ = some (.int .i64 a0_2) ∧ w'.cell? ⟨gb195, 3, none⟩ = some (.int .i64 a0_3) ∧ w'.cell? ⟨gb195, 4, none⟩ = some (.int .i64 a0_4) ∧ w'.cell? ⟨gb195, 5, none⟩ = some (.int .i64 a0_5) ∧ w'.cell? ⟨gb195, 6, none⟩ = some (.bool a0_6) ∧ w'.cell? ⟨gb195, 7, none⟩ = some (.bool a0_7) ∧ w'.cell? ⟨gb195, 8, none⟩ = some (.slice A0_8 l0_8.length c0_8)) (ds := []) (bitsA 34 0) (by kernel_rfl) rfl rfl ⟨(blk_cell BK195.out 0).trans rfl, (blk_cell BK195.out 1).trans rfl, (blk_cell BK195.out 2).trans rfl, (blk_cell BK195.out 3).trans rfl, (blk_cell BK195.out 4).trans rfl, (blk_cell BK195.out 5).trans rfl, (blk_cell BK195.out 6).trans rfl, (blk_cell BK195.out 7).trans rfl, (blk_cell BK195.out 8).trans rfl⟩ (fun hHeld => ?_); refine with_tabW impl_packetBytes.tab1 impl_packetBytes.bits1 (fun HT_ HW_ => ?_)
 generalize w10.drew = w11 at HO0_8 BK195 HB hHeld ⊢
 refine pure_ (i := 0) (N := some 4) (v := ?_) (a' := ?_) (bitsA 34 1) rfl rfl (any_of HT_.out (by kernel_rfl)) (fun _ _ _ h => h) (Or.inl ⟨by rfl, ?_⟩) ?_ ?_;rotate_left; (focus (intro w'; go_simp; with_reducible rfl));rotate_left; (focus (simp only [Act.put, List.setIfInBounds_toArray, List.set_cons_zero, List.set_cons_succ, i64_w, i32_w]; rfl));refine pure_ (i := 3) (N := some 7) (v := ?_) (a' := ?_) (bitsA 34 9) rfl rfl (any_of HT_.out (by kernel_rfl)) (fun _ _ _ h => h) (Or.inl ⟨by rfl, ?_⟩) ?_ ?_;rotate_left; (focus (intro w'; go_simp; with_reducible rfl));rotate_left; (focus (simp only [Act.put, List.setIfInBounds_toArray, List.set_cons_zero, List.set_cons_succ, i64_w, i32_w]; rfl));refine pure_ (i := 6) (N := some 10) (v := ?_) (a' := ?_) (bitsA 34 73) rfl rfl (any_of HT_.out (by kernel_rfl)) (fun _ _ _ h => h) (Or.inl ⟨by rfl, ?_⟩) ?_ ?_;rotate_left; (focus (intro w'; go_simp; with_reducible rfl));rotate_left; (focus (simp only [Act.put, List.setIfInBounds_toArray, List.set_cons_zero, List.set_cons_succ, i64_w, i32_w]; rfl));refine pure_ (i := 9) (N := some 13) (v := ?_) (a' := ?_) (bitsA 34 585) rfl rfl (any_of HT_.out (by kernel_rfl)) (fun _ _ _ h => h) (Or.inl ⟨by rfl, ?_⟩) ?_ ?_;rotate_left; (focus (intro w'; go_simp; with_reducible rfl));rotate_left; (focus (simp only [Act.put, List.setIfInBounds_toArray, List.set_cons_zero, List.set_cons_succ, i64_w, i32_w]; rfl));refine pure_ (i := 12) (N := some 16) (v := ?_) (a' := ?_) (bitsA 34 4681) rfl rfl (any_of HT_.out (by kernel_rfl)) (fun _ _ _ h => h) (Or.inl ⟨by rfl, ?_⟩) ?_ ?_;rotate_left; (focus (intro w'; go_simp; with_reducible rfl));rotate_left; (focus (simp only [Act.put, List.setIfInBounds_toArray, List.set_cons_zero, List.set_cons_succ, i64_w, i32_w]; rfl));refine pure_ (i := 15) (N := some 19) (v := ?_) (a' := ?_) (bitsA 34 37449) rfl rfl (any_of HT_.out (by kernel_rfl)) (fun _ _ _ h => h) (Or.inl ⟨by rfl, ?_⟩) ?_ ?_;rotate_left; (focus (intro w'; go_simp; with_reducible rfl));rotate_left; (focus (simp only [Act.put, List.setIfInBounds_toArray, List.set_cons_zero, List.set_cons_succ, i64_w, i32_w]; rfl));refine pure_ (i := 18) (N := some 22) (v := ?_) (a' := ?_) (bitsA 34 299593) rfl rfl (any_of HT_.out (by kernel_rfl)) (fun _ _ _ h => h) (Or.inl ⟨by rfl, ?_⟩) ?_ ?_;rotate_left; (focus (intro w'; go_simp; with_reducible rfl));rotate_left; (focus (simp only [Act.put, List.setIfInBounds_toArray, List.set_cons_zero, List.set_cons_succ, i64_w, i32_w]; rfl));refine pure_ (i := 21) (N := some 25) (v := ?_) (a' := ?_) (bitsA 34 2396745) rfl rfl (any_of HT_.out (by kernel_rfl)) (fun _ _ _ h => h) (Or.inl ⟨by rfl, ?_⟩) ?_ ?_;rotate_left; (focus (intro w'; go_simp; with_reducible rfl));rotate_left; (focus (simp only [Act.put, List.setIfInBounds_toArray, List.set_cons_zero, List.set_cons_succ, i64_w, i32_w]; rfl));refine pure_ (i := 26) (N := some 30) (v := ?_) (a' := ?_) (bitsA 34 69505609) rfl rfl (any_of HT_.out (by kernel_rfl)) (fun _ _ _ h => h) (Or.inl ⟨by rfl, ?_⟩) ?_ ?_;rotate_left; (focus (intro w'; go_simp; with_reducible rfl));rotate_left; (focus (simp only [Act.put, List.setIfInBounds_toArray, List.set_cons_zero, List.set_cons_succ, i64_w, i32_w]; rfl));refine take_ (i := 1) (N := some 5) (v := ?_) (a' := ?_) (bitsA 34 69505611) rfl rfl (take_ofW HT_.out HW_.out (by kernel_rfl)) (fun _ _ _ h => h) (Or.inl ⟨by rfl, ?_⟩) hHeld ?_ ?_;rotate_left
 ·rintro w' ⟨s0, s1, s2, s3, s4, s5, s6, s7, s8⟩
  go_simp;with_reducible rfl
 rotate_left; (focus (simp only [Act.put, List.setIfInBounds_toArray, List.set_cons_zero, List.set_cons_succ, i64_w, i32_w]; rfl));refine take_ (i := 4) (N := some 8) (v := ?_) (a' := ?_) (bitsA 34 69505627) rfl rfl (take_ofW HT_.out HW_.out (by kernel_rfl)) (fun _ _ _ h => h) (Or.inl ⟨by rfl, ?_⟩) hHeld ?_ ?_;rotate_left
 ·rintro w' ⟨s0, s1, s2, s3, s4, s5, s6, s7, s8⟩
  go_simp;with_reducible rfl
 rotate_left; (focus (simp only [Act.put, List.setIfInBounds_toArray, List.set_cons_zero, List.set_cons_succ, i64_w, i32_w]; rfl));refine take_ (i := 7) (N := some 11) (v := ?_) (a' := ?_) (bitsA 34 69505755) rfl rfl (take_ofW HT_.out HW_.out (by kernel_rfl)) (fun _ _ _ h => h) (Or.inl ⟨by rfl, ?_⟩) hHeld ?_ ?_;rotate_left
 ·rintro w' ⟨s0, s1, s2, s3, s4, s5, s6, s7, s8⟩
  go_simp;with_reducible rfl
 rotate_left; (focus (simp only [Act.put, List.setIfInBounds_toArray, List.set_cons_zero, List.set_cons_succ, i64_w, i32_w]; rfl));refine pure_ (i := 8) (N := some 12) (v := ?_) (a' := ?_) (bitsA 34 69506011) rfl rfl (any_of HT_.out (by kernel_rfl)) (fun _ _ _ h => h) (Or.inl ⟨by rfl, ?_⟩) ?_ ?_;rotate_left; (focus (intro w'; go_simp; with_reducible rfl));rotate_left; (focus (simp only [Act.put, List.setIfInBounds_toArray, List.set_cons_zero, List.set_cons_succ, i64_w, i32_w]; rfl));refine take_ (i := 10) (N := some 14) (v := ?_) (a' := ?_) (bitsA 34 69507035) rfl rfl (take_ofW HT_.out HW_.out (by kernel_rfl)) (fun _ _ _ h => h) (Or.inl ⟨by rfl, ?_⟩) hHeld ?_ ?_;rotate_left
 ·rintro w' ⟨s0, s1, s2, s3, s4, s5, s6, s7, s8⟩
  go_simp;with_reducible rfl
 rotate_left; (focus (simp only [Act.put, List.setIfInBounds_toArray, List.set_cons_zero, List.set_cons_succ, i64_w, i32_w]; rfl));refine pure_ (i := 11) (N := some 15) (v := ?_) (a' := ?_) (bitsA 34 69509083) rfl rfl (any_of HT_.out (by kernel_rfl)) (fun _ _ _ h => h) (Or.inl ⟨by rfl, ?_⟩) ?_ ?_;rotate_left; (focus (intro w'; go_simp; with_reducible rfl));rotate_left; (focus (simp only [Act.put, List.setIfInBounds_toArray, List.set_cons_zero, List.set_cons_succ, i64_w, i32_w]; rfl));refine take_ (i := 13) (N := some 17) (v := ?_) (a' := ?_) (bitsA 34 69517275) rfl rfl (take_ofW HT_.out HW_.out (by kernel_rfl)) (fun _ _ _ h => h) (Or.inl ⟨by rfl, ?_⟩) hHeld ?_ ?_;rotate_left
 ·rintro w' ⟨s0, s1, s2, s3, s4, s5, s6, s7, s8⟩
  go_simp;with_reducible rfl
 rotate_left; (focus (simp only [Act.put, List.setIfInBounds_toArray, List.set_cons_zero, List.set_cons_succ, i64_w, i32_w]; rfl));refine pure_ (i := 14) (N := some 18) (v := ?_) (a' := ?_) (bitsA 34 69533659) rfl rfl (any_of HT_.out (by kernel_rfl)) (fun _ _ _ h => h) (Or.inl ⟨by rfl, ?_⟩) ?_ ?_;rotate_left; (focus (intro w'; go_simp; with_reducible rfl));rotate_left; (focus (simp only [Act.put, List.setIfInBounds_toArray, List.set_cons_zero, List.set_cons_succ, i64_w, i32_w]; rfl));refine take_ (i := 16) (N := some 20) (v := ?_) (a' := ?_) (bitsA 34 69599195) rfl rfl (take_ofW HT_.out HW_.out (by kernel_rfl)) (fun _ _ _ h => h) (Or.inl ⟨by rfl, ?_⟩) hHeld ?_ ?_;rotate_left
 ·rintro w' ⟨s0, s1, s2, s3, s4, s5, s6, s7, s8⟩
  go_simp;with_reducible rfl
 rotate_left; (focus (simp only [Act.put, List.setIfInBounds_toArray, List.set_cons_zero, List.set_cons_succ, i64_w, i32_w]; rfl));refine pure_ (i := 17) (N := some 21) (v := ?_) (a' := ?_) (bitsA 34 69730267) rfl rfl (any_of HT_.out (by kernel_rfl)) (fun _ _ _ h => h) (Or.inl ⟨by rfl, ?_⟩) ?_ ?_;rotate_left; (focus (intro w'; go_simp; with_reducible rfl));rotate_left; (focus (simp only [Act.put, List.setIfInBounds_toArray, List.set_cons_zero, List.set_cons_succ, i64_w, i32_w]; rfl));refine take_ (i := 19) (N := some 23) (v := ?_) (a' := ?_) (bitsA 34 70254555) rfl rfl (take_ofW HT_.out HW_.out (by kernel_rfl)) (fun _ _ _ h => h) (Or.inl ⟨by rfl, ?_⟩) hHeld ?_ ?_;rotate_left
 ·rintro w' ⟨s0, s1, s2, s3, s4, s5, s6, s7, s8⟩
  go_simp;with_reducible rfl
 rotate_left; (focus (simp only [Act.put, List.setIfInBounds_toArray, List.set_cons_zero, List.set_cons_succ, i64_w, i32_w]; rfl));refine take_ (i := 22) (N := some 26) (v := ?_) (a' := ?_) (bitsA 34 74448859) rfl rfl (take_ofW HT_.out HW_.out (by kernel_rfl)) (fun _ _ _ h => h) (Or.inl ⟨by rfl, ?_⟩) hHeld ?_ ?_;rotate_left
 ·rintro w' ⟨s0, s1, s2, s3, s4, s5, s6, s7, s8⟩
  go_simp;with_reducible rfl
 rotate_left; (focus (simp only [Act.put, List.setIfInBounds_toArray, List.set_cons_zero, List.set_cons_succ, i64_w, i32_w]; rfl));refine take_ (i := 27) (N := some 31) (v := ?_) (a' := ?_) (bitsA 34 208666587) rfl rfl (take_ofW HT_.out HW_.out (by kernel_rfl)) (fun _ _ _ h => h) (Or.inl ⟨by rfl, ?_⟩) hHeld ?_ ?_;rotate_left
 ·rintro w' ⟨s0, s1, s2, s3, s4, s5, s6, s7, s8⟩
  go_simp;with_reducible rfl
 rotate_left; (focus (simp only [Act.put, List.setIfInBounds_toArray, List.set_cons_zero, List.set_cons_succ, i64_w, i32_w]; rfl));refine pure_ (i := 28) (N := some 32) (v := ?_) (a' := ?_) (bitsA 34 477102043) rfl rfl (any_of HT_.out (by kernel_rfl)) (fun _ _ _ h => h) (Or.inl ⟨by rfl, ?_⟩) ?_ ?_;rotate_left; (focus (intro w'; go_simp; with_reducible rfl));rotate_left; (focus (simp only [Act.put, List.setIfInBounds_toArray, List.set_cons_zero, List.set_cons_succ, i64_w, i32_w]; rfl));refine pure_ (i := 29) (N := some 33) (v := ?_) (a' := ?_) (bitsA 34 1013972955) rfl rfl (any_of HT_.out (by kernel_rfl)) (fun _ _ _ h => h) (Or.inl ⟨by rfl, ?_⟩) ?_ ?_;rotate_left; (focus (intro w'; go_simp; with_reducible rfl));rotate_left; (focus (simp only [Act.put, List.setIfInBounds_toArray, List.set_cons_zero, List.set_cons_succ, i64_w, i32_w]; rfl));refine one_ (i := 2) (N := some 6) (bitsA 34 1013972959) rfl rfl (one_of HT_.out (by kernel_rfl)) (by decide) (fun K hK => ?_);refine goes_ Try.func64 (by kernel_rfl) rfl #[.int .i64 a0_0, .int .i64 2] (by rfl) rfl rfl (by (try simp only [List.map_toArray, List.map_cons, List.map_nil]); first | done | rfl | (simp only [List.length_drop, List.length_take]; rfl)) ?_
 with_reducible refine (impl_bytesOf.calls k a0_0 2 t196 _ A2.out).mono ?_
 rintro e w12 ⟨v197, rfl, ho0, hb⟩
 refine ⟨_, rfl, ?_⟩;have n0_ := Aside0.mk (Kd.V_elder' (by (with_reducible repeat (first | apply Kd.V_alloc | apply Kd.V_drewN | apply Kd.V_drew)); exact HO0_8.out) (Kd.R_base ho0) hb);have n1_ := Aside0.mk (Kd.R_lower (Kd.R_newM (M := fun k_ => (w.heap.size ≤ k_)) ho0 (below_size (by repeat (first | (with_reducible first | exact HB.out | apply below_alloc | apply pw_below_drewN | apply below_drew1 | refine below_set ?_ GE195.out) | exact HB.out))) (fun k_ h_ => h_)) (below_size (by repeat (first | (with_reducible first | exact HB.out | apply below_alloc | apply pw_below_drewN | apply below_drew1 | refine below_set ?_ GE195.out) | exact HB.out))));have n2_ := Aside0.mk (blk_below (g := gb195) (o := .cells #[.int .i64 a0_0, .int .i64 a0_1, .int .i64 a0_2, .int .i64 a0_3, .int .i64 a0_4, .int .i64 a0_5, .bool a0_6, .bool a0_7, .slice A0_8 l0_8.length c0_8] 61 (0, 0)) (by (with_reducible repeat (first | refine blk_drewN ?_ _ | refine blk_drew ?_ | refine blk_alloc ?_ _)); exact BK195.out) hb);have n3_ := Aside0.mk (below_step (by repeat (first | (with_reducible first | exact HB.out | apply below_alloc | apply pw_below_drewN | apply below_drew1 | refine below_set ?_ GE195.out) | exact HB.out)) hb);clear HO0_8;clear BK195;clear HB;have HO0_8 := n0_;have HO198 := n1_;have BK195 := n2_;have HB := n3_;clear n0_ n1_ n2_ n3_
 (try clear hb)
 (try clear hb2)
 (try clear hk)
 (try clear hi)
 (try clear ho0)
 refine hK.out _ _ ⟨(blk_cell BK195.out 0).trans rfl, (blk_cell BK195.out 1).trans rfl, (blk_cell BK195.out 2).trans rfl, (blk_cell BK195.out 3).trans rfl, (blk_cell BK195.out 4).trans rfl, (blk_cell BK195.out 5).trans rfl, (blk_cell BK195.out 6).trans rfl, (blk_cell BK195.out 7).trans rfl, (blk_cell BK195.out 8).trans rfl⟩ (fun hHeld => ?_);clear hK K;refine norm_ (a' := ?_) ?_ ?_;rotate_left; (focus (show Act.put _ (some 6) _ = _; simp only [Act.put, List.setIfInBounds_toArray, List.set_cons_zero, List.set_cons_succ, i64_w, i32_w]; rfl));refine one_ (i := 5) (N := some 9) (bitsA 34 1013972991) rfl rfl (one_of HT_.out (by kernel_rfl)) (by decide) (fun K hK => ?_);refine goes_ Try.func64 (by kernel_rfl) rfl #[.int .i64 a0_1, .int .i64 2] (by rfl) rfl rfl (by (try simp only [List.map_toArray, List.map_cons, List.map_nil]); first | done | rfl | (simp only [List.length_drop, List.length_take]; rfl)) ?_
 with_reducible refine (impl_bytesOf.calls k a0_1 2 t199 _ A3.out).mono ?_
 rintro e w13 ⟨v200, rfl, ho0, hb⟩
 refine ⟨_, rfl, ?_⟩;have n0_ := Aside0.mk (Kd.V_elder' (by (with_reducible repeat (first | apply Kd.V_alloc | apply Kd.V_drewN | apply Kd.V_drew)); exact HO0_8.out) (Kd.R_base ho0) hb);have n1_ := Aside0.mk (Kd.R_elder' (by (with_reducible repeat (first | apply Kd.R_alloc | apply Kd.R_drewN | apply Kd.R_drew)); exact HO198.out) (Kd.R_base ho0) hb);have n2_ := Aside0.mk (Kd.R_lower (Kd.R_new' (Kd.R_newM (M := fun k_ => (w.heap.size ≤ k_)) ho0 (below_size (by repeat (first | (with_reducible first | exact HB.out | apply below_alloc | apply pw_below_drewN | apply below_drew1 | refine below_set ?_ GE195.out) | exact HB.out))) (fun k_ h_ => h_)) (Kd.R_lt (by (with_reducible repeat (first | apply Kd.R_alloc | apply Kd.R_drewN | apply Kd.R_drew)); exact HO198.out))) (below_size (by repeat (first | (with_reducible first | exact HB.out | apply below_alloc | apply pw_below_drewN | apply below_drew1 | refine below_set ?_ GE195.out) | exact HB.out))));have n3_ := Aside0.mk (blk_below (g := gb195) (o := .cells #[.int .i64 a0_0, .int .i64 a0_1, .int .i64 a0_2, .int .i64 a0_3, .int .i64 a0_4, .int .i64 a0_5, .bool a0_6, .bool a0_7, .slice A0_8 l0_8.length c0_8] 61 (0, 0)) (by (with_reducible repeat (first | refine blk_drewN ?_ _ | refine blk_drew ?_ | refine blk_alloc ?_ _)); exact BK195.out) hb);have n4_ := Aside0.mk (below_step (by repeat (first | (with_reducible first | exact HB.out | apply below_alloc | apply pw_below_drewN | apply below_drew1 | refine below_set ?_ GE195.out) | exact HB.out)) hb);clear HO0_8;clear HO198;clear BK195;clear HB;have HO0_8 := n0_;have HO198 := n1_;have HO201 := n2_;have BK195 := n3_;have HB := n4_;clear n0_ n1_ n2_ n3_ n4_
 (try clear hb)
 (try clear hb2)
 (try clear hk)
 (try clear hi)
 (try clear ho0)
 refine hK.out _ _ ⟨(blk_cell BK195.out 0).trans rfl, (blk_cell BK195.out 1).trans rfl, (blk_cell BK195.out 2).trans rfl, (blk_cell BK195.out 3).trans rfl, (blk_cell BK195.out 4).trans rfl, (blk_cell BK195.out 5).trans rfl, (blk_cell BK195.out 6).trans rfl, (blk_cell BK195.out 7).trans rfl, (blk_cell BK195.out 8).trans rfl⟩ (fun hHeld => ?_);clear hK K;refine norm_ (a' := ?_) ?_ ?_;rotate_left; (focus (show Act.put _ (some 9) _ = _; simp only [Act.put, List.setIfInBounds_toArray, List.set_cons_zero, List.set_cons_succ, i64_w, i32_w]; rfl));refine one_ (i := 20) (N := some 24) (bitsA 34 1015021567) rfl rfl (one_of HT_.out (by kernel_rfl)) (by decide) (fun K hK => ?_);refine goes_ Try.func121 (by kernel_rfl) rfl #[.bool a0_6, .int .i64 1] (by rfl) rfl rfl (by (try simp only [List.map_toArray, List.map_cons, List.map_nil]); first | done | rfl | (simp only [List.length_drop, List.length_take]; rfl)) ?_
 with_reducible refine (impl_bit.calls a0_6 1 t202 _ A4.out).mono ?_
 rintro e w' ⟨rfl, ⟨nd, rfl⟩⟩
 refine ⟨_, rfl, ?_⟩;refine hK.out _ _ ⟨(blk_cell BK195.out 0).trans rfl, (blk_cell BK195.out 1).trans rfl, (blk_cell BK195.out 2).trans rfl, (blk_cell BK195.out 3).trans rfl, (blk_cell BK195.out 4).trans rfl, (blk_cell BK195.out 5).trans rfl, (blk_cell BK195.out 6).trans rfl, (blk_cell BK195.out 7).trans rfl, (blk_cell BK195.out 8).trans rfl⟩ (fun hHeld => ?_);clear hK K;refine norm_ (a' := ?_) ?_ ?_;rotate_left; (focus (show Act.put _ (some 24) _ = _; simp only [Act.put, List.setIfInBounds_toArray, List.set_cons_zero, List.set_cons_succ, i64_w, i32_w]; rfl));refine one_ (i := 23) (N := some 27) (bitsA 34 1023410175) rfl rfl (one_of HT_.out (by kernel_rfl)) (by decide) (fun K hK => ?_);refine goes_ Try.func121 (by kernel_rfl) rfl #[.bool a0_7, .int .i64 2] (by rfl) rfl rfl (by (try simp only [List.map_toArray, List.map_cons, List.map_nil]); first | done | rfl | (simp only [List.length_drop, List.length_take]; rfl)) ?_
 with_reducible refine (impl_bit.calls a0_7 2 t203 _ A5.out).mono ?_
 rintro e w' ⟨rfl, ⟨nd, rfl⟩⟩
 refine ⟨_, rfl, ?_⟩;refine hK.out _ _ ⟨(blk_cell BK195.out 0).trans rfl, (blk_cell BK195.out 1).trans rfl, (blk_cell BK195.out 2).trans rfl, (blk_cell BK195.out 3).trans rfl, (blk_cell BK195.out 4).trans rfl, (blk_cell BK195.out 5).trans rfl, (blk_cell BK195.out 6).trans rfl, (blk_cell BK195.out 7).trans rfl, (blk_cell BK195.out 8).trans rfl⟩ (fun hHeld => ?_);clear hK K;refine norm_ (a' := ?_) ?_ ?_;rotate_left; (focus (show Act.put _ (some 27) _ = _; simp only [Act.put, List.setIfInBounds_toArray, List.set_cons_zero, List.set_cons_succ, i64_w, i32_w]; rfl));refine pure_ (i := 24) (N := some 28) (v := ?_) (a' := ?_) (bitsA 34 1040187391) rfl rfl (any_of HT_.out (by kernel_rfl)) (fun _ _ _ h => h) (Or.inl ⟨by rfl, ?_⟩) ?_ ?_;rotate_left; (focus (intro w'; go_simp; with_reducible rfl));rotate_left; (focus (simp only [Act.put, List.setIfInBounds_toArray, List.set_cons_zero, List.set_cons_succ, i64_w, i32_w]; rfl));refine pure_ (i := 25) (N := some 29) (v := ?_) (a' := ?_) (bitsA 34 1073741823) rfl rfl (any_of HT_.out (by kernel_rfl)) (fun _ _ _ h => h) (Or.inl ⟨by rfl, ?_⟩) ?_ ?_;rotate_left; (focus (intro w'; go_simp; with_reducible rfl));rotate_left; (focus (simp only [Act.put, List.setIfInBounds_toArray, List.set_cons_zero, List.set_cons_succ, i64_w, i32_w]; rfl));refine one_ (i := 30) (N := some 34) (bitsA 34 2147483647) rfl rfl (one_of HT_.out (by kernel_rfl)) (by decide) (fun K hK => ?_);refine Kd.R_lit_step (Kd.int .u8) _ 5 ?hg (N := 34) ?hd (xs := ([(a0_2) % 256, (a0_3) % 256, (a0_4) % 256, (a0_5) % 256, (wrap64 (t202 + t203)) % 256, ((l0_8.length : Int)) % 256] : List Int)) (inner := [.int .u8 ((a0_2) % 256), .int .u8 ((a0_3) % 256), .int .u8 ((a0_4) % 256), .int .u8 ((a0_5) % 256), .int .u8 ((wrap64 (t202 + t203)) % 256), .int .u8 (((l0_8.length : Int)) % 256)]) (ok := fun _ => True) (okp := fun _ => True) ?hr ?hp (fun _ hk => hk) trivial (Below.refl _ _) (Nat.le_refl _) (by simp) ?_; (case hd => rfl); (case hg => rfl); (case hr => first | (go_simp; done) | (go_simp; rfl)); (case hp => exact (Reps.one (show Kd.M (Kd.int .u8) _ _ _ ((a0_2) % 256) [.int .u8 ((a0_2) % 256)] from rfl) (Reps.one (show Kd.M (Kd.int .u8) _ _ _ ((a0_3) % 256) [.int .u8 ((a0_3) % 256)] from rfl) (Reps.one (show Kd.M (Kd.int .u8) _ _ _ ((a0_4) % 256) [.int .u8 ((a0_4) % 256)] from rfl) (Reps.one (show Kd.M (Kd.int .u8) _ _ _ ((a0_5) % 256) [.int .u8 ((a0_5) % 256)] from rfl) (Reps.one (show Kd.M (Kd.int .u8) _ _ _ ((wrap64 (t202 + t203)) % 256) [.int .u8 ((wrap64 (t202 + t203)) % 256)] from rfl) (Reps.one (show Kd.M (Kd.int .u8) _ _ _ (((l0_8.length : Int)) % 256) [.int .u8 (((l0_8.length : Int)) % 256)] from rfl) (Reps.none _ _))))))));intro v205 w14 ho15 hb hg_ hnew_;clear hg_ hnew_
 (first | rw [← Ny204.out] at ho15 | (simp only [Int.reduceToNat] at ho15; rw [← Ny204.out] at ho15))
 have n0_ := Aside0.mk (Kd.V_elder' (by (with_reducible repeat (first | apply Kd.V_alloc | apply Kd.V_drewN | apply Kd.V_drew)); exact HO0_8.out) (Kd.R_base ho15) hb);have n1_ := Aside0.mk (Kd.R_elder' (by (with_reducible repeat (first | apply Kd.R_alloc | apply Kd.R_drewN | apply Kd.R_drew)); exact HO198.out) (Kd.R_base ho15) hb);have n2_ := Aside0.mk (Kd.R_elder' (by (with_reducible repeat (first | apply Kd.R_alloc | apply Kd.R_drewN | apply Kd.R_drew)); exact HO201.out) (Kd.R_base ho15) hb);have n3_ := Aside0.mk (Kd.R_lower (Kd.R_new' (Kd.R_new' (Kd.R_newM (M := fun k_ => (w.heap.size ≤ k_)) ho15 (below_size (by repeat (first | (with_reducible first | exact HB.out | apply below_alloc | apply pw_below_drewN | apply below_drew1 | refine below_set ?_ GE195.out) | exact HB.out))) (fun k_ h_ => h_)) (Kd.R_lt (by (with_reducible repeat (first | apply Kd.R_alloc | apply Kd.R_drewN | apply Kd.R_drew)); exact HO198.out))) (Kd.R_lt (by (with_reducible repeat (first | apply Kd.R_alloc | apply Kd.R_drewN | apply Kd.R_drew)); exact HO201.out))) (below_size (by repeat (first | (with_reducible first | exact HB.out | apply below_alloc | apply pw_below_drewN | apply below_drew1 | refine below_set ?_ GE195.out) | exact HB.out))));have n4_ := Aside0.mk (blk_below (g := gb195) (o := .cells #[.int .i64 a0_0, .int .i64 a0_1, .int .i64 a0_2, .int .i64 a0_3, .int .i64 a0_4, .int .i64 a0_5, .bool a0_6, .bool a0_7, .slice A0_8 l0_8.length c0_8] 61 (0, 0)) (by (with_reducible repeat (first | refine blk_drewN ?_ _ | refine blk_drew ?_ | refine blk_alloc ?_ _)); exact BK195.out) hb);have n5_ := Aside0.mk (below_step (by repeat (first | (with_reducible first | exact HB.out | apply below_alloc | apply pw_below_drewN | apply below_drew1 | refine below_set ?_ GE195.out) | exact HB.out)) hb);clear HO0_8;clear HO198;clear HO201;clear BK195;clear HB;have HO0_8 := n0_;have HO198 := n1_;have HO201 := n2_;have HO206 := n3_;have BK195 := n4_;have HB := n5_;clear n0_ n1_ n2_ n3_ n4_ n5_;clear hb ho15;obtain ⟨Ao16, co16, eo16⟩ := Kd.R_slice HO198.out
 (first | subst eo16 | (injection eo16 with f1_ f2_ f3_; have f4_ := f1_.symm; have f5_ := f3_.symm; clear f1_ f2_ f3_; subst f4_; subst f5_))
 obtain ⟨Ao17, co17, eo17⟩ := Kd.R_slice HO201.out
 (first | subst eo17 | (injection eo17 with f1_ f2_ f3_; have f4_ := f1_.symm; have f5_ := f3_.symm; clear f1_ f2_ f3_; subst f4_; subst f5_))
 obtain ⟨Ao18, co18, eo18⟩ := Kd.R_slice HO206.out
 (first | subst eo18 | (injection eo18 with f1_ f2_ f3_; have f4_ := f1_.symm; have f5_ := f3_.symm; clear f1_ f2_ f3_; subst f4_; subst f5_))
 refine hK.out _ _ ⟨(blk_cell BK195.out 0).trans rfl, (blk_cell BK195.out 1).trans rfl, (blk_cell BK195.out 2).trans rfl, (blk_cell BK195.out 3).trans rfl, (blk_cell BK195.out 4).trans rfl, (blk_cell BK195.out 5).trans rfl, (blk_cell BK195.out 6).trans rfl, (blk_cell BK195.out 7).trans rfl, (blk_cell BK195.out 8).trans rfl⟩ (fun hHeld => ?_);clear hK K;refine norm_ (a' := ?_) ?_ ?_;rotate_left; (focus (show Act.put _ (some 34) _ = _; simp only [Act.put, List.setIfInBounds_toArray, List.set_cons_zero, List.set_cons_succ, i64_w, i32_w]; rfl));refine one_ (i := 31) (N := some 35) (bitsA 34 4294967295) rfl rfl (one_of HT_.out (by kernel_rfl)) (by decide) (fun K hK => ?_);refine Kd.N_lit_step (Kd.slice 5 (Kd.int .u8)) _ 22 ?hg (N' := 35) ?hd (xs := ([t196, t199, y204] : List (List Int))) (inner := [.slice Ao16 t196.length co16, .slice Ao17 t199.length co17, .slice Ao18 y204.length co18]) (ok := (fun k_ => (P0_8_ k_ ∨ w.heap.size ≤ k_) ∧ k_ ≠ gb195)) (okp := (fun k_ => (P0_8_ k_ ∨ w.heap.size ≤ k_) ∧ k_ ≠ gb195)) ?hr ?hp (fun _ hk => hk) ((show ∀ k_, w14.heap.size ≤ k_ → (fun k_ => (P0_8_ k_ ∨ w.heap.size ≤ k_) ∧ k_ ≠ gb195) k_ from fun k_ hk => ⟨(.inr (Nat.le_trans (below_size (by repeat (first | (with_reducible first | exact HB.out | apply below_alloc | apply pw_below_drewN | apply below_drew1 | refine below_set ?_ GE195.out) | exact HB.out))) hk)), Kd.freshB (g := gb195) (o := .cells #[.int .i64 a0_0, .int .i64 a0_1, .int .i64 a0_2, .int .i64 a0_3, .int .i64 a0_4, .int .i64 a0_5, .bool a0_6, .bool a0_7, .slice A0_8 l0_8.length c0_8] 61 (0, 0)) (by (with_reducible repeat (first | refine blk_drewN ?_ _ | refine blk_drew ?_ | refine blk_alloc ?_ _)); exact BK195.out) k_ hk⟩) _ (Nat.le_refl _)) (Below.refl _ _) (Nat.le_refl _) (by simp) ?_; (case hd => rfl); (case hg => rfl); (case hr => first | (go_simp; done) | (go_simp; rfl)); (case hp => exact (Reps.one (show Kd.FK (Kd.slice 5 (Kd.int .u8)) _ _ t196 [.slice Ao16 t196.length co16] from (Kd.FK_slice_mk (Kd.R_reads' (Kd.R_mono (ok' := (fun k_ => (P0_8_ k_ ∨ w.heap.size ≤ k_) ∧ k_ ≠ gb195)) (Kd.R_types (HO198.out) BK195.out (by decide)) (fun k_ hk => ⟨(.inr (hk.1.1.1.1)), hk.2⟩))).2.1 (Kd.R_F (Kd.R_mono (ok' := (fun k_ => (P0_8_ k_ ∨ w.heap.size ≤ k_) ∧ k_ ≠ gb195)) (Kd.R_types (HO198.out) BK195.out (by decide)) (fun k_ hk => ⟨(.inr (hk.1.1.1.1)), hk.2⟩))))) (Reps.one (show Kd.FK (Kd.slice 5 (Kd.int .u8)) _ _ t199 [.slice Ao17 t199.length co17] from (Kd.FK_slice_mk (Kd.R_reads' (Kd.R_mono (ok' := (fun k_ => (P0_8_ k_ ∨ w.heap.size ≤ k_) ∧ k_ ≠ gb195)) (Kd.R_types (HO201.out) BK195.out (by decide)) (fun k_ hk => ⟨(.inr (hk.1.1.1.1)), hk.2⟩))).2.1 (Kd.R_F (Kd.R_mono (ok' := (fun k_ => (P0_8_ k_ ∨ w.heap.size ≤ k_) ∧ k_ ≠ gb195)) (Kd.R_types (HO201.out) BK195.out (by decide)) (fun k_ hk => ⟨(.inr (hk.1.1.1.1)), hk.2⟩))))) (Reps.one (show Kd.FK (Kd.slice 5 (Kd.int .u8)) _ _ y204 [.slice Ao18 y204.length co18] from (Kd.FK_slice_mk (Kd.R_reads' (Kd.R_mono (ok' := (fun k_ => (P0_8_ k_ ∨ w.heap.size ≤ k_) ∧ k_ ≠ gb195)) (Kd.R_types (HO206.out) BK195.out (by decide)) (fun k_ hk => ⟨(.inr (hk.1.1.1.1)), hk.2⟩))).2.1 (Kd.R_F (Kd.R_mono (ok' := (fun k_ => (P0_8_ k_ ∨ w.heap.size ≤ k_) ∧ k_ ≠ gb195)) (Kd.R_types (HO206.out) BK195.out (by decide)) (fun k_ hk => ⟨(.inr (hk.1.1.1.1)), hk.2⟩))))) (Reps.none _ _)))));intro v208 w19 ho20 hb hg_ hnew_;clear hg_ hnew_
 (first | rw [← Ny207.out] at ho20 | (simp only [Int.reduceToNat] at ho20; rw [← Ny207.out] at ho20))
 have n0_ := Aside0.mk (Kd.V_elder' (by (with_reducible repeat (first | apply Kd.V_alloc | apply Kd.V_drewN | apply Kd.V_drew)); exact HO0_8.out) (Kd.N_base ho20) hb);have n1_ := Aside0.mk (Kd.N_lower ho20 (below_size (by repeat (first | (with_reducible first | exact HB.out | apply below_alloc | apply pw_below_drewN | apply below_drew1 | refine below_set ?_ GE195.out) | exact HB.out))));have n2_ := Aside0.mk (blk_below (g := gb195) (o := .cells #[.int .i64 a0_0, .int .i64 a0_1, .int .i64 a0_2, .int .i64 a0_3, .int .i64 a0_4, .int .i64 a0_5, .bool a0_6, .bool a0_7, .slice A0_8 l0_8.length c0_8] 61 (0, 0)) (by (with_reducible repeat (first | refine blk_drewN ?_ _ | refine blk_drew ?_ | refine blk_alloc ?_ _)); exact BK195.out) hb);have n3_ := Aside0.mk (below_step (by repeat (first | (with_reducible first | exact HB.out | apply below_alloc | apply pw_below_drewN | apply below_drew1 | refine below_set ?_ GE195.out) | exact HB.out)) hb);clear HO0_8;clear BK195;clear HB;clear HO198;clear HO201;clear HO206;have HO0_8 := n0_;have HO209 := n1_;have BK195 := n2_;have HB := n3_;clear n0_ n1_ n2_ n3_;clear hb ho20;obtain ⟨Ao21, co21, eo21⟩ := Kd.N_slice HO209.out
 (first | subst eo21 | (injection eo21 with f1_ f2_ f3_; have f4_ := f1_.symm; have f5_ := f3_.symm; clear f1_ f2_ f3_; subst f4_; subst f5_))
 refine hK.out _ _ ⟨(blk_cell BK195.out 0).trans rfl, (blk_cell BK195.out 1).trans rfl, (blk_cell BK195.out 2).trans rfl, (blk_cell BK195.out 3).trans rfl, (blk_cell BK195.out 4).trans rfl, (blk_cell BK195.out 5).trans rfl, (blk_cell BK195.out 6).trans rfl, (blk_cell BK195.out 7).trans rfl, (blk_cell BK195.out 8).trans rfl⟩ (fun hHeld => ?_);clear hK K;refine norm_ (a' := ?_) ?_ ?_;rotate_left; (focus (show Act.put _ (some 35) _ = _; simp only [Act.put, List.setIfInBounds_toArray, List.set_cons_zero, List.set_cons_succ, i64_w, i32_w]; rfl));refine one_ (i := 32) (N := some 36) (bitsA 34 8589934591) rfl rfl (one_of HT_.out (by kernel_rfl)) (by decide) (fun K hK => ?_);refine goes_ Try.func69 (by kernel_rfl) rfl #[.slice Ao21 y207.length co21] (by rfl) rfl rfl (by (try simp only [List.map_toArray, List.map_cons, List.map_nil]); first | done | rfl | (simp only [List.length_drop, List.length_take]; rfl)) ?_
 with_reducible refine (slices_Concat_byte_byte.calls k _ _ y207 t210 _ ?side1 ?side2 A6.out).mono ?_
 (case side1 => repeat (first | exact (Kd.N_reads' HO209.out).2.2 | (with_reducible refine Kd.C_alloc ?_ _) | (with_reducible refine Kd.C_drewN ?_ _) | (with_reducible refine Kd.C_drew ?_)))
 (case side2 => exact (Kd.N_reads' HO209.out).2.1)
 rintro e w22 ⟨v211, rfl, ho0, hb⟩
 refine ⟨_, rfl, ?_⟩;have n0_ := Aside0.mk (Kd.V_elder' (by (with_reducible repeat (first | apply Kd.V_alloc | apply Kd.V_drewN | apply Kd.V_drew)); exact HO0_8.out) (Kd.R_base ho0) hb);have n1_ := Aside0.mk (Kd.N_elder' (by (with_reducible repeat (first | apply Kd.N_alloc | apply Kd.N_drewN | apply Kd.N_drew)); exact HO209.out) (Kd.R_base ho0) hb);have n2_ := Aside0.mk (Kd.R_lower (Kd.R_newM (M := fun k_ => (w.heap.size ≤ k_)) ho0 (below_size (by repeat (first | (with_reducible first | exact HB.out | apply below_alloc | apply pw_below_drewN | apply below_drew1 | refine below_set ?_ GE195.out) | exact HB.out))) (fun k_ h_ => h_)) (below_size (by repeat (first | (with_reducible first | exact HB.out | apply below_alloc | apply pw_below_drewN | apply below_drew1 | refine below_set ?_ GE195.out) | exact HB.out))));have n3_ := Aside0.mk (blk_below (g := gb195) (o := .cells #[.int .i64 a0_0, .int .i64 a0_1, .int .i64 a0_2, .int .i64 a0_3, .int .i64 a0_4, .int .i64 a0_5, .bool a0_6, .bool a0_7, .slice A0_8 l0_8.length c0_8] 61 (0, 0)) (by (with_reducible repeat (first | refine blk_drewN ?_ _ | refine blk_drew ?_ | refine blk_alloc ?_ _)); exact BK195.out) hb);have n4_ := Aside0.mk (below_step (by repeat (first | (with_reducible first | exact HB.out | apply below_alloc | apply pw_below_drewN | apply below_drew1 | refine below_set ?_ GE195.out) | exact HB.out)) hb);clear HO0_8;clear HO209;clear BK195;clear HB;have HO0_8 := n0_;have HO209 := n1_;have HO212 := n2_;have BK195 := n3_;have HB := n4_;clear n0_ n1_ n2_ n3_ n4_
 (try clear hb)
 (try clear hb2)
 (try clear hk)
 (try clear hi)
 (try clear ho0)
 refine hK.out _ _ ⟨(blk_cell BK195.out 0).trans rfl, (blk_cell BK195.out 1).trans rfl, (blk_cell BK195.out 2).trans rfl, (blk_cell BK195.out 3).trans rfl, (blk_cell BK195.out 4).trans rfl, (blk_cell BK195.out 5).trans rfl, (blk_cell BK195.out 6).trans rfl, (blk_cell BK195.out 7).trans rfl, (blk_cell BK195.out 8).trans rfl⟩ (fun hHeld => ?_);clear hK K;refine norm_ (a' := ?_) ?_ ?_;rotate_left; (focus (show Act.put _ (some 36) _ = _; simp only [Act.put, List.setIfInBounds_toArray, List.set_cons_zero, List.set_cons_succ, i64_w, i32_w]; rfl));refine pure_ (i := 33) (N := some 3) (v := ?_) (a' := ?_) (bitsA 34 17179869183) rfl rfl (any_of HT_.out (by kernel_rfl)) (fun _ _ _ h => h) (Or.inl ⟨by rfl, ?_⟩) ?_ ?_;rotate_left; (focus (intro w'; go_simp; with_reducible rfl));rotate_left; (focus (simp only [Act.put, List.setIfInBounds_toArray, List.set_cons_zero, List.set_cons_succ, i64_w, i32_w]; rfl));refine done_ (done_of HT_.out (by kernel_rfl)) ?_
 try go_wp2
 have n0_ := Aside0.mk (Kd.V_drew HO0_8.out);have n1_ := Aside0.mk (Kd.N_drew HO209.out);have n2_ := Aside0.mk (Kd.R_drew HO212.out);have n3_ := Aside0.mk (blk_drew BK195.out);have n4_ := Aside0.mk (below_drew1 HB.out);clear HO0_8;clear HO209;clear HO212;clear BK195;clear HB;have HO0_8 := n0_;have HO209 := n1_;have HO212 := n2_;have BK195 := n3_;have HB := n4_;clear n0_ n1_ n2_ n3_ n4_;obtain ⟨Ao24, co24, eo24⟩ := Kd.R_slice HO212.out
 (first | subst eo24 | (injection eo24 with f1_ f2_ f3_; have f4_ := f1_.symm; have f5_ := f3_.symm; clear f1_ f2_ f3_; subst f4_; subst f5_))
 refine start_ (n := 9) (S := fun w' => w'.cell? ⟨gb195, 0, none⟩ = some (.int .i64 a0_0) ∧ w'.cell? ⟨gb195, 1, none⟩ = some (.int .i64 a0_1) ∧ w'.cell? ⟨gb195, 2, none⟩ = some (.int .i64 a0_2) ∧ w'.cell? ⟨gb195, 3, none⟩ = some (.int .i64 a0_3) ∧ w'.cell? ⟨gb195, 4, none⟩ = some (.int .i64 a0_4) ∧ w'.cell? ⟨gb195, 5, none⟩ = some (.int .i64 a0_5) ∧ w'.cell? ⟨gb195, 6, none⟩ = some (.bool a0_6) ∧ w'.cell? ⟨gb195, 7, none⟩ = some (.bool a0_7) ∧ w'.cell? ⟨gb195, 8, none⟩ = some (.slice A0_8 l0_8.length c0_8)) (ds := []) (bitsA 9 0) (by kernel_rfl) rfl rfl ⟨(blk_cell BK195.out 0).trans rfl, (blk_cell BK195.out 1).trans rfl, (blk_cell BK195.out 2).trans rfl, (blk_cell BK195.out 3).trans rfl, (blk_cell BK195.out 4).trans rfl, (blk_cell BK195.out 5).trans rfl, (blk_cell BK195.out 6).trans rfl, (blk_cell BK195.out 7).trans rfl, (blk_cell BK195.out 8).trans rfl⟩ (fun hHeld => ?_); refine with_tabW impl_packetBytes.tab2 impl_packetBytes.bits2 (fun HT_ HW_ => ?_)
 generalize w22.drew = w23 at HO0_8 HO209 HO212 BK195 HB hHeld ⊢
 refine pure_ (i := 0) (N := some 37) (v := ?_) (a' := ?_) (bitsA 9 1) rfl rfl (any_of HT_.out (by kernel_rfl)) (fun _ _ _ h => h) (Or.inl ⟨by rfl, ?_⟩) ?_ ?_;rotate_left; (focus (intro w'; go_simp; with_reducible rfl));rotate_left; (focus (simp only [Act.put, List.setIfInBounds_toArray, List.set_cons_zero, List.set_cons_succ, i64_w, i32_w]; rfl));refine pure_ (i := 1) (N := some 38) (v := ?_) (a' := ?_) (bitsA 9 3) rfl rfl (any_of HT_.out (by kernel_rfl)) (fun _ _ _ h => h) (Or.inl ⟨by rfl, ?_⟩) ?_ ?_;rotate_left; (focus (intro w'; go_simp; with_reducible rfl));rotate_left; (focus (simp only [Act.put, List.setIfInBounds_toArray, List.set_cons_zero, List.set_cons_succ, i64_w, i32_w]; rfl));refine pure_ (i := 4) (N := some 41) (v := ?_) (a' := ?_) (bitsA 9 19) rfl rfl (any_of HT_.out (by kernel_rfl)) (fun _ _ _ h => h) (Or.inl ⟨by rfl, ?_⟩) ?_ ?_;rotate_left; (focus (intro w'; go_simp; with_reducible rfl));rotate_left; (focus (simp only [Act.put, List.setIfInBounds_toArray, List.set_cons_zero, List.set_cons_succ, i64_w, i32_w]; rfl));refine take_ (i := 5) (N := some 42) (v := ?_) (a' := ?_) (bitsA 9 51) rfl rfl (take_ofW HT_.out HW_.out (by kernel_rfl)) (fun _ _ _ h => h) (Or.inl ⟨by rfl, ?_⟩) hHeld ?_ ?_;rotate_left
 ·rintro w' ⟨s0, s1, s2, s3, s4, s5, s6, s7, s8⟩
  go_simp;with_reducible rfl
 rotate_left; (focus (simp only [Act.put, List.setIfInBounds_toArray, List.set_cons_zero, List.set_cons_succ, i64_w, i32_w]; rfl));refine one_ (i := 2) (N := some 39) (bitsA 9 55) rfl rfl (one_of HT_.out (by kernel_rfl)) (by decide) (fun K hK => ?_);refine goes_ Try.func70 (by kernel_rfl) rfl #[.slice Ao24 t210.length co24] (by rfl) rfl rfl (by (try simp only [List.map_toArray, List.map_cons, List.map_nil]); first | done | rfl | (simp only [List.length_drop, List.length_take]; rfl)) ?_
 with_reducible refine (impl_sumOf.calls k _ _ t210 t213 _ ?side1 ?side2 A7.out).mono ?_
 (case side1 => repeat (first | exact (Kd.R_reads' HO212.out).2.2 | (with_reducible refine Kd.C_alloc ?_ _) | (with_reducible refine Kd.C_drewN ?_ _) | (with_reducible refine Kd.C_drew ?_)))
 (case side2 => exact (Kd.R_reads' HO212.out).2.1)
 rintro e w25 ⟨rfl, hb⟩
 refine ⟨_, rfl, ?_⟩;have n0_ := Aside0.mk (Kd.V_below (by (with_reducible repeat (first | apply Kd.V_alloc | apply Kd.V_drewN | apply Kd.V_drew)); exact HO0_8.out) hb);have n1_ := Aside0.mk (Kd.N_below (by (with_reducible repeat (first | apply Kd.N_alloc | apply Kd.N_drewN | apply Kd.N_drew)); exact HO209.out) hb);have n2_ := Aside0.mk (Kd.R_below (by (with_reducible repeat (first | apply Kd.R_alloc | apply Kd.R_drewN | apply Kd.R_drew)); exact HO212.out) hb);have n3_ := Aside0.mk (blk_below (g := gb195) (o := .cells #[.int .i64 a0_0, .int .i64 a0_1, .int .i64 a0_2, .int .i64 a0_3, .int .i64 a0_4, .int .i64 a0_5, .bool a0_6, .bool a0_7, .slice A0_8 l0_8.length c0_8] 61 (0, 0)) (by (with_reducible repeat (first | refine blk_drewN ?_ _ | refine blk_drew ?_ | refine blk_alloc ?_ _)); exact BK195.out) hb);have n4_ := Aside0.mk (below_step (by repeat (first | (with_reducible first | exact HB.out | apply below_alloc | apply pw_below_drewN | apply below_drew1 | refine below_set ?_ GE195.out) | exact HB.out)) hb);clear HO0_8;clear HO209;clear HO212;clear BK195;clear HB;have HO0_8 := n0_;have HO209 := n1_;have HO212 := n2_;have BK195 := n3_;have HB := n4_;clear n0_ n1_ n2_ n3_ n4_
 (try clear hb)
 (try clear hb2)
 (try clear hk)
 (try clear hi)
 refine hK.out _ _ ⟨(blk_cell BK195.out 0).trans rfl, (blk_cell BK195.out 1).trans rfl, (blk_cell BK195.out 2).trans rfl, (blk_cell BK195.out 3).trans rfl, (blk_cell BK195.out 4).trans rfl, (blk_cell BK195.out 5).trans rfl, (blk_cell BK195.out 6).trans rfl, (blk_cell BK195.out 7).trans rfl, (blk_cell BK195.out 8).trans rfl⟩ (fun hHeld => ?_);clear hK K;refine norm_ (a' := ?_) ?_ ?_;rotate_left; (focus (show Act.put _ (some 39) _ = _; simp only [Act.put, List.setIfInBounds_toArray, List.set_cons_zero, List.set_cons_succ, i64_w, i32_w]; rfl));refine one_ (i := 3) (N := some 40) (bitsA 9 63) rfl rfl (one_of HT_.out (by kernel_rfl)) (by decide) (fun K hK => ?_);refine goes_ Try.func64 (by kernel_rfl) rfl #[.int .i64 t213, .int .i64 2] (by rfl) rfl rfl (by (try simp only [List.map_toArray, List.map_cons, List.map_nil]); first | done | rfl | (simp only [List.length_drop, List.length_take]; rfl)) ?_
 with_reducible refine (impl_bytesOf.calls k t213 2 t214 _ A8.out).mono ?_
 rintro e w26 ⟨v215, rfl, ho0, hb⟩
 refine ⟨_, rfl, ?_⟩;have n0_ := Aside0.mk (Kd.V_elder' (by (with_reducible repeat (first | apply Kd.V_alloc | apply Kd.V_drewN | apply Kd.V_drew)); exact HO0_8.out) (Kd.R_base ho0) hb);have n1_ := Aside0.mk (Kd.N_elder' (by (with_reducible repeat (first | apply Kd.N_alloc | apply Kd.N_drewN | apply Kd.N_drew)); exact HO209.out) (Kd.R_base ho0) hb);have n2_ := Aside0.mk (Kd.R_elder' (by (with_reducible repeat (first | apply Kd.R_alloc | apply Kd.R_drewN | apply Kd.R_drew)); exact HO212.out) (Kd.R_base ho0) hb);have n3_ := Aside0.mk (Kd.R_lower (Kd.R_new' (Kd.R_newM (M := fun k_ => (w.heap.size ≤ k_)) ho0 (below_size (by repeat (first | (with_reducible first | exact HB.out | apply below_alloc | apply pw_below_drewN | apply below_drew1 | refine below_set ?_ GE195.out) | exact HB.out))) (fun k_ h_ => h_)) (Kd.R_lt (by (with_reducible repeat (first | apply Kd.R_alloc | apply Kd.R_drewN | apply Kd.R_drew)); exact HO212.out))) (below_size (by repeat (first | (with_reducible first | exact HB.out | apply below_alloc | apply pw_below_drewN | apply below_drew1 | refine below_set ?_ GE195.out) | exact HB.out))));have n4_ := Aside0.mk (blk_below (g := gb195) (o := .cells #[.int .i64 a0_0, .int .i64 a0_1, .int .i64 a0_2, .int .i64 a0_3, .int .i64 a0_4, .int .i64 a0_5, .bool a0_6, .bool a0_7, .slice A0_8 l0_8.length c0_8] 61 (0, 0)) (by (with_reducible repeat (first | refine blk_drewN ?_ _ | refine blk_drew ?_ | refine blk_alloc ?_ _)); exact BK195.out) hb);have n5_ := Aside0.mk (below_step (by repeat (first | (with_reducible first | exact HB.out | apply below_alloc | apply pw_below_drewN | apply below_drew1 | refine below_set ?_ GE195.out) | exact HB.out)) hb);clear HO0_8;clear HO209;clear HO212;clear BK195;clear HB;have HO0_8 := n0_;have HO209 := n1_;have HO212 := n2_;have HO216 := n3_;have BK195 := n4_;have HB := n5_;clear n0_ n1_ n2_ n3_ n4_ n5_
 (try clear hb)
 (try clear hb2)
 (try clear hk)
 (try clear hi)
 (try clear ho0)
 obtain ⟨Ao27, co27, eo27⟩ := Kd.R_slice HO216.out
 (first | subst eo27 | (injection eo27 with f1_ f2_ f3_; have f4_ := f1_.symm; have f5_ := f3_.symm; clear f1_ f2_ f3_; subst f4_; subst f5_))
 refine hK.out _ _ ⟨(blk_cell BK195.out 0).trans rfl, (blk_cell BK195.out 1).trans rfl, (blk_cell BK195.out 2).trans rfl, (blk_cell BK195.out 3).trans rfl, (blk_cell BK195.out 4).trans rfl, (blk_cell BK195.out 5).trans rfl, (blk_cell BK195.out 6).trans rfl, (blk_cell BK195.out 7).trans rfl, (blk_cell BK195.out 8).trans rfl⟩ (fun hHeld => ?_);clear hK K;refine norm_ (a' := ?_) ?_ ?_;rotate_left; (focus (show Act.put _ (some 40) _ = _; simp only [Act.put, List.setIfInBounds_toArray, List.set_cons_zero, List.set_cons_succ, i64_w, i32_w]; rfl));refine one_ (i := 6) (N := some 43) (bitsA 9 127) rfl rfl (one_of HT_.out (by kernel_rfl)) (by decide) (fun K hK => ?_);refine Kd.N_lit_step (Kd.slice 5 (Kd.int .u8)) _ 22 ?hg (N' := 43) ?hd (xs := ([t210, t214, l0_8] : List (List Int))) (inner := [.slice Ao24 t210.length co24, .slice Ao27 t214.length co27, .slice A0_8 l0_8.length c0_8]) (ok := (fun k_ => (P0_8_ k_ ∨ w.heap.size ≤ k_) ∧ some k_ ≠ (.slice Ao21 y207.length co21 : Value).ownBlock ∧ k_ ≠ gb195)) (okp := (fun k_ => (P0_8_ k_ ∨ w.heap.size ≤ k_) ∧ some k_ ≠ (.slice Ao21 y207.length co21 : Value).ownBlock ∧ k_ ≠ gb195)) ?hr ?hp (fun _ hk => hk) ((show ∀ k_, w26.heap.size ≤ k_ → (fun k_ => (P0_8_ k_ ∨ w.heap.size ≤ k_) ∧ some k_ ≠ (.slice Ao21 y207.length co21 : Value).ownBlock ∧ k_ ≠ gb195) k_ from fun k_ hk => ⟨(.inr (Nat.le_trans (below_size (by repeat (first | (with_reducible first | exact HB.out | apply below_alloc | apply pw_below_drewN | apply below_drew1 | refine below_set ?_ GE195.out) | exact HB.out))) hk)), Kd.fresh' (Kd.N_lt (by (with_reducible repeat (first | apply Kd.N_alloc | apply Kd.N_drewN | apply Kd.N_drew)); exact HO209.out)) k_ hk, Kd.freshB (g := gb195) (o := .cells #[.int .i64 a0_0, .int .i64 a0_1, .int .i64 a0_2, .int .i64 a0_3, .int .i64 a0_4, .int .i64 a0_5, .bool a0_6, .bool a0_7, .slice A0_8 l0_8.length c0_8] 61 (0, 0)) (by (with_reducible repeat (first | refine blk_drewN ?_ _ | refine blk_drew ?_ | refine blk_alloc ?_ _)); exact BK195.out) k_ hk⟩) _ (Nat.le_refl _)) (Below.refl _ _) (Nat.le_refl _) (by simp) ?_; (case hd => rfl); (case hg => rfl); (case hr => first | (go_simp; done) | (go_simp; rfl)); (case hp => exact (Reps.one (show Kd.FK (Kd.slice 5 (Kd.int .u8)) _ _ t210 [.slice Ao24 t210.length co24] from (Kd.FK_slice_mk (Kd.R_reads' (Kd.R_mono (ok' := (fun k_ => (P0_8_ k_ ∨ w.heap.size ≤ k_) ∧ some k_ ≠ (.slice Ao21 y207.length co21 : Value).ownBlock ∧ k_ ≠ gb195)) (Kd.R_types (Kd.R_apart' (HO212.out) (Kd.N_typed HO209.out) (by decide)) BK195.out (by decide)) (fun k_ hk => ⟨(.inr (hk.1.1.1.1)), ⟨hk.1.2, hk.2⟩⟩))).2.1 (Kd.R_F (Kd.R_mono (ok' := (fun k_ => (P0_8_ k_ ∨ w.heap.size ≤ k_) ∧ some k_ ≠ (.slice Ao21 y207.length co21 : Value).ownBlock ∧ k_ ≠ gb195)) (Kd.R_types (Kd.R_apart' (HO212.out) (Kd.N_typed HO209.out) (by decide)) BK195.out (by decide)) (fun k_ hk => ⟨(.inr (hk.1.1.1.1)), ⟨hk.1.2, hk.2⟩⟩))))) (Reps.one (show Kd.FK (Kd.slice 5 (Kd.int .u8)) _ _ t214 [.slice Ao27 t214.length co27] from (Kd.FK_slice_mk (Kd.R_reads' (Kd.R_mono (ok' := (fun k_ => (P0_8_ k_ ∨ w.heap.size ≤ k_) ∧ some k_ ≠ (.slice Ao21 y207.length co21 : Value).ownBlock ∧ k_ ≠ gb195)) (Kd.R_types (Kd.R_apart' (HO216.out) (Kd.N_typed HO209.out) (by decide)) BK195.out (by decide)) (fun k_ hk => ⟨(.inr (hk.1.1.1.1)), ⟨hk.1.2, hk.2⟩⟩))).2.1 (Kd.R_F (Kd.R_mono (ok' := (fun k_ => (P0_8_ k_ ∨ w.heap.size ≤ k_) ∧ some k_ ≠ (.slice Ao21 y207.length co21 : Value).ownBlock ∧ k_ ≠ gb195)) (Kd.R_types (Kd.R_apart' (HO216.out) (Kd.N_typed HO209.out) (by decide)) BK195.out (by decide)) (fun k_ hk => ⟨(.inr (hk.1.1.1.1)), ⟨hk.1.2, hk.2⟩⟩))))) (Reps.one (show Kd.FK (Kd.slice 5 (Kd.int .u8)) _ _ l0_8 [.slice A0_8 l0_8.length c0_8] from (Kd.FK_slice_mk (Kd.V_reads' (Kd.V_mono (ok' := (fun k_ => (P0_8_ k_ ∨ w.heap.size ≤ k_) ∧ some k_ ≠ (.slice Ao21 y207.length co21 : Value).ownBlock ∧ k_ ≠ gb195)) (HO0_8.out) (fun k_ hk => ⟨hk.1.1.1.1.1.1.1, ⟨hk.1.1.2, hk.1.1.1.1.1.1.2⟩⟩))).2.1 (Kd.V_F (Kd.V_mono (ok' := (fun k_ => (P0_8_ k_ ∨ w.heap.size ≤ k_) ∧ some k_ ≠ (.slice Ao21 y207.length co21 : Value).ownBlock ∧ k_ ≠ gb195)) (HO0_8.out) (fun k_ hk => ⟨hk.1.1.1.1.1.1.1, ⟨hk.1.1.2, hk.1.1.1.1.1.1.2⟩⟩))))) (Reps.none _ _)))));intro v218 w28 ho29 hb hg_ hnew_;clear hg_ hnew_
 (first | rw [← Ny217.out] at ho29 | (simp only [Int.reduceToNat] at ho29; rw [← Ny217.out] at ho29))
 have n0_ := Aside0.mk (Kd.V_elder' (by (with_reducible repeat (first | apply Kd.V_alloc | apply Kd.V_drewN | apply Kd.V_drew)); exact HO0_8.out) (Kd.N_base ho29) hb);have n1_ := Aside0.mk (Kd.N_elder' (by (with_reducible repeat (first | apply Kd.N_alloc | apply Kd.N_drewN | apply Kd.N_drew)); exact HO209.out) (Kd.N_base ho29) hb);have n2_ := Aside0.mk (Kd.N_lower ho29 (below_size (by repeat (first | (with_reducible first | exact HB.out | apply below_alloc | apply pw_below_drewN | apply below_drew1 | refine below_set ?_ GE195.out) | exact HB.out))));have n3_ := Aside0.mk (blk_below (g := gb195) (o := .cells #[.int .i64 a0_0, .int .i64 a0_1, .int .i64 a0_2, .int .i64 a0_3, .int .i64 a0_4, .int .i64 a0_5, .bool a0_6, .bool a0_7, .slice A0_8 l0_8.length c0_8] 61 (0, 0)) (by (with_reducible repeat (first | refine blk_drewN ?_ _ | refine blk_drew ?_ | refine blk_alloc ?_ _)); exact BK195.out) hb);have n4_ := Aside0.mk (below_step (by repeat (first | (with_reducible first | exact HB.out | apply below_alloc | apply pw_below_drewN | apply below_drew1 | refine below_set ?_ GE195.out) | exact HB.out)) hb);clear HO0_8;clear HO209;clear BK195;clear HB;clear HO212;clear HO216;have HO0_8 := n0_;have HO209 := n1_;have HO219 := n2_;have BK195 := n3_;have HB := n4_;clear n0_ n1_ n2_ n3_ n4_;clear hb ho29;obtain ⟨Ao30, co30, eo30⟩ := Kd.N_slice HO219.out
 (first | subst eo30 | (injection eo30 with f1_ f2_ f3_; have f4_ := f1_.symm; have f5_ := f3_.symm; clear f1_ f2_ f3_; subst f4_; subst f5_))
 refine hK.out _ _ ⟨(blk_cell BK195.out 0).trans rfl, (blk_cell BK195.out 1).trans rfl, (blk_cell BK195.out 2).trans rfl, (blk_cell BK195.out 3).trans rfl, (blk_cell BK195.out 4).trans rfl, (blk_cell BK195.out 5).trans rfl, (blk_cell BK195.out 6).trans rfl, (blk_cell BK195.out 7).trans rfl, (blk_cell BK195.out 8).trans rfl⟩ (fun hHeld => ?_);clear hK K;refine norm_ (a' := ?_) ?_ ?_;rotate_left; (focus (show Act.put _ (some 43) _ = _; simp only [Act.put, List.setIfInBounds_toArray, List.set_cons_zero, List.set_cons_succ, i64_w, i32_w]; rfl));refine one_ (i := 7) (N := some 44) (bitsA 9 255) rfl rfl (one_of HT_.out (by kernel_rfl)) (by decide) (fun K hK => ?_);refine goes_ Try.func69 (by kernel_rfl) rfl #[.slice Ao30 y217.length co30] (by rfl) rfl rfl (by (try simp only [List.map_toArray, List.map_cons, List.map_nil]); first | done | rfl | (simp only [List.length_drop, List.length_take]; rfl)) ?_
 with_reducible refine (slices_Concat_byte_byte.calls k _ _ y217 t220 _ ?side1 ?side2 A9.out).mono ?_
 (case side1 => repeat (first | exact (Kd.N_reads' HO219.out).2.2 | (with_reducible refine Kd.C_alloc ?_ _) | (with_reducible refine Kd.C_drewN ?_ _) | (with_reducible refine Kd.C_drew ?_)))
 (case side2 => exact (Kd.N_reads' HO219.out).2.1)
 rintro e w31 ⟨v221, rfl, ho0, hb⟩
 refine ⟨_, rfl, ?_⟩;have n0_ := Aside0.mk (Kd.V_elder' (by (with_reducible repeat (first | apply Kd.V_alloc | apply Kd.V_drewN | apply Kd.V_drew)); exact HO0_8.out) (Kd.R_base ho0) hb);have n1_ := Aside0.mk (Kd.N_elder' (by (with_reducible repeat (first | apply Kd.N_alloc | apply Kd.N_drewN | apply Kd.N_drew)); exact HO209.out) (Kd.R_base ho0) hb);have n2_ := Aside0.mk (Kd.N_elder' (by (with_reducible repeat (first | apply Kd.N_alloc | apply Kd.N_drewN | apply Kd.N_drew)); exact HO219.out) (Kd.R_base ho0) hb);have n3_ := Aside0.mk (Kd.R_lower (Kd.R_newM (M := fun k_ => (w.heap.size ≤ k_)) ho0 (below_size (by repeat (first | (with_reducible first | exact HB.out | apply below_alloc | apply pw_below_drewN | apply below_drew1 | refine below_set ?_ GE195.out) | exact HB.out))) (fun k_ h_ => h_)) (below_size (by repeat (first | (with_reducible first | exact HB.out | apply below_alloc | apply pw_below_drewN | apply below_drew1 | refine below_set ?_ GE195.out) | exact HB.out))));have n4_ := Aside0.mk (blk_below (g := gb195) (o := .cells #[.int .i64 a0_0, .int .i64 a0_1, .int .i64 a0_2, .int .i64 a0_3, .int .i64 a0_4, .int .i64 a0_5, .bool a0_6, .bool a0_7, .slice A0_8 l0_8.length c0_8] 61 (0, 0)) (by (with_reducible repeat (first | refine blk_drewN ?_ _ | refine blk_drew ?_ | refine blk_alloc ?_ _)); exact BK195.out) hb);have n5_ := Aside0.mk (below_step (by repeat (first | (with_reducible first | exact HB.out | apply below_alloc | apply pw_below_drewN | apply below_drew1 | refine below_set ?_ GE195.out) | exact HB.out)) hb);clear HO0_8;clear HO209;clear HO219;clear BK195;clear HB;have HO0_8 := n0_;have HO209 := n1_;have HO219 := n2_;have HO222 := n3_;have BK195 := n4_;have HB := n5_;clear n0_ n1_ n2_ n3_ n4_ n5_
 (try clear hb)
 (try clear hb2)
 (try clear hk)
 (try clear hi)
 (try clear ho0)
 refine hK.out _ _ ⟨(blk_cell BK195.out 0).trans rfl, (blk_cell BK195.out 1).trans rfl, (blk_cell BK195.out 2).trans rfl, (blk_cell BK195.out 3).trans rfl, (blk_cell BK195.out 4).trans rfl, (blk_cell BK195.out 5).trans rfl, (blk_cell BK195.out 6).trans rfl, (blk_cell BK195.out 7).trans rfl, (blk_cell BK195.out 8).trans rfl⟩ (fun hHeld => ?_);clear hK K;refine norm_ (a' := ?_) ?_ ?_;rotate_left; (focus (show Act.put _ (some 44) _ = _; simp only [Act.put, List.setIfInBounds_toArray, List.set_cons_zero, List.set_cons_succ, i64_w, i32_w]; rfl));refine pure_ (i := 8) (N := some 2) (v := ?_) (a' := ?_) (bitsA 9 511) rfl rfl (any_of HT_.out (by kernel_rfl)) (fun _ _ _ h => h) (Or.inl ⟨by rfl, ?_⟩) ?_ ?_;rotate_left; (focus (intro w'; go_simp; with_reducible rfl));rotate_left; (focus (simp only [Act.put, List.setIfInBounds_toArray, List.set_cons_zero, List.set_cons_succ, i64_w, i32_w]; rfl));refine done_ (done_of HT_.out (by kernel_rfl)) ?_
 try go_wp2
 go_ret;exact ⟨_, by first | rfl | (simp [errW_none, errW_some] <;> rfl) | (simp [*, errW_none, errW_some] <;> rfl), by (with_reducible repeat (first | apply Kd.R_alloc | apply Kd.R_drewN | apply Kd.R_drew)); exact Kd.R_mono HO222.out (fun _ hk => hk.1), by repeat (first | (with_reducible first | exact HB.out | apply below_alloc | apply pw_below_drewN | apply below_drew1 | refine below_set ?_ GE195.out) | exact HB.out)⟩

end Go.Proofs.Ytbjfnpjkldfeiaa.PFnPacketBytes

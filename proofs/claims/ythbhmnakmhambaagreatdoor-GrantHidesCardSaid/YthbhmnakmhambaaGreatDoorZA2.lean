/- Words of my own, of no program: slices in memory, boxes, a range over a function in a plain walk. Exact sets as plain data: insertion into rising numbers. No program in sight. Package exact: place, isAt, with. Package exact: with. slices.Values at uint64; package exact: each; a copy of numbers. Sets of ints as map[int]struct{}: run equations, of no program. A range over a function whose iterator keeps a variable of its own in a box (strings.SplitSeq): the kit's law of such a range, turned to that case. -/
import Derived.Maps.RangeWalk
import Derived.Maps.OwnSet
import Derived.Test.YthbhmnakmhambaaGreatDoorZXA
namespace Go.Proofs.YthbhmnakmhambaaGreatDoor
open Go Go.RowKit Go.Shelf
theorem box1 (w : World) (v0 : Value) (t0 : TypeId) : ∃ W, w.alloc (.cells #[v0] t0) = W ∧ Boxed W w.heap.size t0 v0 ∧ Below w.heap.size w W ∧ W.heap.size = w.heap.size + 1 :=
 ⟨_, rfl, Boxed.new w t0 v0, (Below.refl _ w).alloc (Nat.le_refl _) _, by simp⟩
theorem box2 (w : World) (v0 : Value) (t0 : TypeId) (v1 : Value) (t1 : TypeId) : ∃ W, (w.alloc (.cells #[v0] t0)).alloc (.cells #[v1] t1) = W ∧ Boxed W w.heap.size t0 v0 ∧ Boxed W (w.heap.size + 1) t1 v1 ∧ Below w.heap.size w W ∧ W.heap.size = w.heap.size + 2 := by
 obtain ⟨X, rfl, b0, hB, hs⟩ := box1 w v0 t0
 have b1 := Boxed.new (w.alloc (.cells #[v0] t0)) t1 v1
 rw [hs] at b1
 exact ⟨_, rfl, b0.alloc _, b1, hB.alloc hB.size _, by simp⟩
theorem box3 (w : World) (v0 : Value) (t0 : TypeId) (v1 : Value) (t1 : TypeId) (v2 : Value) (t2 : TypeId) : ∃ W, ((w.alloc (.cells #[v0] t0)).alloc (.cells #[v1] t1)).alloc (.cells #[v2] t2) = W ∧ Boxed W w.heap.size t0 v0 ∧ Boxed W (w.heap.size + 1) t1 v1 ∧ Boxed W (w.heap.size + 2) t2 v2 ∧ Below w.heap.size w W ∧ W.heap.size = w.heap.size + 3 := by
 obtain ⟨X, rfl, b0, b1, hB, hs⟩ := box2 w v0 t0 v1 t1
 have b2 := Boxed.new ((w.alloc (.cells #[v0] t0)).alloc (.cells #[v1] t1)) t2 v2
 rw [hs] at b2
 exact ⟨_, rfl, b0.alloc _, b1.alloc _, b2, hB.alloc hB.size _, by simp⟩
theorem box4 (w : World) (v0 : Value) (t0 : TypeId) (v1 : Value) (t1 : TypeId) (v2 : Value) (t2 : TypeId) (v3 : Value) (t3 : TypeId) : ∃ W, (((w.alloc (.cells #[v0] t0)).alloc (.cells #[v1] t1)).alloc (.cells #[v2] t2)).alloc (.cells #[v3] t3) = W ∧ Boxed W w.heap.size t0 v0 ∧ Boxed W (w.heap.size + 1) t1 v1 ∧ Boxed W (w.heap.size + 2) t2 v2 ∧ Boxed W (w.heap.size + 3) t3 v3 ∧ Below w.heap.size w W ∧ W.heap.size = w.heap.size + 4 := by
 obtain ⟨X, rfl, b0, b1, b2, hB, hs⟩ := box3 w v0 t0 v1 t1 v2 t2
 have b3 := Boxed.new (((w.alloc (.cells #[v0] t0)).alloc (.cells #[v1] t1)).alloc (.cells #[v2] t2)) t3 v3
 rw [hs] at b3
 exact ⟨_, rfl, b0.alloc _, b1.alloc _, b2.alloc _, b3, hB.alloc hB.size _, by simp⟩
theorem bxPut {W : World} {B D : Nat} {t : TypeId} {v : Value} (h : Boxed W B t v) {o : Obj} (hK : W.heap[D]? = some o) (ho : o.isCells = false) (o' : Obj) : Boxed (W.putObj D o') B t v :=
 h.kept (grownBy_putObj' W D o') (fun e => by cases e; have := (show W.heap[B]? = _ from h).symm.trans hK; cases this; cases ho)
theorem dfSet {W : World} {D : Nat} (hK : W.heap[D]? = some (.deferred (some []))) (a : Addr) (v : Value) : (W.setCell a v).heap[D]? = some (.deferred (some [])) := (KeepsOthers.setCell W a v).same D _ hK rfl
theorem wpIn_append_eq {F : Fence} {n : Nat} {P : Program} {w : World} {ops : Array Oper} {rest : List Oper} {o : Oper} {a : Act} {Q : Exit → Act → World → Prop} (hgd : o.guard = none) (s x : Operand) (t : TypeId)
  (hop : o.op = .call { callee := .builtin .append, args := #[s, x], argTypes := #[t, t] }) {v xv v' : Value} {w' : World} (hs : a.eval s = v) (hx : a.eval x = xv)
  (hr : (Builtin.append_ #[t, t] o.type #[v, xv]).run P w = .ok v' w') (h : wpListIn F n P ops Q rest (a.put o.dst v') w') : wpListIn F n P ops Q (o :: rest) a w := by
 refine wpListIn_plain hgd fun K hK' => ?_
 unfold Oper.wpIn
 refine ⟨?_, ?_⟩
 ·simp [Oper.about, hop, resolve, Target.leads, Sem.run_pure]
 ·rw [Oper.semAt_plain F _ _ (by rw [hop]; intro c hc'; cases hc')]
  simp [execOp, hop, resolve, invoke, builtin, hs, hx, hr, Result.andThen]
  exact hK' _ _ h
end Go.Proofs.YthbhmnakmhambaaGreatDoor
namespace Go.Proofs.YthbhmnakmhambaaGreatDoor
open Go Go.RowKit
def insR : List Int → Int → List Int
 | [], n => [n]
 | x :: xs, n => if x < n then x :: insR xs n else if x = n then x :: xs else n :: x :: xs
theorem exPlace_le (l : List Int) (n : Int) : exPlace l n ≤ l.length := List.countP_le_length
theorem exIns_eq : ∀ (l : List Int) (n : Int), Up l → exIns l n = insR l n
 | [], n, _ => by simp [exIns, insR, exPlace]
 | x :: xs, n, h => by
  obtain ⟨h1, h2⟩ := up_tail h
  have ih := exIns_eq xs n h1
  unfold exIns insR
  by_cases hx : x < n
  ·have hp : exPlace (x :: xs) n = exPlace xs n + 1 := by simp [exPlace, hx]
   rw [hp, if_pos hx, ← ih]
   unfold exIns
   simp only [List.getElem?_cons_succ, List.take_succ_cons, List.drop_succ_cons]
   split
   ·rfl
   ·rfl
  ·have hp : exPlace (x :: xs) n = 0 := by
    unfold exPlace
    rw [List.countP_eq_zero]
    intro y hy
    rcases List.mem_cons.1 hy with rfl | hy
    ·simpa using hx
    ·have := h2 y hy
     simp; omega
   rw [hp, if_neg hx]
   simp only [List.getElem?_cons_zero, Option.some.injEq, List.take_zero, List.drop_zero, List.nil_append]
theorem insR_mem : ∀ (l : List Int) (n y : Int), y ∈ insR l n ↔ y = n ∨ y ∈ l
 | [], n, y => by simp [insR]
 | x :: xs, n, y => by
  unfold insR
  split
  ·rw [List.mem_cons, insR_mem xs n y, List.mem_cons]
   constructor
   ·rintro (h | h | h) <;> simp [h]
   ·rintro (h | h | h) <;> simp [h]
  ·split
   ·rename_i h1 h2
    subst h2
    simp
   ·simp
theorem insR_up : ∀ (l : List Int) (n : Int), Up l → Up (insR l n)
 | [], n, _ => by simp [insR]
 | x :: xs, n, h => by
  obtain ⟨h1, h2⟩ := up_tail h
  unfold insR
  split
  ·rename_i hx
   refine List.pairwise_cons.2 ⟨fun y hy => ?_, insR_up xs n h1⟩
   rcases (insR_mem xs n y).1 hy with rfl | hy
   ·exact hx
   ·exact h2 y hy
  ·split
   ·exact h
   ·rename_i h3 h4
    refine List.pairwise_cons.2 ⟨fun y hy => ?_, h⟩
    rcases List.mem_cons.1 hy with rfl | hy
    ·omega
    ·have := h2 y hy; omega
theorem exGather_snoc : ∀ (r : List Int) (l : List Int) (n : Int), exGather l (r ++ [n]) = (exGather l r).bind fun m => if 64 < (exIns m n).length then none else some (exIns m n)
 | [], l, n => by simp [exGather]
 | x :: r, l, n => by
  simp only [List.cons_append, exGather]
  split
  ·rfl
  ·exact exGather_snoc r _ n
end Go.Proofs.YthbhmnakmhambaaGreatDoor
namespace Go.Proofs
open Go.Shelf
def Tryz.laysO16_ren : Go.Shelf.Ren := ⟨fun | 16 => 213 | n => n, fun | 3 => 3 | 4 => 4 | 35 => 118 | 38 => 273 | n => n, fun | n => n⟩
theorem Tryz.laysO16 : Go.Proofs.SlLaysO.n16 Tryz.prog Tryz.laysO16_ren := {
 mixed := by kernel_rfl
 f16 := Tryz.func213.trans (congrArg some (by kernel_rfl))
 t3 := by kernel_rfl
 a3 := fun w => by kernel_rfl
 z3 := fun w => by kernel_rfl
 v3 := fun w => by kernel_rfl
 t4 := by kernel_rfl
 a4 := fun w => by kernel_rfl
 z4 := fun w => by kernel_rfl
 v4 := fun w => by kernel_rfl
 t35 := by kernel_rfl
 a35 := fun w => by kernel_rfl
 z35 := fun w => by kernel_rfl
 v35 := fun w => by kernel_rfl
 t38 := by kernel_rfl
 a38 := fun w => by kernel_rfl
 z38 := fun w => by kernel_rfl
 v38 := fun w => by kernel_rfl }
end Go.Proofs
namespace Go.Proofs.YthbhmnakmhambaaGreatDoor
open Go Go.RowKit Go.Shelf Go.Lib Go.Sort
set_option maxRecDepth 100000 in
set_option maxHeartbeats 1000000 in
theorem place1_any (b0 b1 b off len cap i : Nat) (n x : Int) (w : World) (h0 : w.cell? ⟨b0, 0, none⟩ = some (.slice (some ⟨b, off, none⟩) len cap)) (h1 : w.cell? ⟨b1, 0, none⟩ = some (.int .u64 n)) (hx : w.cell? ⟨b, off + i, none⟩ = some (.int .u64 x)) (hi : (i : Int) < len) :
  Calls Tryz.prog 214 #[.int .i64 i, .pointer (some ⟨b0, 0, none⟩), .pointer (some ⟨b1, 0, none⟩)] w fun e w' => e = .returned (.bool (decide (n ≤ x))) ∧ ∃ q, w' = w.drewN q := by
 go_enter Tryz.func214, Tryz.ntmps214
 go_wp2_with fail
 go_quiet (fail)
 go_wp2_with fail
 go_ret
 exact ⟨rfl, _, rfl⟩
theorem grow_nil' (w : World) : grow w #[] = w := by
 cases w
 simp [grow]
theorem place_count (l : List Int) (n : Int) : (List.range l.length).countP (fun i => !decide (n ≤ l.getD i 0)) = exPlace l n := by
 have h : l = (List.range l.length).map (fun i => l.getD i 0) := by
  apply List.ext_getElem?
  intro i
  by_cases hi : i < l.length
  ·simp [hi]
  ·simp [hi]
 unfold exPlace
 conv => rhs; rw [h]
 rw [List.countP_map]
 congr 1
 funext i
 simp only [Function.comp]
 rw [Bool.eq_iff_iff]
 simp
set_option maxRecDepth 100000 in
set_option maxHeartbeats 2000000 in
theorem place_any (l : List Int) (a : Option Addr) (len cap : Nat) (n : Int) (w : World) (hL : SlE encU 1 w.heap.size w a len l) (hu : Up l) (hlen : len ≤ 1000) :
  Calls Tryz.prog 210 #[.slice a len cap, .int .u64 n] w fun e w' => e = .returned (.int .i64 (exPlace l n : Nat)) ∧ Below w.heap.size w w' := by
 have hll := hL.1
 obtain ⟨W0, hW0, hX0, hX1, hB0, hs0⟩ := boxes2 w #[.slice a len cap] 28 #[.int .u64 n] 41
 have hS := Any.sort_Search Tryz.laysO16 214 #[.pointer (some ⟨w.heap.size, 0, none⟩), .pointer (some ⟨w.heap.size + 1, 0, none⟩)] len (fun i => decide (n ≤ l.getD i 0)) W0 (enters_of Tryz.func214 (by kernel_rfl) rfl) (by omega)
  (fun m os i hi => by
   obtain ⟨x, hx⟩ : ∃ x, l[i]? = some x := ⟨_, List.getElem?_eq_getElem (by omega)⟩
   obtain ⟨b, off, rfl, hb, hc⟩ := hL.2 i x hx
   have hcx : W0.cell? ⟨b, off + i, none⟩ = some (.int .u64 x) := by
    have h1 := hc 0 (by omega)
    rw [Nat.mul_one] at h1
    exact (hB0.cell (p := ⟨b, off + i, none⟩) hb).trans h1
   have hg : l.getD i 0 = x := by simp [List.getD_eq_getElem?_getD, hx]
   have hgr : ∀ k (o : Nat) v, k < W0.heap.size → W0.cell? ⟨k, o, none⟩ = some v → (grow (W0.drewN m) os).cell? ⟨k, o, none⟩ = some v := fun k o v hk hv => cell_grown (a := ⟨k, o, none⟩) hk hv m os
   refine (place1_any w.heap.size (w.heap.size + 1) b off len cap i n x _ (hgr _ _ _ (by omega) (cCc hX0 0)) (hgr _ _ _ (by omega) (cCc hX1 0)) (hgr _ _ _ (by omega) hcx) (by omega)).mono fun e w' h => ?_
   obtain ⟨h1, q, h2⟩ := h
   exact ⟨by rw [h1, hg], q, #[], by rw [h2, grow_nil']⟩)
  (fun i j hij hj hi => by
   have h1 : l.getD i 0 ≤ l.getD j 0 := by
    rcases Nat.lt_or_eq_of_le hij with h | rfl
    ·have := List.pairwise_iff_getElem.1 hu i j (by omega) (by omega) h
     rw [List.getD_eq_getElem?_getD, List.getD_eq_getElem?_getD, List.getElem?_eq_getElem (by omega), List.getElem?_eq_getElem (by omega)]
     simp only [Option.getD_some]
     omega
    ·exact Int.le_refl _
   simp only [decide_eq_true_eq] at hi ⊢
   omega)
 rw [hll, place_count] at hS
 rw [hll] at hW0 ⊢
 have k0 : W0.cell? ⟨w.heap.size, 0, none⟩ = some (.slice a l.length cap) := by rw [← hll]; exact cCc hX0 0
 have k1 : W0.cell? ⟨w.heap.size + 1, 0, none⟩ = some (.int .u64 n) := cCc hX1 0
 clear hL hu hX0 hX1
 go_enter Tryz.func210, Tryz.ntmps210
 go_wp2_with (go_at_call 213; refine hS.mono ?_; rintro e w1 ⟨rfl, q, os, rfl⟩)
 go_ret
 exact ⟨rfl, hB0.trans (below_grown_sl _ _ _ _ (by omega))⟩
set_option maxRecDepth 100000 in
set_option maxHeartbeats 1000000 in
theorem isAt_any (l : List Int) (a : Option Addr) (len cap k : Nat) (n : Int) (w : World) (hL : SlE encU 1 w.heap.size w a len l) (hk : k ≤ len) :
  Calls Tryz.prog 211 #[.slice a len cap, .int .i64 k, .int .u64 n] w fun e w' => e = .returned (.bool (decide (l[k]? = some n))) ∧ Below w.heap.size w w' := by
 have hll := hL.1
 by_cases hlt : k < len
 ·obtain ⟨x, hx⟩ : ∃ x, l[k]? = some x := ⟨_, List.getElem?_eq_getElem (by omega)⟩
  obtain ⟨b, off, rfl, hb, hc⟩ := hL.2 k x hx
  have c0 : w.cell? ⟨b, off + k, none⟩ = some (.int .u64 x) := by have h1 := hc 0 (by omega); rwa [Nat.mul_one] at h1
  have hd : decide (l[k]? = some n) = (x == n) := by rw [hx, Bool.eq_iff_iff]; simp
  have hlt2 : (k : Int) < len := by omega
  rw [hd]
  clear hL hx hd hc hll
  go_enter Tryz.func211, Tryz.ntmps211
  go_wp2_with fail
  go_ret
  exact ⟨rfl, RowKit.Below.refl _ _⟩
 ·have hd : decide (l[k]? = some n) = false := by rw [List.getElem?_eq_none (by omega)]; simp
  have hlt2 : decide ((k : Int) < len) = false := by simp; omega
  rw [hd]
  clear hL hd hll hk
  go_enter Tryz.func211, Tryz.ntmps211
  go_wp2_with fail
  go_ret
  exact ⟨rfl, RowKit.Below.refl _ _⟩
end Go.Proofs.YthbhmnakmhambaaGreatDoor
namespace Go.Proofs.YthbhmnakmhambaaGreatDoor
open Go Go.RowKit Go.Shelf
theorem app_cut {w : World} {a : Option Addr} {len k : Nat} {l : List Int} (hL : SlE encU 1 w.heap.size w a len l) (hk : k ≤ len) (hn : a = none → k = 0) (hlen : len ≤ 100000) (n : Int) :
  ∃ g cap w1, (Builtin.append_ #[28, 28] 28 #[.slice a k k, .slice (some ⟨w.heap.size, 0, none⟩) 1 1]).run Tryz.prog (w.alloc (.cells #[.int .u64 n] 41)) = .ok (.slice (some ⟨g, 0, none⟩) (k + 1) cap) w1 ∧
   w1.ownsRow w.heap.size 41 1 (.slice (some ⟨g, 0, none⟩) (k + 1) cap) (k + 1) ((l.take k ++ [n]).flatMap encU) ∧ Below w.heap.size w w1 ∧ w.heap.size < w1.heap.size := by
 have hll := hL.1
 obtain ⟨i0, hi, hz0, hz1, hz2⟩ := info_parts info_u64
 have hB : Below w.heap.size w (w.alloc (.cells #[.int .u64 n] 41)) := (Below.refl _ w).alloc (Nat.le_refl _) _
 have hz : (w.alloc (.cells #[.int .u64 n] 41)).heap.size = w.heap.size + 1 := by simp
 have hfl : ∀ (m : List Int), (m.flatMap encU).length = m.length := fun m => by rw [flat_len encU 1 (fun _ => rfl), Nat.mul_one]
 cases a with
 | none =>
  obtain rfl := hn rfl
  obtain ⟨g, cap, w1, h1, h2, h3, h4, -, -⟩ := append_one Tryz.prog 28 und_u64 info_u64 rfl (by decide) (W := w) (World.ownsRow_nil w w.heap.size 41 1) (Below.refl w.heap.size w) (Nat.le_refl _) (Nat.le_refl _) [.int .u64 n] rfl (by simp [Value.oneCell']) (by omega) (by decide)
  exact ⟨g, cap, w1, h1, h2, h3, h4⟩
 | some p =>
  obtain ⟨v', w1, h1, h2, h3⟩ := run_append_arg_grows (P := Tryz.prog) (w := w.alloc (.cells #[.int .u64 n] 41)) 28 28 41 i0 (.int .u64 0) 1 8 und_u64 hi hz0 hz1 hz2 rfl (by decide)
   p k k ((l.take k).flatMap encU) (by rw [hfl, List.length_take]; omega) (fun j u hj => by
    have hjk : j < k := by have h := (List.getElem?_eq_some_iff.1 hj).1; rw [hfl, List.length_take] at h; omega
    obtain ⟨x, hx⟩ : ∃ x, l[j]? = some x := ⟨_, List.getElem?_eq_getElem (by omega)⟩
    obtain ⟨b, off, e, hb, hc⟩ := hL.2 j x hx
    cases e
    have h5 := flat_cell encU 1 (fun _ => rfl) (l.take k) j 0 x (by rw [List.getElem?_take_of_lt hjk]; exact hx) (by omega)
    rw [Nat.mul_one, Nat.add_zero] at h5
    rw [h5] at hj
    have h6 := hc 0 (by omega)
    rw [Nat.mul_one, Nat.add_zero] at h6
    rw [show (⟨b, off, none⟩ : Addr).add j = ⟨b, off + j, none⟩ by unfold Addr.add; split <;> simp_all]
    exact ((hB.cell (p := ⟨b, off + j, none⟩) hb).trans h6).trans hj)
   ⟨w.heap.size, 0, none⟩ 1 1 [.int .u64 n] rfl (fun j u hj => by
    have hj0 : j = 0 := by have h := (List.getElem?_eq_some_iff.1 hj).1; simp at h; exact h
    subst hj0
    rw [show (⟨w.heap.size, 0, none⟩ : Addr).add 0 = ⟨w.heap.size, 0, none⟩ by unfold Addr.add; split <;> simp_all, cCc (World.alloc_heap_new w _)]
    simpa using hj) (by omega) (by unfold maxLen; omega) (by omega)
  obtain ⟨g, cap, rfl⟩ := ownsRow_succ h2
  refine ⟨g, cap, w1, h1, ?_, hB.grown h3 (by omega) (fun k e => by cases e), by have := h3.size; omega⟩
  rw [List.flatMap_append]
  exact owns_base h2 (by omega)
theorem cut_u64 (a : Option Addr) (len cap k : Nat) (w : World) (h : k ≤ cap) : (Instr.slice 28 (.slice a len cap) none (some (.int .i64 (k : Int))) (some (.int .i64 (k : Int)))).run Tryz.prog w = .ok (.slice a k k) w := by
 have hz := dropA_zero a k 1
 unfold dropA at hz
 have hs : (sizeOf 41).run Tryz.prog w = .ok 1 w := by kernel_rfl
 have he : Tryz.prog.elem 28 = 41 := by kernel_rfl
 rw [run_slice_hm (t := 28) (a := a) (len := len) (cap := cap) (w := w) (ht := by rw [he]; exact und_u64) (kh := .i64) (km := .i64) (h := (k : Int)) (m := (k : Int)) (by omega) (by omega) (by omega), he, hs]
 simp only [Result.andThen, sliced, Int.toNat_natCast, Nat.sub_zero, hz]
theorem from_u64 (a : Option Addr) (len cap k : Nat) (w : World) (h : k ≤ len) : (Instr.slice 28 (.slice a len cap) (some (.int .i64 (k : Int))) none none).run Tryz.prog w = .ok (.slice (dropA a cap k 1) (len - k) (cap - k)) w := by
 have hs : (sizeOf 41).run Tryz.prog w = .ok 1 w := by kernel_rfl
 have he : Tryz.prog.elem 28 = 41 := by kernel_rfl
 rw [run_slice_l (t := 28) (a := a) (len := len) (cap := cap) (w := w) (ht := by rw [he]; exact und_u64) (kl := .i64) (l := (k : Int)) (by omega) (by omega), he, hs]
 simp only [Result.andThen, sliced, Int.toNat_natCast, dropA]
def WithPost (l : List Int) (n : Int) (a : Option Addr) (w : World) (e : Ending) (w' : World) : Prop :=
 ∃ a' cap', e = .returned (.slice a' (exIns l n).length cap') ∧ SlC encU 1 w'.heap.size w' a' (exIns l n).length cap' (exIns l n) ∧ (a' = a ∨ ∀ x, a' = some x → w.heap.size ≤ x.block) ∧ Below w.heap.size w w'
attribute [-go_sem] Builtin.append_ run_slice_any run_slice_hm run_slice_l
set_option maxRecDepth 100000 in
set_option maxHeartbeats 1000000 in
theorem with_any (l : List Int) (a : Option Addr) (len cap : Nat) (n : Int) (w : World) (hL : SlC encU 1 w.heap.size w a len cap l) (hu : Up l) (hlen : len ≤ 1000) :
  Calls Tryz.prog 207 #[.slice a len cap, .int .u64 n] w (WithPost l n a w) := by
 have hll := hL.1.1
 have hkl := exPlace_le l n
 have hP := place_any l a len cap n w hL.1 hu hlen
 obtain ⟨k, hk⟩ : ∃ k, exPlace l n = k := ⟨_, rfl⟩
 rw [hk] at hkl hP
 have HI : Hid (∀ w1, Below w.heap.size w w1 → Calls Tryz.prog 211 #[.slice a len cap, .int .i64 k, .int .u64 n] w1 fun e w' => e = .returned (.bool (decide (l[k]? = some n))) ∧ Below w1.heap.size w1 w') := fun w1 hb => isAt_any l a len cap k n w1 ((hL.1.below hb).mono hb.size) (by omega)
 by_cases hat : l[k]? = some n
 ·have hin : exIns l n = l := by unfold exIns; rw [hk, if_pos hat]
  unfold WithPost
  rw [hin, ← hll]
  rw [decide_eq_true hat] at HI
  have HL := Lib.hid hL
  clear hL hu hat hin hll hkl hk
  go_enter Tryz.func207, Tryz.ntmps207
  go_wp2_with fail
  refine hP.mono ?_
  rintro e w1 ⟨rfl, hb1⟩
  go_wp2_with fail
  refine (HI.out w1 hb1).mono ?_
  rintro e w2 ⟨rfl, hb2⟩
  go_wp2_with fail
  go_ret
  have hb := hb1.trans (hb2.mono hb1.size)
  exact ⟨a, cap, rfl, (HL.out.below hb).mono hb.size, .inl rfl, hb⟩
 ·have hin : exIns l n = l.take k ++ n :: l.drop k := by unfold exIns; rw [hk, if_neg hat]
  unfold WithPost
  rw [hin]
  rw [decide_eq_false hat] at HI
  have HL := Lib.hid hL
  have hcut := fun w1 => cut_u64 a len cap k w1 (by have := hL.2.1; omega)
  have hfrom := fun w1 => from_u64 a len cap k w1 (by omega)
  have HN : Hid (a = none → k = 0) := fun h => by have := hL.2.2.2.1 h; have := hL.2.1; omega
  have HK : Hid (k ≤ len) := by rw [hll]; exact hkl
  have HZ := Lib.hid hlen
  have HLL := Lib.hid hll
  clear hL hu hat hin hll hkl hk
  go_enter Tryz.func207, Tryz.ntmps207
  go_wp2_with fail
  refine hP.mono ?_
  rintro e w1 ⟨rfl, hb1⟩
  go_wp2_with fail
  refine (HI.out w1 hb1).mono ?_
  rintro e w2 ⟨rfl, hb2⟩
  have hb12 := hb1.trans (hb2.mono hb1.size)
  have HL2 := Lib.hid ((HL.out.below hb12).mono hb12.size)
  obtain ⟨g, c3, w3, hap3, hO3, hB3, hz3⟩ := app_cut HL2.out.1 HK.out HN.out (by have := HZ.out; omega) n
  have HD := Lib.hid (((HL2.out.below hB3).mono hB3.size).drop k HK.out)
  obtain ⟨v4, w4, hap4, hO4, hB4, hz4, -, -⟩ := append_elems Tryz.prog (cap := cap - k) 28 und_u64 info_u64 rfl (by decide) hO3 hB3 (Nat.le_refl _) (Nat.le_of_lt hz3) (fun _ => rfl) HD.out.1 one_u64 (by have := HK.out; have := HZ.out; omega) (by have := HZ.out; omega) (by decide)
  have HO4 := Lib.hid hO4
  have HB12 := Lib.hid hb12
  clear HD hO3 hO4
  go_wp2_with fail
  go_ret
  have hO : w4.ownsRow w2.heap.size 41 1 v4 (l.take k ++ n :: l.drop k).length ((l.take k ++ n :: l.drop k).flatMap encU) := by
   have h1 := HO4.out
   rw [← List.flatMap_append, List.append_assoc, List.singleton_append] at h1
   have h2 : (l.take k ++ n :: l.drop k).length = k + 1 + (len - k) := by
    have := HK.out
    have := HLL.out
    rw [List.length_append, List.length_take, List.length_cons, List.length_drop]
    omega
   rw [h2]
   exact h1
  obtain ⟨a', cap', hv, hS, hbl⟩ := slC_of_owns (enc := encU) (fun _ => rfl) hO
  exact ⟨a', cap', by rw [← hv]; rfl, hS, .inr (fun x hx => Nat.le_trans HB12.out.size (hbl x hx)), HB12.out.trans (hB4.mono HB12.out.size)⟩
end Go.Proofs.YthbhmnakmhambaaGreatDoor
namespace Go.Proofs.YthbhmnakmhambaaGreatDoor
open Go Go.RowKit Go.Shelf
attribute [local go_sem] Oper.semAt_some
theorem copy_u64 {W : World} {g len cap n₀ : Nat} {cur : Array Value} {a : Option Addr} {l : List Int} (hg : W.heap[g]? = some (.cells cur 41 (0, 0))) (hcur : cur.size = len) (hL : SlE encU 1 n₀ W a len l) (hn : a = none → len = 0) :
  ∃ W2, (Builtin.copy_ #[28, 28] 3 #[.slice (some ⟨g, 0, none⟩) len len, .slice a len cap]).run Tryz.prog W = .ok (.int .i64 len) W2 ∧ W2.heap[g]? = some (.cells (l.flatMap encU).toArray 41 (0, 0)) ∧ Below g W W2 ∧ W2.heap.size = W.heap.size ∧ ∀ k, k ≠ g → W2.heap[k]? = W.heap[k]? := by
 have hll := hL.1
 have hfl : (l.flatMap encU).length = len := by rw [flat_len encU 1 (fun _ => rfl), Nat.mul_one, hll]
 have hs : (Tryz.prog.info? 41).map (·.size) = some 1 := by kernel_rfl
 rcases Nat.eq_zero_or_pos len with h0 | hpos
 ·subst h0
  have hl : l = [] := List.eq_nil_of_length_eq_zero hll.symm
  subst hl
  have hc : cur = #[] := Array.eq_empty_of_size_eq_zero hcur
  subst hc
  exact ⟨W, by rw [run_copy_none W _ _ _ 41 _ _ _ _ _ _ und_u64 hs (by simp)]; rfl, hg, Below.refl _ _, rfl, fun _ _ => rfl⟩
 ·obtain ⟨x, b, off, hx, rfl, hb, -⟩ := hL.at hpos
  have hr := run_copy_row (P := Tryz.prog) W 28 28 3 41 g 0 len len ⟨b, off, none⟩ len cap cur 41 (l.flatMap encU) und_u64 hs hg (by rw [hfl]; simp)
   (fun j v hj => by
    have hjl : j < l.length := by have h := (List.getElem?_eq_some_iff.1 hj).1; rw [hfl] at h; omega
    obtain ⟨y, hy⟩ : ∃ y, l[j]? = some y := ⟨_, List.getElem?_eq_getElem hjl⟩
    obtain ⟨b', off', e, hb', hc⟩ := hL.2 j y hy
    cases e
    have h5 := flat_cell encU 1 (fun _ => rfl) l j 0 y hy (by omega)
    rw [Nat.mul_one, Nat.add_zero] at h5
    rw [h5] at hj
    have h6 := hc 0 (by omega)
    rw [Nat.mul_one, Nat.add_zero] at h6
    rw [show (⟨b, off, none⟩ : Addr).add j = ⟨b, off + j, none⟩ by unfold Addr.add; split <;> simp_all]
    exact h6.trans hj) (by rw [hfl, hcur]; omega) (fun v hv => by
    obtain ⟨y, -, hy⟩ := List.mem_flatMap.1 hv
    exact one_u64 y v hy)
  have hrow : (cur.toList.take 0 ++ l.flatMap encU ++ cur.toList.drop (0 + (l.flatMap encU).length)).toArray = (l.flatMap encU).toArray := by
   rw [List.take_zero, List.nil_append, Nat.zero_add, hfl, List.drop_eq_nil_of_le (by rw [Array.length_toList, hcur]; exact Nat.le_refl _), List.append_nil]
  rw [hrow] at hr
  exact ⟨_, by rw [hr, hfl]; rfl, setRow_heap W g cur _ _ _ hg, below_setRow (Below.refl _ _) (Nat.le_refl _) _, size_setRow _ _ _, fun k hk => setRow_other W g k _ hk⟩
theorem exEach_any (a : Option Addr) (len cap : Nat) (w : World) :
  Calls Tryz.prog 206 #[.slice a len cap] w fun e w' => e = .returned (.func (.func 208) #[] #[.pointer (some ⟨w.heap.size, 0, none⟩)]) ∧ w' = w.alloc (.cells #[.slice a len cap] 28) := by
 go_enter Tryz.func206, Tryz.ntmps206
 go_wp2_with (go_at_call 203; refine (slicesValues_any a len cap w).mono ?_; rintro e w' ⟨rfl, rfl⟩)
 go_ret
 exact ⟨rfl, rfl⟩
set_option maxRecDepth 100000 in
set_option maxHeartbeats 1000000 in
theorem values1_u64 (l Bs n₀ b off cap : Nat) (ls : List Int) (hreach : ls.length < 4294967281) (J Jx : List Int → World → Prop)
  (hY : ∀ pre x W, J pre W → pre.length < ls.length → YieldAt Fence.wide 7 Tryz.prog l #[.int .u64 x] W fun e W' =>
   (e = .returned (.bool true) ∧ J (pre ++ [x]) W' ∧ Below n₀ W W') ∨ (e = .returned (.bool false) ∧ Jx (pre ++ [x]) W'))
  (W : World) (hBs : W.cell? ⟨Bs, 0, none⟩ = some (.slice (some ⟨b, off, none⟩) ls.length cap)) (hc : SlE encU 1 n₀ W (some ⟨b, off, none⟩) ls.length ls) (h0 : J [] W) :
  CallsIn Fence.wide 8 Tryz.prog 208 #[.func (.yield l) #[] #[], .pointer (some ⟨Bs, 0, none⟩)] W fun e W' => (∃ v, e = .returned v) ∧
   ((∃ ys, ys = ls ∧ J ys W') ∨ (∃ pre, pre <+: ls ∧ Jx pre W')) := by
 refine callsIn_of_wp Tryz.func208 rfl trivial ?_ rfl
 simp only [Tryz.ntmps208, List.size_toArray, List.length_cons, List.length_nil, Nat.reduceAdd, Nat.reduceSub, Array.replicate_succ, Array.replicate_zero, List.push_toArray, List.append_toArray, List.nil_append, List.cons_append]
 gi_wp2
 gi_loopw [7] (fun i wr => ∃ k : Nat, k ≤ ls.length ∧ i = .int .i64 k ∧ J (ls.take k) wr ∧ Below n₀ W wr) (fun i _ => ls.length - (intOf i).toNat)
 case atStart => exact ⟨0, Nat.zero_le _, rfl, h0, Below.refl _ _⟩
 case round =>
  obtain ⟨k, hk, rfl, hJs, hnx⟩ := hrel
  by_cases hlt : k < ls.length
  ·obtain ⟨x, hx⟩ : ∃ x, ls[k]? = some x := ⟨_, List.getElem?_eq_getElem hlt⟩
   obtain ⟨b9, off9, e9, hb, hc0⟩ := (SlE.below hnx hc).2 k x hx
   cases e9
   have c0 : wr.cell? ⟨b, off + k, none⟩ = some (.int .u64 x) := by have h1 := hc0 0 (by omega); rwa [Nat.mul_one] at h1
   obtain ⟨fn, tmps, assign, body, hy, hR⟩ := hY _ x _ hJs (by simp; omega)
   clear hc0
   have HX := Lib.hid hx
   clear hx
   gi_wp2
   refine hR.mono ?_
   rintro e W3 (⟨rfl, hJ3, hk3⟩ | ⟨rfl, hJx3⟩)
   ·gi_wp2
    go_roundw
    case rel => exact ⟨k + 1, by omega, by simp, by rw [List.take_add_one, HX.out]; exact hJ3, hnx.trans hk3⟩
    case measure => simp [intOf]; omega
   ·gi_wp2
    refine bodyPost_ret (results_none rfl _ _ _) rfl ?_
    exact ⟨⟨_, rfl⟩, .inr ⟨_, by have h := List.take_prefix (k + 1) ls; rwa [List.take_add_one, HX.out] at h, hJx3⟩⟩
  ·obtain rfl : k = ls.length := by omega
   gi_wp2
   go_end0
   exact ⟨⟨_, rfl⟩, .inl ⟨_, List.take_length, hJs⟩⟩
theorem values_u64 (Bs n₀ : Nat) (a : Option Addr) (len cap : Nat) (ls : List Int) (hreach : len < 4294967281) (w : World) (hBs : Bs < w.heap.size) (hn₀ : n₀ ≤ w.heap.size)
  (hc : w.cell? ⟨Bs, 0, none⟩ = some (.slice a len cap)) (hI : SlE encU 1 n₀ w a len ls) :
  SeqStopsK Fence.wide 8 Tryz.prog 208 #[.pointer (some ⟨Bs, 0, none⟩)] (fun x : Int => #[.int .u64 x]) (Below n₀) (fun ys => ys = ls) (fun pre => pre <+: ls) ls.length w := fun l J Jx W hW _ _ hY h0 => by
 have hc' := (hW.cell (p := ⟨Bs, 0, none⟩) hBs).trans hc
 have hI' : SlE encU 1 n₀ W a len ls := hI.below (hW.mono hn₀)
 have hll := hI'.1
 rcases Nat.eq_zero_or_pos len with h | h
 ·obtain rfl : ls = [] := List.eq_nil_of_length_eq_zero (by omega)
  rw [h] at hc'
  exact (values1_u64_nil l Bs a cap J W hc' h0).mono fun e W' ⟨he, hj⟩ => ⟨he, .inl ⟨_, rfl, hj⟩⟩
 ·obtain ⟨x, b, off, -, rfl, -, -⟩ := hI'.at h
  rw [hll] at hc' hI'
  exact values1_u64 l Bs n₀ b off cap ls (by omega) J Jx hY W hc' hI' h0
end Go.Proofs.YthbhmnakmhambaaGreatDoor
namespace Go.Proofs.YthbhmnakmhambaaGreatDoor
open Go Go.RowKit Go.Shelf Go.Maps
def wfI (i : Int) : Prop := (Lit.int .i64 i).wf = true
theorem wfI_of {i : Int} (h0 : -9223372036854775808 ≤ i) (h1 : i ≤ 9223372036854775807) : wfI i := WalkArith.wf_i64 ⟨h0, h1⟩
def SetAt (P : Program) (kt : TypeId) (w : World) (b n : Nat) (S : Int → Bool) : Prop :=
 ∃ D : DataW Unit, w.ownsMap P kt unitElem b n D ∧ ∀ i, wfI i → Maps.has D (.int .i64 i) = S i
section
variable {P : Program} {kt mt et : TypeId} (hk : P.underlying kt = some (.int .i64)) (hm : P.underlying mt = some (.map kt et)) (hz : ∀ w, (zeroValue et).run P w = .ok (.agg #[]) w)
theorem setAt_new (w : World) : SetAt P kt (w.alloc (.map #[] 0)) w.heap.size 0 (fun _ => false) :=
 ⟨_, World.ownsMap_made w P kt unitElem, fun _ _ => rfl⟩
theorem SetAt.kept {w w' : World} {b n : Nat} {S : Int → Bool} {row : Option Nat} (h : SetAt P kt w b n S) (hg : w.grownBy w' row) (hne : some b ≠ row) : SetAt P kt w' b n S :=
 let ⟨D, h1, h2⟩ := h; ⟨D, h1.kept hg hne, h2⟩
theorem SetAt.lt {w : World} {b n : Nat} {S : Int → Bool} (h : SetAt P kt w b n S) : b < w.heap.size := let ⟨_, h1, _⟩ := h; h1.lt
theorem SetAt.below {w w' : World} {B b n : Nat} {S : Int → Bool} (h : SetAt P kt w b n S) (hb : Below B w w') (hB : b < B) : SetAt P kt w' b n S := by
 obtain ⟨D, ⟨es, clock, h1, h2, h3, h4⟩, h5⟩ := h
 exact ⟨D, ⟨es, clock, (hb.block b hB).trans h1, h2, h3, h4⟩, h5⟩
theorem SetAt.mono {w : World} {b n m : Nat} {S : Int → Bool} (h : SetAt P kt w b n S) (hm : n ≤ m) : SetAt P kt w b m S :=
 let ⟨D, h1, h2⟩ := h; ⟨D, h1.mono hm, h2⟩
theorem SetAt.congr {w : World} {b n : Nat} {S T : Int → Bool} (h : SetAt P kt w b n S) (he : ∀ i, wfI i → S i = T i) : SetAt P kt w b n T :=
 let ⟨D, h1, h2⟩ := h; ⟨D, h1, fun i hi => (h2 i hi).trans (he i hi)⟩
include hk hm in
theorem SetAt.add {w : World} {b n : Nat} {S : Int → Bool} (h : SetAt P kt w b n S) (hn : n < maxLen) {i : Int} (hi : wfI i) :
  ∃ w', (Instr.mapUpdate mt (.map (some b)) (.int .i64 i) (.agg #[])).run P w = .ok () w' ∧ SetAt P kt w' b (n + 1) (fun j => S j || j == i) ∧ w.grownBy w' (some b) := by
 obtain ⟨D, h1, h2⟩ := h
 obtain ⟨w', hr, h3, h4⟩ := h1.update (int_keyed hk) hm hn (keyOf_int_mk hk hi) unitElem_mk
 refine ⟨w', hr, ⟨_, h3, fun j hj => ?_⟩, h4⟩
 by_cases e : j = i
 ·subst e
  rw [Maps.has_put_same h1.isMap ((int_keyed hk).key (keyOf_int_mk hk hi))]; simp
 ·rw [Maps.has_put_other (by simpa using e), h2 j hj]; simp [e]
include hk hm hz in
theorem SetAt.look {w : World} {b n : Nat} {S : Int → Bool} (h : SetAt P kt w b n S) {i : Int} (hi : wfI i) : (Instr.lookup mt (.map (some b)) (.int .i64 i) true).run P w = .ok (.tuple #[.agg #[], .bool (S i)]) w := by
 obtain ⟨D, h1, h2⟩ := h
 obtain ⟨v, ps, hr, hv⟩ := h1.look_ok (int_keyed hk) hm (hz w) unitElem_mk (keyOf_int_mk hk hi)
 obtain ⟨rfl, _⟩ := unitElem_inv hv
 rw [hr, h2 i hi]
include hk hm in
theorem SetAt.len {w : World} {b n : Nat} {S : Int → Bool} (h : SetAt P kt w b n S) : ∃ k : Nat, (∀ ty, (Builtin.len_ #[mt] ty #[.map (some b)]).run P w = .ok (.int .i64 k) w) ∧ (k = 0 ↔ ∀ i, wfI i → S i = false) := by
 obtain ⟨D, h1, h2⟩ := h
 refine ⟨Maps.size D, fun ty => h1.len hm ty, ?_⟩
 obtain ⟨es, clock, hb, F, hs, hD⟩ := h1
 constructor
 ·intro h0 i hi
  rw [← h2 i hi]
  subst hD
  have : ((es.toList.map (WideElems.rg P kt unitElem)).foldr DataW.insert [] : List (Lit × DataW Unit)) = [] := List.eq_nil_of_length_eq_zero h0
  rw [this]; rfl
 ·intro hall
  subst hD
  rcases Nat.eq_zero_or_pos es.size with h0 | h0
  ·simp [Maps.size, length_sorted, h0]
  ·exfalso
   have hx : es[0]'h0 ∈ es.toList := by simp
   obtain ⟨y, hy⟩ := F.reads _ hx
   have hky := WideElems.rd_key hy
   obtain ⟨x, hkx, hly, hwx⟩ := Maps.keyOf_int_inv hk hky
   have h3 : Maps.has (DataW.map ((es.toList.map (WideElems.rg P kt unitElem)).foldr DataW.insert [])) (.int .i64 x) = true :=
    List.any_eq_true.2 ⟨WideElems.rg P kt unitElem (es[0]'h0), mem_sorted.2 (List.mem_map.2 ⟨_, hx, rfl⟩), by rw [WideElems.rg_of hy, hly]; exact WideAt.sameKey_self trivial⟩
   rw [h2 x hwx, hall x hwx] at h3
   cases h3
theorem nodup_le : ∀ (n : Nat) (l : List Nat), l.Nodup → (∀ x ∈ l, x < n) → l.length ≤ n
 | 0, l, _, h => by
  cases l with
  | nil => simp
  | cons x xs => exact absurd (h x (by simp)) (by omega)
 | n + 1, l, hd, h => by
  have h1 := nodup_le n (l.erase n) (hd.erase n) (fun x hx => by
   have h2 := h x (List.mem_of_mem_erase hx)
   have h3 : x ≠ n := fun e => by subst e; exact (List.Nodup.not_mem_erase hd) hx
   omega)
  rw [List.length_erase] at h1
  split at h1 <;> omega
include hk in
theorem SetAt.tight {w : World} {b n m : Nat} {S : Int → Bool} (h : SetAt P kt w b n S) (hS : ∀ i, wfI i → S i = true → 0 ≤ i ∧ i < m) : SetAt P kt w b m S := by
 obtain ⟨D, h1, h2⟩ := h
 obtain ⟨ents, hD, hpw, _⟩ := h1.entries (int_keyed hk)
 obtain ⟨es, clock, hb, F, hs, hD'⟩ := h1
 refine ⟨D, ⟨es, clock, hb, F, ?_, hD'⟩, h2⟩
 have hents : ents = (es.toList.map (WideElems.rg P kt unitElem)).foldr DataW.insert [] := by rw [hD] at hD'; exact DataW.map.inj hD'
 have hform : ∀ p ∈ ents, ∃ x : Int, p.1 = .int .i64 x ∧ 0 ≤ x ∧ x < m := by
  intro p hp
  have hp' := hp
  rw [hents] at hp'
  obtain ⟨e, he, rfl⟩ := List.mem_map.1 (mem_sorted.1 hp')
  obtain ⟨y, hy⟩ := F.reads e he
  obtain ⟨x, hkx, hly, hwx⟩ := Maps.keyOf_int_inv hk (WideElems.rd_key hy)
  have e1 : (WideElems.rg P kt (unitElem (H := Unit)) e).1 = .int .i64 x := by rw [WideElems.rg_of hy, hly]
  have h3 : Maps.has D (.int .i64 x) = true := by
   rw [hD]; exact List.any_eq_true.2 ⟨_, hp, by rw [e1]; exact WideAt.sameKey_self trivial⟩
  rw [h2 x hwx] at h3
  exact ⟨x, e1, hS x hwx h3⟩
 have hlen : ents.length = es.size := by rw [hents, length_sorted]; simp
 rw [← hlen]
 let f : Lit × DataW Unit → Nat := fun p => match p.1 with | .int _ x => x.toNat | _ => 0
 have h4 := nodup_le m (ents.map f) (List.pairwise_map.2 (hpw.imp_of_mem (fun {p q} hp hq hne => by
  obtain ⟨x, e1, h5, h6⟩ := hform p hp
  obtain ⟨y, e2, h7, h8⟩ := hform q hq
  intro e
  simp only [f, e1, e2] at e
  exact hne (by rw [e1, e2]; congr 1; omega)))) (fun z hz => by
   obtain ⟨p, hp, rfl⟩ := List.mem_map.1 hz
   obtain ⟨x, e1, h5, h6⟩ := hform p hp
   simp only [f, e1]; omega)
 simpa using h4
def RangeAt (P : Program) (kt : TypeId) (w : World) (b r n : Nat) (S L : Int → Bool) (cnt : Nat) : Prop :=
 ∃ (D : DataW Unit) (left : Lit → Bool), w.ranges P kt unitElem b r n D left cnt ∧ (∀ i, wfI i → Maps.has D (.int .i64 i) = S i) ∧ (∀ i, wfI i → left (.int .i64 i) = L i)
theorem RangeAt.left_eq {w : World} {b r n : Nat} {S L : Int → Bool} {cnt : Nat} (h : RangeAt P kt w b r n S L cnt) : w.rangeLeft b r = cnt := let ⟨_, _, h1, _⟩ := h; h1.left_eq
theorem RangeAt.kept {w w' : World} {b r n : Nat} {S L : Int → Bool} {cnt : Nat} {row : Option Nat} (h : RangeAt P kt w b r n S L cnt) (hg : w.grownBy w' row) (h1 : some b ≠ row) (h2 : some r ≠ row) : RangeAt P kt w' b r n S L cnt :=
 let ⟨D, left, h3, h4, h5⟩ := h; ⟨D, left, h3.kept hg h1 h2, h4, h5⟩
theorem RangeAt.below {w w' : World} {B b r n : Nat} {S L : Int → Bool} {cnt : Nat} (h : RangeAt P kt w b r n S L cnt) (hb : Below B w w') (h1 : b < B) (h2 : r < B) : RangeAt P kt w' b r n S L cnt := by
 obtain ⟨D, left, ⟨es, clock, since, seen, c0, e1, e2, e3, e4, e5, e6⟩, h4, h5⟩ := h
 exact ⟨D, left, ⟨es, clock, since, seen, c0, (hb.block b h1).trans e1, e2, e3, e4, (hb.block r h2).trans e5, e6⟩, h4, h5⟩
theorem RangeAt.ne {w : World} {b r n : Nat} {S L : Int → Bool} {cnt : Nat} (h : RangeAt P kt w b r n S L cnt) : r ≠ b := let ⟨_, _, h1, _⟩ := h; h1.ne
theorem RangeAt.lt {w : World} {b r n : Nat} {S L : Int → Bool} {cnt : Nat} (h : RangeAt P kt w b r n S L cnt) : r < w.heap.size := let ⟨_, _, h1, _⟩ := h; h1.lt
include hk hm in
theorem SetAt.range {w : World} {b n : Nat} {S : Int → Bool} (h : SetAt P kt w b n S) :
  ∃ w' cnt, (Instr.range mt (.map (some b))).run P w = .ok (.pointer (some ⟨w.heap.size, 0, none⟩)) w' ∧ RangeAt P kt w' b w.heap.size n S S cnt ∧ w.grownBy w' none ∧ w'.heap.size = w.heap.size + 1 := by
 obtain ⟨D, h1, h2⟩ := h
 obtain ⟨w', hr, h3, h4, h5⟩ := h1.range (int_keyed hk) hm
 exact ⟨w', _, hr, ⟨D, _, h3, h2, h2⟩, h4, h5⟩
include hk in
theorem RangeAt.next {w : World} {b r n : Nat} {S L : Int → Bool} {cnt : Nat} (h : RangeAt P kt w b r n S L cnt) (ty : TypeId) :
  ((∀ i, wfI i → L i = false) ∧ (Instr.next (.pointer (some ⟨r, 0, none⟩)) false ty).run P w = .ok (.tuple #[.bool false]) w) ∨
  ∃ i w' cnt', wfI i ∧ L i = true ∧ S i = true ∧ (Instr.next (.pointer (some ⟨r, 0, none⟩)) false ty).run P w = .ok (.tuple #[.bool true, .int .i64 i, .agg #[]]) w' ∧
   RangeAt P kt w' b r n S (fun j => L j && !(j == i)) cnt' ∧ cnt' < cnt ∧ w.grownBy w' (some r) ∧ w'.heap.size = w.heap.size ∧ (Instr.entry (.pointer (some ⟨r, 0, none⟩))).run P w' = .ok (.tuple #[.int .i64 i, .agg #[]]) w' := by
 obtain ⟨D, left, h1, h2, h3⟩ := h
 rcases h1.next (int_keyed hk) ty with ⟨_, hl, hr⟩ | ⟨key, v, kl, y, w', cnt', hkey, hlk, hv, hat, hr, hrg, hlt, hgr, hsz, hen⟩
 ·exact .inl ⟨fun i hi => by rw [← h3 i hi]; exact hl _, hr⟩
 ·obtain ⟨x, rfl, rfl, hwx⟩ := Maps.keyOf_int_inv hk hkey
  obtain ⟨rfl, _⟩ := unitElem_inv hv
  refine .inr ⟨x, w', cnt', hwx, by rw [← h3 x hwx]; exact hlk, by rw [← h2 x hwx]; exact Maps.has_true_of_atKey hat, hr, ⟨D, _, hrg, h2, fun j hj => ?_⟩, hlt, hgr, hsz, hen⟩
  rw [h3 j hj]
  exact Bool.eq_iff_iff.2 (by simp [Lit.sameKey])
end
end Go.Proofs.YthbhmnakmhambaaGreatDoor
namespace Go.Proofs.YthbhmnakmhambaaGreatDoor
open Go Go.RowKit Go.Shelf
def OwnX {β : Type} (B Bs : Nat) (I : β → World → Prop) : Prop :=
 ∀ s W W' row, I s W → W.grownBy W' row → (∀ r, row = some r → r = Bs ∨ (B ≤ r ∧ ∃ o : Obj, W.heap[r]? = some o ∧ o.isCells = false)) → I s W'
theorem OwnX.from {β : Type} {B Bs : Nat} {I : β → World → Prop} (h : OwnX B Bs I) : OwnFrom B I := fun s W W' row hs hg hr => h s W W' row hs hg (fun r e => .inr (hr r e))
theorem OwnX.and {β : Type} {B Bs : Nat} {I I' : β → World → Prop} (h : OwnX B Bs I) (h' : OwnX B Bs I') : OwnX B Bs (fun s W => I s W ∧ I' s W) := fun s W W' row hs hg hr => ⟨h s W W' row hs.1 hg hr, h' s W W' row hs.2 hg hr⟩
theorem ownX_pure {β : Type} (B Bs : Nat) (p : β → Prop) : OwnX B Bs (fun s (_ : World) => p s) := fun _ _ _ _ hs _ _ => hs
theorem ownX_below {β : Type} {n₀ B Bs : Nat} {w₀ : World} (hn : n₀ ≤ w₀.heap.size) (hB : n₀ ≤ B) (hs : n₀ ≤ Bs) : OwnX B Bs (fun (_ : β) W => Below n₀ w₀ W) :=
 fun _ _ _ _ h hg hr => h.grown hg (Nat.le_trans hn h.size) (fun k e => by rcases hr k e with rfl | ⟨h1, _⟩ <;> omega)
theorem ownX_box {β : Type} (C Bs B : Nat) (t : TypeId) (f : β → Value) (hne : B ≠ Bs) : OwnX C Bs (fun s W => Boxed W B t (f s)) := fun s X Y row hs hg hr => by
 refine hs.kept hg (fun e => ?_)
 rcases hr B e.symm with rfl | ⟨_, o, ho, hc⟩
 ·exact hne rfl
 ·rw [show X.heap[B]? = _ from hs] at ho; cases ho; cases hc
def AbidesX {β : Type} (B Bs : Nat) (J : β → World → Prop) : Prop :=
 ∀ s W W' row, J s W → W.grownBy W' row → (∀ r, row = some r → r = Bs) → B ≤ W.heap.size → J s W'
def SeqStopsX {α : Type} (P : Program) (g : Nat) (lb : Array Value) (encs : α → Array Value) (Kp : World → World → Prop) (Bs : Nat) (xs : List α) (w : World) : Prop :=
 ∀ (l : Nat) (J Jx : List α → World → Prop) (W : World), Below w.heap.size w W → AbidesX W.heap.size Bs J → AbidesX W.heap.size Bs Jx →
  (∀ pre x W1, J pre W1 → W.heap.size ≤ W1.heap.size → YieldAt Fence.wide 7 P l (encs x) W1 fun e W' =>
   (e = .returned (.bool true) ∧ J (pre ++ [x]) W' ∧ Kp W1 W' ∧ W1.heap.size ≤ W'.heap.size) ∨ (e = .returned (.bool false) ∧ Jx (pre ++ [x]) W' ∧ W1.heap.size ≤ W'.heap.size)) →
  J [] W →
  CallsIn Fence.wide 8 P g (#[.func (.yield l) #[] #[]] ++ lb) W fun e W' => (∃ v, e = .returned v) ∧ ((J xs W') ∨ (∃ pre, pre <+: xs ∧ Jx pre W'))
theorem wp_rangeX {α : Type} {P : Program} {g : Operand} {ps : Array Tmp} {assign body : Code} {Q : Exit → Act → World → Prop} {a : Act} {w : World}
  {gf : Nat} {lb : Array Value} (hg : a.eval g = .func (.func gf) #[] lb) (eg : ∀ args w, (callFunc gf args).run P w = .ok (.enter gf args) w)
  {encs : α → Array Value} {Kp : World → World → Prop} {Bs : Nat} {xs : List α} (hseq : SeqStopsX P gf lb encs Kp Bs xs w) (hBs : Bs < w.heap.size)
  (hKt : ∀ {A B C : World}, Kp A B → Kp B C → Kp A C) (hKb : ∀ (W : World) (l : Nat) (o o' : Obj), w.heap.size ≤ l → W.heap[l]? = some o → o.isCells = false → o.isWalk = false → Kp W (W.putObj l o')) (hps : ∀ x, (encs x).size = ps.size)
  (I : List α → World → Prop) (Ix : Code → List α → World → Prop) (hIX : OwnX w.heap.size Bs I) (hIxX : ∀ c, OwnX w.heap.size Bs (Ix c)) (h0 : I [] w) (a₁ : α → Act)
  (hassign : ∀ (l : Nat) (x : α) (W : World) (K : Act → World → Prop), K (a₁ x) W →
   assign.wpIn (Fence.wide.inRound l) 7 P (Exit.then K (fun _ _ _ => False)) { tmps := (ps.zip (encs x)).foldl (fun t (p, v) => t.setIfInBounds p v) a.tmps, defers := [] } W)
  (hbody : ∀ (l : Nat) (pre : List α) (x : α) (W : World), I pre W → w.heap.size ≤ W.heap.size → body.wpIn (Fence.wide.inRound l) 7 P (ownPostG w.heap.size Kp I Ix (pre ++ [x]) W) (a₁ x) W)
  (hdone : ∀ (D : Nat) (W : World), w.heap.size ≤ D → I xs W → W.heap[D]? = some (.deferred (some [])) → Q .normal { a with defers := { target := .collected D, args := #[] } :: a.defers } W)
  (hstop : ∀ (D : Nat) (c : Code) (pre : List α) (W : World), w.heap.size ≤ D → pre <+: xs → Ix c pre W → W.heap[D]? = some (.deferred (some [])) → c.wp P Q { a with defers := { target := .collected D, args := #[] } :: a.defers } W) :
  (Code.rangeFunc g ps assign body).wp P Q a w := by
 refine (wpIn_wide (n := 9)).1 ?_
 have hI := hIX.from
 have hIx := fun c => (hIxX c).from
 refine wpIn_rangeFunc ?_
 intro fn hfn
 show ∃ _ _ _ _ _ _ _ _, (Instr.enterLoop fn a.tmps ps assign body none).run P w = _ ∧ _
 obtain ⟨rec, hrec⟩ : ∃ rec : LoopState → Option Code → Loop, rec = fun st pe => { state := st, pending := pe, fn, tmps := a.tmps, params := ps, assign, body, defers := w.heap.size } := ⟨_, rfl⟩
 obtain ⟨W1, hW1⟩ : ∃ W1, (w.alloc (.deferred (some []))).alloc (.loop (rec .ready none)) = W1 := ⟨_, rfl⟩
 have hL1 : W1.heap[w.heap.size + 1]? = some (.loop (rec .ready none)) := by
  rw [← hW1]; have := World.alloc_heap_new (w.alloc (.deferred (some []))) (.loop (rec .ready none)); rwa [World.size_alloc] at this
 have hK1 : W1.heap[w.heap.size]? = some (.deferred (some [])) := by
  rw [← hW1]; exact (Below.heap_alloc _ _ _ (by simp)).trans (World.alloc_heap_new w _)
 have hI1 : I [] W1 := by rw [← hW1]; exact hI.alloc _ (hI.alloc _ h0)
 have hb1 : Below w.heap.size w W1 := by
  rw [← hW1]; exact ((Below.refl _ w).alloc (Nat.le_refl _) _).alloc (by simp) _
 have hs1 : W1.heap.size = w.heap.size + 2 := by rw [← hW1]; simp
 refine ⟨w.heap.size + 1, [{ target := .collected w.heap.size, args := #[] }], W1, { target := .fn (.func gf) lb, args := #[.func (.yield (w.heap.size + 1)) #[] #[]] }, W1, gf,
  #[.func (.yield (w.heap.size + 1)) #[] #[]] ++ lb, W1, ?_, ?_, ?_, ?_, fun _ => by omega, ?_⟩
 ·rw [← hW1, hrec]; exact run_enterLoop_outer _ _ _ _ _
 ·simp only [resolve, hg]
  simp [go_sem]
 ·intro f' hf'; trivial
 ·simp [invoke, go_sem, eg]
 ·have keep : ∀ {A B : World} {row : Option Nat} {k : Nat} {o : Obj}, A.grownBy B row → (∀ r, row = some r → r = Bs) → w.heap.size ≤ k → A.heap[k]? = some o → B.heap[k]? = some o := fun hg' hr hk ho =>
   (hg'.block _ (Array.getElem?_eq_some_iff.1 ho).1 (fun e => by have := hr _ e.symm; omega)).trans ho
  refine (hseq (w.heap.size + 1)
   (fun pre W => I pre W ∧ W.heap[w.heap.size + 1]? = some (.loop (rec .ready none)) ∧ W.heap[w.heap.size]? = some (.deferred (some [])))
   (fun pre W => ∃ c, Ix c pre W ∧ W.heap[w.heap.size + 1]? = some (.loop (rec .done (some c))) ∧ W.heap[w.heap.size]? = some (.deferred (some [])))
   W1 hb1
   (fun s A B row hs hg' hr _ => ⟨hIX s A B row hs.1 hg' (fun r e => .inl (hr r e)), keep hg' hr (by omega) hs.2.1, keep hg' hr (Nat.le_refl _) hs.2.2⟩)
   (fun s A B row hs hg' hr _ => by
    obtain ⟨c, hc, hl, hk⟩ := hs
    exact ⟨c, hIxX c s A B row hc hg' (fun r e => .inl (hr r e)), keep hg' hr (by omega) hl, keep hg' hr (Nat.le_refl _) hk⟩)
   ?_ ⟨hI1, hL1, hK1⟩).mono ?_
  ·rintro pre x W ⟨hi, hl, hk⟩ hsz
   have hlt : w.heap.size + 1 < W.heap.size := (Array.getElem?_eq_some_iff.1 hl).1
   have hy := run_yield (P := P) (args := encs x) hl (by rw [hrec]; exact hps x)
   rw [hrec] at hy
   refine ⟨fn, _, assign, body, hy, roundIn_of_wpIn hfn (hassign _ x W _ ?_)⟩
   clear hy
   refine ⟨_, run_beginRound hl (by rw [hrec]), ?_⟩
   have hl2 : (W.putObj (w.heap.size + 1) (.loop { rec .ready none with state := .busy })).heap[w.heap.size + 1]? = some (.loop { rec .ready none with state := .busy }) := World.putObj_heap_same hlt
   have hk2 : (W.putObj (w.heap.size + 1) (.loop { rec .ready none with state := .busy })).heap[w.heap.size]? = some (.deferred (some [])) := (World.putObj_heap_other (by omega)).trans hk
   have hw2 : Kp W (W.putObj (w.heap.size + 1) (.loop { rec .ready none with state := .busy })) := hKb _ _ _ _ (by omega) hl rfl rfl
   have szp : ∀ (W3 : World) (o : Obj), (W3.putObj (w.heap.size + 1) o).heap.size = W3.heap.size := fun W3 o => by simp [World.putObj]
   refine wpIn_mono (hbody _ pre x _ (hI.putObj _ hi (by omega) hl rfl) (by rw [szp]; omega)) ?_
   have fin : ∀ (jump : Option Code) (W3 : World), KeepsFrom w.heap.size (W.putObj (w.heap.size + 1) (.loop { rec .ready none with state := .busy })) W3 →
     (Instr.endRound (w.heap.size + 1) jump).run P W3 = .ok (.bool jump.isNone) (W3.putObj (w.heap.size + 1) (.loop (rec (if jump.isNone then .ready else .done) jump))) ∧
     W3.heap[w.heap.size + 1]? = some (.loop { rec .ready none with state := .busy }) ∧
     (W3.putObj (w.heap.size + 1) (.loop (rec (if jump.isNone then .ready else .done) jump))).heap[w.heap.size + 1]? = some (.loop (rec (if jump.isNone then .ready else .done) jump)) ∧
     (W3.putObj (w.heap.size + 1) (.loop (rec (if jump.isNone then .ready else .done) jump))).heap[w.heap.size]? = some (.deferred (some [])) := fun jump W3 hk3 => by
    have hl3 := hk3.same _ _ (by omega) hl2 rfl
    have := run_endRound (P := P) jump hl3
    rw [hrec] at this ⊢
    exact ⟨this, by rw [hrec] at hl3; exact hl3, World.putObj_heap_same (Array.getElem?_eq_some_iff.1 hl3).1, (World.putObj_heap_other (by omega)).trans (hk3.same _ _ (Nat.le_refl _) hk2 rfl)⟩
   rintro e a3 W3 hp
   cases e with
   | normal =>
    obtain ⟨hk3, hkp3, hi3⟩ := hp
    obtain ⟨hr, hl3, hl4, hk4⟩ := fin none W3 hk3
    exact ⟨_, _, hr, .inl ⟨rfl, ⟨hI.putObj _ hi3 (by omega) hl3 rfl, hl4, hk4⟩, hKt (hKt hw2 hkp3) (hKb _ _ _ _ (by omega) hl3 rfl rfl), by rw [szp]; have h7 := hk3.size; rw [szp] at h7; omega⟩⟩
   | ret =>
    obtain ⟨hk3, hi3⟩ := hp
    obtain ⟨hr, hl3, hl4, hk4⟩ := fin (some .ret) W3 hk3
    exact ⟨_, _, hr, .inr ⟨rfl, ⟨.ret, (hIx _).putObj _ hi3 (by omega) hl3 rfl, hl4, hk4⟩, by rw [szp]; have h7 := hk3.size; rw [szp] at h7; omega⟩⟩
   | exit id =>
    obtain ⟨hk3, hi3⟩ := hp
    obtain ⟨hr, hl3, hl4, hk4⟩ := fin (some (.exit id)) W3 hk3
    exact ⟨_, _, hr, .inr ⟨rfl, ⟨.exit id, (hIx _).putObj _ hi3 (by omega) hl3 rfl, hl4, hk4⟩, by rw [szp]; have h7 := hk3.size; rw [szp] at h7; omega⟩⟩
   | goto t =>
    obtain ⟨hk3, hi3⟩ := hp
    obtain ⟨hr, hl3, hl4, hk4⟩ := fin (some (.goto t)) W3 hk3
    exact ⟨_, _, hr, .inr ⟨rfl, ⟨.goto t, (hIx _).putObj _ hi3 (by omega) hl3 rfl, hl4, hk4⟩, by rw [szp]; have h7 := hk3.size; rw [szp] at h7; omega⟩⟩
   | panic ch => exact hp.elim
   | outgrown => exact hp.elim
  ·rintro e W2 ⟨⟨v, rfl⟩, (⟨hi, hl, hk⟩ | ⟨pre, hSp, c, hi, hl, hk⟩)⟩
   ·exact ⟨none, _, by have := run_endLoop (P := P) hl (by rw [hrec]; simp); rw [hrec] at this; exact this, hdone _ _ (Nat.le_refl _) (hI.putObj _ hi (by omega) hl rfl) ((World.putObj_heap_other (by omega)).trans hk)⟩
   ·exact ⟨some c, _, by have := run_endLoop (P := P) hl (by rw [hrec]; simp); rw [hrec] at this; exact this, wpIn_wide.2 (hstop _ c pre _ (Nat.le_refl _) hSp ((hIx c).putObj _ hi (by omega) hl rfl) ((World.putObj_heap_other (by omega)).trans hk))⟩
theorem wp_rangeX1 {α : Type} {P : Program} {g : Operand} {ps : Array Tmp} {assign body : Code} {Q : Exit → Act → World → Prop} {a : Act} {w : World} (s : Nat) (f : α → Value)
  {gf : Nat} {lb : Array Value} (hg : a.eval g = .func (.func gf) #[] lb) (eg : ∀ args w, (callFunc gf args).run P w = .ok (.enter gf args) w)
  {encs : α → Array Value} {Kp : World → World → Prop} {Bs : Nat} {xs : List α} (hseq : SeqStopsX P gf lb encs Kp Bs xs w) (hBs : Bs < w.heap.size)
  (hKt : ∀ {A B C : World}, Kp A B → Kp B C → Kp A C) (hKb : ∀ (W : World) (l : Nat) (o o' : Obj), w.heap.size ≤ l → W.heap[l]? = some o → o.isCells = false → o.isWalk = false → Kp W (W.putObj l o')) (hps : ∀ x, (encs x).size = ps.size)
  (I : List α → World → Prop) (Ix : Code → List α → World → Prop) (hIX : OwnX w.heap.size Bs I) (hIxX : ∀ c, OwnX w.heap.size Bs (Ix c)) (h0 : I [] w)
  (hassign : ∀ (l : Nat) (x : α) (W : World) (K : Act → World → Prop), K { tmps := ((ps.zip (encs x)).foldl (fun t (p, v) => t.setIfInBounds p v) a.tmps).setIfInBounds s (f x), defers := [] } W →
   assign.wpIn (Fence.wide.inRound l) 7 P (Exit.then K (fun _ _ _ => False)) { tmps := (ps.zip (encs x)).foldl (fun t (p, v) => t.setIfInBounds p v) a.tmps, defers := [] } W)
  (hbody : ∀ (l : Nat) (pre : List α) (x : α) (W : World), I pre W → w.heap.size ≤ W.heap.size → body.wpIn (Fence.wide.inRound l) 7 P (ownPostG w.heap.size Kp I Ix (pre ++ [x]) W) { tmps := ((ps.zip (encs x)).foldl (fun t (p, v) => t.setIfInBounds p v) a.tmps).setIfInBounds s (f x), defers := [] } W)
  (hdone : ∀ (D : Nat) (W : World), w.heap.size ≤ D → I xs W → W.heap[D]? = some (.deferred (some [])) → Q .normal { a with defers := { target := .collected D, args := #[] } :: a.defers } W)
  (hstop : ∀ (D : Nat) (c : Code) (pre : List α) (W : World), w.heap.size ≤ D → pre <+: xs → Ix c pre W → W.heap[D]? = some (.deferred (some [])) → c.wp P Q { a with defers := { target := .collected D, args := #[] } :: a.defers } W) :
  (Code.rangeFunc g ps assign body).wp P Q a w :=
 wp_rangeX hg eg hseq hBs (fun h k => hKt h k) hKb hps I Ix hIX hIxX h0 _ hassign hbody hdone hstop
end Go.Proofs.YthbhmnakmhambaaGreatDoor

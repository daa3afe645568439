/- Package ladder: work.sketch. Package ladder: work.sketch, the other bodies. -/
import Derived.Test.YtjpnbkdhmjgdgaaDoorXE
namespace Go.Proofs.YtjpnbkdhmjgdgaaDoor
open Go Go.RowKit

theorem isNum (v : Value) (w : World) (a : Option Addr) (l c : Nat) (hv : v = .agg #[.slice a l c]) : (Instr.typeAssert (.iface 127 v) 77 127 true).run Tryd.prog w = .ok (.tuple #[v, .bool true]) w := by subst hv; kernel_rfl
theorem set10 {W : World} {B : Nat} {x0 x1 x2 x3 x4 x5 x6 x7 x8 x9 v0 v1 v2 v3 v4 v5 v6 v7 v8 v9 : Value} {t : TypeId} (h : W.heap[B]? = some (.cells #[x0, x1, x2, x3, x4, x5, x6, x7, x8, x9] t (0, 0))) :
    ((((((((((W.setCell ⟨B, 0, none⟩ v0).setCell ⟨B, 1, none⟩ v1).setCell ⟨B, 2, none⟩ v2).setCell ⟨B, 3, none⟩ v3).setCell ⟨B, 4, none⟩ v4).setCell ⟨B, 5, none⟩ v5).setCell ⟨B, 6, none⟩ v6).setCell ⟨B, 7, none⟩ v7).setCell ⟨B, 8, none⟩ v8).setCell ⟨B, 9, none⟩ v9).heap[B]? = some (.cells #[v0, v1, v2, v3, v4, v5, v6, v7, v8, v9] t (0, 0)) := by
  replace h : (W.setCell ⟨B, 0, none⟩ v0).heap[B]? = some (.cells #[v0, x1, x2, x3, x4, x5, x6, x7, x8, x9] t (0, 0)) := heap_set_known h v0
  generalize W.setCell ⟨B, 0, none⟩ v0 = W at h ⊢
  replace h : (W.setCell ⟨B, 1, none⟩ v1).heap[B]? = some (.cells #[v0, v1, x2, x3, x4, x5, x6, x7, x8, x9] t (0, 0)) := heap_set_known h v1
  generalize W.setCell ⟨B, 1, none⟩ v1 = W at h ⊢
  replace h : (W.setCell ⟨B, 2, none⟩ v2).heap[B]? = some (.cells #[v0, v1, v2, x3, x4, x5, x6, x7, x8, x9] t (0, 0)) := heap_set_known h v2
  generalize W.setCell ⟨B, 2, none⟩ v2 = W at h ⊢
  replace h : (W.setCell ⟨B, 3, none⟩ v3).heap[B]? = some (.cells #[v0, v1, v2, v3, x4, x5, x6, x7, x8, x9] t (0, 0)) := heap_set_known h v3
  generalize W.setCell ⟨B, 3, none⟩ v3 = W at h ⊢
  replace h : (W.setCell ⟨B, 4, none⟩ v4).heap[B]? = some (.cells #[v0, v1, v2, v3, v4, x5, x6, x7, x8, x9] t (0, 0)) := heap_set_known h v4
  generalize W.setCell ⟨B, 4, none⟩ v4 = W at h ⊢
  replace h : (W.setCell ⟨B, 5, none⟩ v5).heap[B]? = some (.cells #[v0, v1, v2, v3, v4, v5, x6, x7, x8, x9] t (0, 0)) := heap_set_known h v5
  generalize W.setCell ⟨B, 5, none⟩ v5 = W at h ⊢
  replace h : (W.setCell ⟨B, 6, none⟩ v6).heap[B]? = some (.cells #[v0, v1, v2, v3, v4, v5, v6, x7, x8, x9] t (0, 0)) := heap_set_known h v6
  generalize W.setCell ⟨B, 6, none⟩ v6 = W at h ⊢
  replace h : (W.setCell ⟨B, 7, none⟩ v7).heap[B]? = some (.cells #[v0, v1, v2, v3, v4, v5, v6, v7, x8, x9] t (0, 0)) := heap_set_known h v7
  generalize W.setCell ⟨B, 7, none⟩ v7 = W at h ⊢
  replace h : (W.setCell ⟨B, 8, none⟩ v8).heap[B]? = some (.cells #[v0, v1, v2, v3, v4, v5, v6, v7, v8, x9] t (0, 0)) := heap_set_known h v8
  generalize W.setCell ⟨B, 8, none⟩ v8 = W at h ⊢
  replace h : (W.setCell ⟨B, 9, none⟩ v9).heap[B]? = some (.cells #[v0, v1, v2, v3, v4, v5, v6, v7, v8, v9] t (0, 0)) := heap_set_known h v9
  generalize W.setCell ⟨B, 9, none⟩ v9 = W at h ⊢
  exact h
/-- What sketch hands back: a sketch whose lists lie in new memory. -/
def SkPost (y : Sk) (w : World) (e : Ending) (w' : World) : Prop := ∃ s : SS, e = .returned (.agg #[.int .i64 y.kind, .int .i64 y.level, .slice s.ea s.el s.ec, .int .i64 y.hb, .string y.hr, .int .i64 y.cr, .int .i64 y.cc, .slice s.ca s.cl s.cc, .int .i64 y.gf, .slice s.ga s.gl s.gc]) ∧ s.At w'.heap.size w' y ∧ (∀ z, s.ea = some z → w.heap.size ≤ z.block) ∧ (∀ z, s.ca = some z → w.heap.size ≤ z.block) ∧ (∀ z, s.ga = some z → w.heap.size ≤ z.block) ∧ Below w.heap.size w w'
def skNum (kind level : Int) (l : List Int) : Sk := ⟨kind, level, l, 0, ⟨#[]⟩, 0, 0, [], 0, []⟩

/-- The lists of s do not lie in block b. -/
def SS.Far (s : SS) (b : Nat) : Prop := (∀ z, s.ea = some z → b ≠ z.block) ∧ (∀ z, s.ca = some z → b ≠ z.block) ∧ (∀ z, s.ga = some z → b ≠ z.block)
theorem SS.At.set {s : SS} {n : Nat} {W : World} {x : Sk} (h : s.At n W x) {b o : Nat} (hf : s.Far b) (v : Value) : s.At n (W.setCell ⟨b, o, none⟩ v) x :=
  ⟨h.e.set_far (p := ⟨b, o, none⟩) hf.1 v, h.c.set_far (p := ⟨b, o, none⟩) hf.2.1 v, h.g.set_far (p := ⟨b, o, none⟩) hf.2.2 v⟩
theorem heap_set_other {W : World} {p : Addr} {b : Nat} (h : p.block ≠ b) (v : Value) : (W.setCell p v).heap[b]? = W.heap[b]? := by
  show (W.heap.modify p.block _)[b]? = _
  rw [Array.getElem?_modify]
  simp [h]
theorem size_set (W : World) (p : Addr) (v : Value) : (W.setCell p v).heap.size = W.heap.size := by simp [World.setCell]
/-- The way out of a function whose result is a sketch in the block behind its first one. -/
theorem sk_ret {w W : World} {y : Sk} {s : SS} {tm : Array Value} {x0 x1 x2 x3 x4 x5 x6 x7 x8 x9 : Value} (hY : W.heap[w.heap.size + 1]? = some (.cells #[x0, x1, x2, x3, x4, x5, x6, x7, x8, x9] 33 (0, 0))) (hB : Below w.heap.size w W) (hA : s.At W.heap.size W y)
    (h1 : ∀ z, s.ea = some z → w.heap.size + 2 ≤ z.block) (h2 : ∀ z, s.ca = some z → w.heap.size + 2 ≤ z.block) (h3 : ∀ z, s.ga = some z → w.heap.size + 2 ≤ z.block)
    (t2 : tm[2]?.getD undef = .pointer (some ⟨w.heap.size + 1, 0, none⟩)) :
    bodyPost Tryd.prog Tryd.f42 (SkPost y w) Exit.ret { tmps := tm, defers := [] }
      ((((((((((W.setCell ⟨w.heap.size + 1, 0, none⟩ (.int .i64 y.kind)).setCell ⟨w.heap.size + 1, 1, none⟩ (.int .i64 y.level)).setCell ⟨w.heap.size + 1, 2, none⟩ (.slice s.ea s.el s.ec)).setCell ⟨w.heap.size + 1, 3, none⟩ (.int .i64 y.hb)).setCell ⟨w.heap.size + 1, 4, none⟩ (.string y.hr)).setCell ⟨w.heap.size + 1, 5, none⟩ (.int .i64 y.cr)).setCell ⟨w.heap.size + 1, 6, none⟩ (.int .i64 y.cc)).setCell ⟨w.heap.size + 1, 7, none⟩ (.slice s.ca s.cl s.cc)).setCell ⟨w.heap.size + 1, 8, none⟩ (.int .i64 y.gf)).setCell ⟨w.heap.size + 1, 9, none⟩ (.slice s.ga s.gl s.gc)) := by
  have hf : s.Far (w.heap.size + 1) := ⟨fun z hz => by have := h1 z hz; omega, fun z hz => by have := h2 z hz; omega, fun z hz => by have := h3 z hz; omega⟩
  have hX := set10 (v0 := .int .i64 y.kind) (v1 := .int .i64 y.level) (v2 := .slice s.ea s.el s.ec) (v3 := .int .i64 y.hb) (v4 := .string y.hr) (v5 := .int .i64 y.cr) (v6 := .int .i64 y.cc) (v7 := .slice s.ca s.cl s.cc) (v8 := .int .i64 y.gf) (v9 := .slice s.ga s.gl s.gc) hY
  have hA' := (((((((((hA.set (o := 0) hf (.int .i64 y.kind)).set (o := 1) hf (.int .i64 y.level)).set (o := 2) hf (.slice s.ea s.el s.ec)).set (o := 3) hf (.int .i64 y.hb)).set (o := 4) hf (.string y.hr)).set (o := 5) hf (.int .i64 y.cr)).set (o := 6) hf (.int .i64 y.cc)).set (o := 7) hf (.slice s.ca s.cl s.cc)).set (o := 8) hf (.int .i64 y.gf)).set (o := 9) hf (.slice s.ga s.gl s.gc)
  have hB' := (((((((((hB.setCell (p := ⟨w.heap.size + 1, 0, none⟩) (Nat.le_succ _) (.int .i64 y.kind)).setCell (p := ⟨w.heap.size + 1, 1, none⟩) (Nat.le_succ _) (.int .i64 y.level)).setCell (p := ⟨w.heap.size + 1, 2, none⟩) (Nat.le_succ _) (.slice s.ea s.el s.ec)).setCell (p := ⟨w.heap.size + 1, 3, none⟩) (Nat.le_succ _) (.int .i64 y.hb)).setCell (p := ⟨w.heap.size + 1, 4, none⟩) (Nat.le_succ _) (.string y.hr)).setCell (p := ⟨w.heap.size + 1, 5, none⟩) (Nat.le_succ _) (.int .i64 y.cr)).setCell (p := ⟨w.heap.size + 1, 6, none⟩) (Nat.le_succ _) (.int .i64 y.cc)).setCell (p := ⟨w.heap.size + 1, 7, none⟩) (Nat.le_succ _) (.slice s.ca s.cl s.cc)).setCell (p := ⟨w.heap.size + 1, 8, none⟩) (Nat.le_succ _) (.int .i64 y.gf)).setCell (p := ⟨w.heap.size + 1, 9, none⟩) (Nat.le_succ _) (.slice s.ga s.gl s.gc)
  rw [show W.heap.size = _ from (by simp only [size_set] : W.heap.size = ((((((((((W.setCell ⟨w.heap.size + 1, 0, none⟩ (.int .i64 y.kind)).setCell ⟨w.heap.size + 1, 1, none⟩ (.int .i64 y.level)).setCell ⟨w.heap.size + 1, 2, none⟩ (.slice s.ea s.el s.ec)).setCell ⟨w.heap.size + 1, 3, none⟩ (.int .i64 y.hb)).setCell ⟨w.heap.size + 1, 4, none⟩ (.string y.hr)).setCell ⟨w.heap.size + 1, 5, none⟩ (.int .i64 y.cr)).setCell ⟨w.heap.size + 1, 6, none⟩ (.int .i64 y.cc)).setCell ⟨w.heap.size + 1, 7, none⟩ (.slice s.ca s.cl s.cc)).setCell ⟨w.heap.size + 1, 8, none⟩ (.int .i64 y.gf)).setCell ⟨w.heap.size + 1, 9, none⟩ (.slice s.ga s.gl s.gc)).heap.size)] at hA'
  generalize ((((((((((W.setCell ⟨w.heap.size + 1, 0, none⟩ (.int .i64 y.kind)).setCell ⟨w.heap.size + 1, 1, none⟩ (.int .i64 y.level)).setCell ⟨w.heap.size + 1, 2, none⟩ (.slice s.ea s.el s.ec)).setCell ⟨w.heap.size + 1, 3, none⟩ (.int .i64 y.hb)).setCell ⟨w.heap.size + 1, 4, none⟩ (.string y.hr)).setCell ⟨w.heap.size + 1, 5, none⟩ (.int .i64 y.cr)).setCell ⟨w.heap.size + 1, 6, none⟩ (.int .i64 y.cc)).setCell ⟨w.heap.size + 1, 7, none⟩ (.slice s.ca s.cl s.cc)).setCell ⟨w.heap.size + 1, 8, none⟩ (.int .i64 y.gf)).setCell ⟨w.heap.size + 1, 9, none⟩ (.slice s.ga s.gl s.gc)) = Z at hX hA' hB' ⊢
  have k0 : Z.cell? ⟨w.heap.size + 1, 0, none⟩ = some (.int .i64 y.kind) := cell_of_cells hX 0
  have k1 : Z.cell? ⟨w.heap.size + 1, 1, none⟩ = some (.int .i64 y.level) := cell_of_cells hX 1
  have k2 : Z.cell? ⟨w.heap.size + 1, 2, none⟩ = some (.slice s.ea s.el s.ec) := cell_of_cells hX 2
  have k3 : Z.cell? ⟨w.heap.size + 1, 3, none⟩ = some (.int .i64 y.hb) := cell_of_cells hX 3
  have k4 : Z.cell? ⟨w.heap.size + 1, 4, none⟩ = some (.string y.hr) := cell_of_cells hX 4
  have k5 : Z.cell? ⟨w.heap.size + 1, 5, none⟩ = some (.int .i64 y.cr) := cell_of_cells hX 5
  have k6 : Z.cell? ⟨w.heap.size + 1, 6, none⟩ = some (.int .i64 y.cc) := cell_of_cells hX 6
  have k7 : Z.cell? ⟨w.heap.size + 1, 7, none⟩ = some (.slice s.ca s.cl s.cc) := cell_of_cells hX 7
  have k8 : Z.cell? ⟨w.heap.size + 1, 8, none⟩ = some (.int .i64 y.gf) := cell_of_cells hX 8
  have k9 : Z.cell? ⟨w.heap.size + 1, 9, none⟩ = some (.slice s.ga s.gl s.gc) := cell_of_cells hX 9
  refine bodyPost_ret (v := .agg #[.int .i64 y.kind, .int .i64 y.level, .slice s.ea s.el s.ec, .int .i64 y.hb, .string y.hr, .int .i64 y.cr, .int .i64 y.cc, .slice s.ca s.cl s.cc, .int .i64 y.gf, .slice s.ga s.gl s.gc]) (by simp [results, Tryd.f42, go_sem, t2, k0, k1, k2, k3, k4, k5, k6, k7, k8, k9]) rfl ⟨s, rfl, hA', fun z hz => by have := h1 z hz; omega, fun z hz => by have := h2 z hz; omega, fun z hz => by have := h3 z hz; omega, hB'⟩

set_option maxRecDepth 100000 in
set_option maxHeartbeats 4000000 in
theorem sketch_num (kind level : Int) (l : List Int) (a : Option Addr) (len cap : Nat) (w : World) (hL : SlE encU 1 w.heap.size w a len l) (hll : len < 2147483648) :
    Calls Tryd.prog 42 #[.agg #[.iface 127 (.agg #[.slice a len cap]), .int .i64 kind, .int .i64 level]] w (SkPost (skNum kind level l) w) := by
  obtain ⟨W0, hW0, hX0, hX1, hX2, hB0, hs0⟩ := boxes3 w #[.iface 127 (.agg #[.slice a len cap]), .int .i64 kind, .int .i64 level] 79 #[.int .i64 0, .int .i64 0, .slice none 0 0, .int .i64 0, .string ⟨#[]⟩, .int .i64 0, .int .i64 0, .slice none 0 0, .int .i64 0, .slice none 0 0] 33 #[.int .i64 kind, .int .i64 level, .slice none 0 0, .int .i64 0, .string ⟨#[]⟩, .int .i64 0, .int .i64 0, .slice none 0 0, .int .i64 0, .slice none 0 0] 33
  have ht := fun w => isNum (.agg #[.slice a len cap]) w a len cap rfl
  obtain ⟨W1, hW1, hX3, hB1, hs1⟩ := boxes1 W0 #[.slice a len cap] 127
  have hB01 := hB0.trans (hB1.mono hB0.size)
  have hC := clone_u64 a len cap l W1 (hL.go hB01) hll
  have HW0 := Lib.hid hW0
  have HW1 := Lib.hid hW1
  have HX1 := Lib.hid (known hB1 (Nat.le_refl _) hX1)
  have HX2 := Lib.hid (known hB1 (Nat.le_refl _) hX2)
  have hz : w.heap.size + 3 < W1.heap.size := by omega
  clear hL hW0 hW1 hX0 hX1 hX2 hX3 hs1 hs0
  go_enter Tryd.func42, Tryd.ntmps42
  go_wp2_with fail
  rw [HW0.out, HW1.out]
  refine hC.mono ?_
  rintro e w2 ⟨a', cap', rfl, hs2, hlo, hb2⟩
  have hY1 := known hb2 (Nat.le_refl _) HX1.out
  have hY2 := known hb2 (Nat.le_refl _) HX2.out
  have p0 : w2.cell? ⟨w.heap.size + 1, 0, none⟩ = some (.int .i64 0) := cell_of_cells hY1 0
  have p1 : w2.cell? ⟨w.heap.size + 1, 1, none⟩ = some (.int .i64 0) := cell_of_cells hY1 1
  have p2 : w2.cell? ⟨w.heap.size + 1, 2, none⟩ = some (.slice none 0 0) := cell_of_cells hY1 2
  have p3 : w2.cell? ⟨w.heap.size + 1, 3, none⟩ = some (.int .i64 0) := cell_of_cells hY1 3
  have p4 : w2.cell? ⟨w.heap.size + 1, 4, none⟩ = some (.string ⟨#[]⟩) := cell_of_cells hY1 4
  have p5 : w2.cell? ⟨w.heap.size + 1, 5, none⟩ = some (.int .i64 0) := cell_of_cells hY1 5
  have p6 : w2.cell? ⟨w.heap.size + 1, 6, none⟩ = some (.int .i64 0) := cell_of_cells hY1 6
  have p7 : w2.cell? ⟨w.heap.size + 1, 7, none⟩ = some (.slice none 0 0) := cell_of_cells hY1 7
  have p8 : w2.cell? ⟨w.heap.size + 1, 8, none⟩ = some (.int .i64 0) := cell_of_cells hY1 8
  have p9 : w2.cell? ⟨w.heap.size + 1, 9, none⟩ = some (.slice none 0 0) := cell_of_cells hY1 9
  have f0 : w2.frozen? ⟨w.heap.size + 1, 0, none⟩ = false := frozen_of_cells hY1 0
  have f1 : w2.frozen? ⟨w.heap.size + 1, 1, none⟩ = false := frozen_of_cells hY1 1
  have f2 : w2.frozen? ⟨w.heap.size + 1, 2, none⟩ = false := frozen_of_cells hY1 2
  have f3 : w2.frozen? ⟨w.heap.size + 1, 3, none⟩ = false := frozen_of_cells hY1 3
  have f4 : w2.frozen? ⟨w.heap.size + 1, 4, none⟩ = false := frozen_of_cells hY1 4
  have f5 : w2.frozen? ⟨w.heap.size + 1, 5, none⟩ = false := frozen_of_cells hY1 5
  have f6 : w2.frozen? ⟨w.heap.size + 1, 6, none⟩ = false := frozen_of_cells hY1 6
  have f7 : w2.frozen? ⟨w.heap.size + 1, 7, none⟩ = false := frozen_of_cells hY1 7
  have f8 : w2.frozen? ⟨w.heap.size + 1, 8, none⟩ = false := frozen_of_cells hY1 8
  have f9 : w2.frozen? ⟨w.heap.size + 1, 9, none⟩ = false := frozen_of_cells hY1 9
  have q0 : w2.cell? ⟨w.heap.size + 1 + 1, 0, none⟩ = some (.int .i64 kind) := cell_of_cells hY2 0
  have q1 : w2.cell? ⟨w.heap.size + 1 + 1, 1, none⟩ = some (.int .i64 level) := cell_of_cells hY2 1
  have q2 : w2.cell? ⟨w.heap.size + 1 + 1, 2, none⟩ = some (.slice none 0 0) := cell_of_cells hY2 2
  have q3 : w2.cell? ⟨w.heap.size + 1 + 1, 3, none⟩ = some (.int .i64 0) := cell_of_cells hY2 3
  have q4 : w2.cell? ⟨w.heap.size + 1 + 1, 4, none⟩ = some (.string ⟨#[]⟩) := cell_of_cells hY2 4
  have q5 : w2.cell? ⟨w.heap.size + 1 + 1, 5, none⟩ = some (.int .i64 0) := cell_of_cells hY2 5
  have q6 : w2.cell? ⟨w.heap.size + 1 + 1, 6, none⟩ = some (.int .i64 0) := cell_of_cells hY2 6
  have q7 : w2.cell? ⟨w.heap.size + 1 + 1, 7, none⟩ = some (.slice none 0 0) := cell_of_cells hY2 7
  have q8 : w2.cell? ⟨w.heap.size + 1 + 1, 8, none⟩ = some (.int .i64 0) := cell_of_cells hY2 8
  have q9 : w2.cell? ⟨w.heap.size + 1 + 1, 9, none⟩ = some (.slice none 0 0) := cell_of_cells hY2 9
  have g2 : w2.frozen? ⟨w.heap.size + 1 + 1, 2, none⟩ = false := frozen_of_cells hY2 2
  have hne : w.heap.size + 1 ≠ w.heap.size + 1 + 1 := by omega
  clear hC ht HX1 HX2 HW0 HW1
  go_wp2_with fail
  have hBw2 : Below w.heap.size w w2 := hB01.trans (hb2.mono hB01.size)
  have hA : SS.At ⟨a', len, cap', none, 0, 0, none, 0, 0⟩ w2.heap.size w2 (skNum kind level l) := ⟨hs2, SlC.nil, SlC.nil⟩
  have hfar : SS.Far ⟨a', len, cap', none, 0, 0, none, 0, 0⟩ (w.heap.size + 1 + 1) := ⟨(fun z hz => by have := hlo z hz; omega), (fun z hz => by cases hz), (fun z hz => by cases hz)⟩
  have hA2 := hA.set (o := 2) hfar (.slice a' len cap')
  rw [← size_set w2 ⟨w.heap.size + 1 + 1, 2, none⟩ (.slice a' len cap')] at hA2
  have hY3 := (heap_set_other (W := w2) (p := ⟨w.heap.size + 1 + 1, 2, none⟩) (b := w.heap.size + 1) (by show w.heap.size + 1 + 1 ≠ _; omega) (.slice a' len cap')).trans hY1
  exact sk_ret (y := skNum kind level l) (s := ⟨a', len, cap', none, 0, 0, none, 0, 0⟩) hY3 (hBw2.setCell (p := ⟨w.heap.size + 1 + 1, 2, none⟩) (by show w.heap.size ≤ w.heap.size + 1 + 1; omega) _) hA2 (fun z hz => by have := hlo z hz; omega) (fun z hz => by cases hz) (fun z hz => by cases hz) rfl
end Go.Proofs.YtjpnbkdhmjgdgaaDoor
namespace Go.Proofs.YtjpnbkdhmjgdgaaDoor
open Go Go.RowKit

theorem asReg (b : Int) (r : ByteArray) (w : World) : (Instr.typeAssert (.iface 130 (.agg #[.int .i64 b, .string r])) 77 127 true).run Tryd.prog w = .ok (.tuple #[.agg #[.slice none 0 0], .bool false]) w ∧
    (Instr.typeAssert (.iface 130 (.agg #[.int .i64 b, .string r])) 77 130 true).run Tryd.prog w = .ok (.tuple #[.agg #[.int .i64 b, .string r], .bool true]) w := ⟨by kernel_rfl, by kernel_rfl⟩
theorem asCnt (r c : Int) (a : Option Addr) (n m : Nat) (w : World) : (Instr.typeAssert (.iface 132 (.agg #[.int .i64 r, .int .i64 c, .slice a n m])) 77 127 true).run Tryd.prog w = .ok (.tuple #[.agg #[.slice none 0 0], .bool false]) w ∧
    (Instr.typeAssert (.iface 132 (.agg #[.int .i64 r, .int .i64 c, .slice a n m])) 77 130 true).run Tryd.prog w = .ok (.tuple #[.agg #[.int .i64 0, .string ⟨#[]⟩], .bool false]) w ∧
    (Instr.typeAssert (.iface 132 (.agg #[.int .i64 r, .int .i64 c, .slice a n m])) 77 132 true).run Tryd.prog w = .ok (.tuple #[.agg #[.int .i64 r, .int .i64 c, .slice a n m], .bool true]) w := ⟨by kernel_rfl, by kernel_rfl, by kernel_rfl⟩
theorem asBkt (f : Int) (a : Option Addr) (n m : Nat) (w : World) : (Instr.typeAssert (.iface 134 (.agg #[.int .i64 f, .slice a n m])) 77 127 true).run Tryd.prog w = .ok (.tuple #[.agg #[.slice none 0 0], .bool false]) w ∧
    (Instr.typeAssert (.iface 134 (.agg #[.int .i64 f, .slice a n m])) 77 130 true).run Tryd.prog w = .ok (.tuple #[.agg #[.int .i64 0, .string ⟨#[]⟩], .bool false]) w ∧
    (Instr.typeAssert (.iface 134 (.agg #[.int .i64 f, .slice a n m])) 77 132 true).run Tryd.prog w = .ok (.tuple #[.agg #[.int .i64 0, .int .i64 0, .slice none 0 0], .bool false]) w ∧
    (Instr.typeAssert (.iface 134 (.agg #[.int .i64 f, .slice a n m])) 77 134 true).run Tryd.prog w = .ok (.tuple #[.agg #[.int .i64 f, .slice a n m], .bool true]) w := ⟨by kernel_rfl, by kernel_rfl, by kernel_rfl, by kernel_rfl⟩
def skReg (kind level : Int) (b : Int) (r : ByteArray) : Sk := ⟨kind, level, [], b, r, 0, 0, [], 0, []⟩
def skCnt (kind level : Int) (r c : Int) (l : List Int) : Sk := ⟨kind, level, [], 0, ⟨#[]⟩, r, c, l, 0, []⟩
def skBkt (kind level : Int) (f : Int) (l : List (Int × Int)) : Sk := ⟨kind, level, [], 0, ⟨#[]⟩, 0, 0, [], f, l⟩

set_option maxRecDepth 100000 in
set_option maxHeartbeats 4000000 in
theorem sketch_reg (kind level b : Int) (r : ByteArray) (w : World) :
    Calls Tryd.prog 42 #[.agg #[.iface 130 (.agg #[.int .i64 b, .string r]), .int .i64 kind, .int .i64 level]] w (SkPost (skReg kind level b r) w) := by
  have h1 := fun w => (asReg b r w).1
  have h2 := fun w => (asReg b r w).2
  go_enter Tryd.func42, Tryd.ntmps42
  go_wp2_with fail
  refine bodyPost_ret (v := .agg #[.int .i64 kind, .int .i64 level, .slice none 0 0, .int .i64 b, .string r, .int .i64 0, .int .i64 0, .slice none 0 0, .int .i64 0, .slice none 0 0]) (by simp [results, Tryd.f42, go_sem]) rfl ⟨⟨none, 0, 0, none, 0, 0, none, 0, 0⟩, rfl, ⟨SlC.nil, SlC.nil, SlC.nil⟩, (fun z hz => by cases hz), (fun z hz => by cases hz), (fun z hz => by cases hz), ?_⟩
  exact ((((Below.refl _ w).alloc (Nat.le_refl _) _).alloc (by simp) _).alloc (by simp; omega) _).alloc (by simp; omega) _

set_option maxRecDepth 100000 in
set_option maxHeartbeats 4000000 in
theorem sketch_cnt (kind level r c : Int) (l : List Int) (a : Option Addr) (len cap : Nat) (w : World) (hL : SlE encU 1 w.heap.size w a len l) (hll : len < 2147483648) :
    Calls Tryd.prog 42 #[.agg #[.iface 132 (.agg #[.int .i64 r, .int .i64 c, .slice a len cap]), .int .i64 kind, .int .i64 level]] w (SkPost (skCnt kind level r c l) w) := by
  obtain ⟨W0, hW0, hX0, hX1, hX2, hB0, hs0⟩ := boxes3 w #[.iface 132 (.agg #[.int .i64 r, .int .i64 c, .slice a len cap]), .int .i64 kind, .int .i64 level] 79 #[.int .i64 0, .int .i64 0, .slice none 0 0, .int .i64 0, .string ⟨#[]⟩, .int .i64 0, .int .i64 0, .slice none 0 0, .int .i64 0, .slice none 0 0] 33 #[.int .i64 kind, .int .i64 level, .slice none 0 0, .int .i64 0, .string ⟨#[]⟩, .int .i64 r, .int .i64 c, .slice a len cap, .int .i64 0, .slice none 0 0] 33
  have h1 := fun w => (asCnt r c a len cap w).1
  have h2 := fun w => (asCnt r c a len cap w).2.1
  have h3 := fun w => (asCnt r c a len cap w).2.2
  obtain ⟨W1, hW1, hX3, hB1, hs1⟩ := boxes1 W0 #[.int .i64 r, .int .i64 c, .slice a len cap] 132
  have hB01 := hB0.trans (hB1.mono hB0.size)
  have hC := clone_u64 a len cap l W1 (hL.go hB01) hll
  have HW0 := Lib.hid hW0
  have HW1 := Lib.hid hW1
  have HX1 := Lib.hid (known hB1 (Nat.le_refl _) hX1)
  have HX2 := Lib.hid (known hB1 (Nat.le_refl _) hX2)
  have hz : w.heap.size + 3 < W1.heap.size := by omega
  clear hL hW0 hW1 hX0 hX1 hX2 hX3 hs1 hs0
  go_enter Tryd.func42, Tryd.ntmps42
  go_wp2_with fail
  rw [HW0.out, HW1.out]
  refine hC.mono ?_
  rintro e w2 ⟨a', cap', rfl, hs2, hlo, hb2⟩
  have hY1 := known hb2 (Nat.le_refl _) HX1.out
  have hY2 := known hb2 (Nat.le_refl _) HX2.out
  have p0 : w2.cell? ⟨w.heap.size + 1, 0, none⟩ = some (.int .i64 0) := cell_of_cells hY1 0
  have p1 : w2.cell? ⟨w.heap.size + 1, 1, none⟩ = some (.int .i64 0) := cell_of_cells hY1 1
  have p2 : w2.cell? ⟨w.heap.size + 1, 2, none⟩ = some (.slice none 0 0) := cell_of_cells hY1 2
  have p3 : w2.cell? ⟨w.heap.size + 1, 3, none⟩ = some (.int .i64 0) := cell_of_cells hY1 3
  have p4 : w2.cell? ⟨w.heap.size + 1, 4, none⟩ = some (.string ⟨#[]⟩) := cell_of_cells hY1 4
  have p5 : w2.cell? ⟨w.heap.size + 1, 5, none⟩ = some (.int .i64 0) := cell_of_cells hY1 5
  have p6 : w2.cell? ⟨w.heap.size + 1, 6, none⟩ = some (.int .i64 0) := cell_of_cells hY1 6
  have p7 : w2.cell? ⟨w.heap.size + 1, 7, none⟩ = some (.slice none 0 0) := cell_of_cells hY1 7
  have p8 : w2.cell? ⟨w.heap.size + 1, 8, none⟩ = some (.int .i64 0) := cell_of_cells hY1 8
  have p9 : w2.cell? ⟨w.heap.size + 1, 9, none⟩ = some (.slice none 0 0) := cell_of_cells hY1 9
  have f0 : w2.frozen? ⟨w.heap.size + 1, 0, none⟩ = false := frozen_of_cells hY1 0
  have f1 : w2.frozen? ⟨w.heap.size + 1, 1, none⟩ = false := frozen_of_cells hY1 1
  have f2 : w2.frozen? ⟨w.heap.size + 1, 2, none⟩ = false := frozen_of_cells hY1 2
  have f3 : w2.frozen? ⟨w.heap.size + 1, 3, none⟩ = false := frozen_of_cells hY1 3
  have f4 : w2.frozen? ⟨w.heap.size + 1, 4, none⟩ = false := frozen_of_cells hY1 4
  have f5 : w2.frozen? ⟨w.heap.size + 1, 5, none⟩ = false := frozen_of_cells hY1 5
  have f6 : w2.frozen? ⟨w.heap.size + 1, 6, none⟩ = false := frozen_of_cells hY1 6
  have f7 : w2.frozen? ⟨w.heap.size + 1, 7, none⟩ = false := frozen_of_cells hY1 7
  have f8 : w2.frozen? ⟨w.heap.size + 1, 8, none⟩ = false := frozen_of_cells hY1 8
  have f9 : w2.frozen? ⟨w.heap.size + 1, 9, none⟩ = false := frozen_of_cells hY1 9
  have q0 : w2.cell? ⟨w.heap.size + 1 + 1, 0, none⟩ = some (.int .i64 kind) := cell_of_cells hY2 0
  have q1 : w2.cell? ⟨w.heap.size + 1 + 1, 1, none⟩ = some (.int .i64 level) := cell_of_cells hY2 1
  have q2 : w2.cell? ⟨w.heap.size + 1 + 1, 2, none⟩ = some (.slice none 0 0) := cell_of_cells hY2 2
  have q3 : w2.cell? ⟨w.heap.size + 1 + 1, 3, none⟩ = some (.int .i64 0) := cell_of_cells hY2 3
  have q4 : w2.cell? ⟨w.heap.size + 1 + 1, 4, none⟩ = some (.string ⟨#[]⟩) := cell_of_cells hY2 4
  have q5 : w2.cell? ⟨w.heap.size + 1 + 1, 5, none⟩ = some (.int .i64 r) := cell_of_cells hY2 5
  have q6 : w2.cell? ⟨w.heap.size + 1 + 1, 6, none⟩ = some (.int .i64 c) := cell_of_cells hY2 6
  have q7 : w2.cell? ⟨w.heap.size + 1 + 1, 7, none⟩ = some (.slice a len cap) := cell_of_cells hY2 7
  have q8 : w2.cell? ⟨w.heap.size + 1 + 1, 8, none⟩ = some (.int .i64 0) := cell_of_cells hY2 8
  have q9 : w2.cell? ⟨w.heap.size + 1 + 1, 9, none⟩ = some (.slice none 0 0) := cell_of_cells hY2 9
  have g2 : w2.frozen? ⟨w.heap.size + 1 + 1, 7, none⟩ = false := frozen_of_cells hY2 7
  have hne : w.heap.size + 1 ≠ w.heap.size + 1 + 1 := by omega
  clear hC h1 h2 h3 HX1 HX2 HW0 HW1
  go_wp2_with fail
  have hBw2 : Below w.heap.size w w2 := hB01.trans (hb2.mono hB01.size)
  have hA : SS.At ⟨none, 0, 0, a', len, cap', none, 0, 0⟩ w2.heap.size w2 (skCnt kind level r c l) := ⟨SlC.nil, hs2, SlC.nil⟩
  have hfar : SS.Far ⟨none, 0, 0, a', len, cap', none, 0, 0⟩ (w.heap.size + 1 + 1) := ⟨(fun z hz => by cases hz), (fun z hz => by have := hlo z hz; omega), (fun z hz => by cases hz)⟩
  have hA2 := hA.set (o := 7) hfar (.slice a' len cap')
  rw [← size_set w2 ⟨w.heap.size + 1 + 1, 7, none⟩ (.slice a' len cap')] at hA2
  have hY3 := (heap_set_other (W := w2) (p := ⟨w.heap.size + 1 + 1, 7, none⟩) (b := w.heap.size + 1) (by show w.heap.size + 1 + 1 ≠ _; omega) (.slice a' len cap')).trans hY1
  exact sk_ret (y := skCnt kind level r c l) (s := ⟨none, 0, 0, a', len, cap', none, 0, 0⟩) hY3 (hBw2.setCell (p := ⟨w.heap.size + 1 + 1, 7, none⟩) (by show w.heap.size ≤ w.heap.size + 1 + 1; omega) _) hA2 (fun z hz => by cases hz) (fun z hz => by have := hlo z hz; omega) (fun z hz => by cases hz) rfl

set_option maxRecDepth 100000 in
set_option maxHeartbeats 4000000 in
theorem sketch_bkt (kind level f : Int) (l : List (Int × Int)) (a : Option Addr) (len cap : Nat) (w : World) (hL : SlE encB 2 w.heap.size w a len l) (hll : len < 2147483648) :
    Calls Tryd.prog 42 #[.agg #[.iface 134 (.agg #[.int .i64 f, .slice a len cap]), .int .i64 kind, .int .i64 level]] w (SkPost (skBkt kind level f l) w) := by
  obtain ⟨W0, hW0, hX0, hX1, hX2, hB0, hs0⟩ := boxes3 w #[.iface 134 (.agg #[.int .i64 f, .slice a len cap]), .int .i64 kind, .int .i64 level] 79 #[.int .i64 0, .int .i64 0, .slice none 0 0, .int .i64 0, .string ⟨#[]⟩, .int .i64 0, .int .i64 0, .slice none 0 0, .int .i64 0, .slice none 0 0] 33 #[.int .i64 kind, .int .i64 level, .slice none 0 0, .int .i64 0, .string ⟨#[]⟩, .int .i64 0, .int .i64 0, .slice none 0 0, .int .i64 f, .slice a len cap] 33
  have h1 := fun w => (asBkt f a len cap w).1
  have h2 := fun w => (asBkt f a len cap w).2.1
  have h3 := fun w => (asBkt f a len cap w).2.2.1
  have h4 := fun w => (asBkt f a len cap w).2.2.2
  obtain ⟨W1, hW1, hX3, hB1, hs1⟩ := boxes1 W0 #[.int .i64 f, .slice a len cap] 134
  have hB01 := hB0.trans (hB1.mono hB0.size)
  have hC := clone_bin a len cap l W1 (hL.go hB01) hll
  have HW0 := Lib.hid hW0
  have HW1 := Lib.hid hW1
  have HX1 := Lib.hid (known hB1 (Nat.le_refl _) hX1)
  have HX2 := Lib.hid (known hB1 (Nat.le_refl _) hX2)
  have hz : w.heap.size + 3 < W1.heap.size := by omega
  clear hL hW0 hW1 hX0 hX1 hX2 hX3 hs1 hs0
  go_enter Tryd.func42, Tryd.ntmps42
  go_wp2_with fail
  rw [HW0.out, HW1.out]
  refine hC.mono ?_
  rintro e w2 ⟨a', cap', rfl, hs2, hlo, hb2⟩
  have hY1 := known hb2 (Nat.le_refl _) HX1.out
  have hY2 := known hb2 (Nat.le_refl _) HX2.out
  have p0 : w2.cell? ⟨w.heap.size + 1, 0, none⟩ = some (.int .i64 0) := cell_of_cells hY1 0
  have p1 : w2.cell? ⟨w.heap.size + 1, 1, none⟩ = some (.int .i64 0) := cell_of_cells hY1 1
  have p2 : w2.cell? ⟨w.heap.size + 1, 2, none⟩ = some (.slice none 0 0) := cell_of_cells hY1 2
  have p3 : w2.cell? ⟨w.heap.size + 1, 3, none⟩ = some (.int .i64 0) := cell_of_cells hY1 3
  have p4 : w2.cell? ⟨w.heap.size + 1, 4, none⟩ = some (.string ⟨#[]⟩) := cell_of_cells hY1 4
  have p5 : w2.cell? ⟨w.heap.size + 1, 5, none⟩ = some (.int .i64 0) := cell_of_cells hY1 5
  have p6 : w2.cell? ⟨w.heap.size + 1, 6, none⟩ = some (.int .i64 0) := cell_of_cells hY1 6
  have p7 : w2.cell? ⟨w.heap.size + 1, 7, none⟩ = some (.slice none 0 0) := cell_of_cells hY1 7
  have p8 : w2.cell? ⟨w.heap.size + 1, 8, none⟩ = some (.int .i64 0) := cell_of_cells hY1 8
  have p9 : w2.cell? ⟨w.heap.size + 1, 9, none⟩ = some (.slice none 0 0) := cell_of_cells hY1 9
  have f0 : w2.frozen? ⟨w.heap.size + 1, 0, none⟩ = false := frozen_of_cells hY1 0
  have f1 : w2.frozen? ⟨w.heap.size + 1, 1, none⟩ = false := frozen_of_cells hY1 1
  have f2 : w2.frozen? ⟨w.heap.size + 1, 2, none⟩ = false := frozen_of_cells hY1 2
  have f3 : w2.frozen? ⟨w.heap.size + 1, 3, none⟩ = false := frozen_of_cells hY1 3
  have f4 : w2.frozen? ⟨w.heap.size + 1, 4, none⟩ = false := frozen_of_cells hY1 4
  have f5 : w2.frozen? ⟨w.heap.size + 1, 5, none⟩ = false := frozen_of_cells hY1 5
  have f6 : w2.frozen? ⟨w.heap.size + 1, 6, none⟩ = false := frozen_of_cells hY1 6
  have f7 : w2.frozen? ⟨w.heap.size + 1, 7, none⟩ = false := frozen_of_cells hY1 7
  have f8 : w2.frozen? ⟨w.heap.size + 1, 8, none⟩ = false := frozen_of_cells hY1 8
  have f9 : w2.frozen? ⟨w.heap.size + 1, 9, none⟩ = false := frozen_of_cells hY1 9
  have q0 : w2.cell? ⟨w.heap.size + 1 + 1, 0, none⟩ = some (.int .i64 kind) := cell_of_cells hY2 0
  have q1 : w2.cell? ⟨w.heap.size + 1 + 1, 1, none⟩ = some (.int .i64 level) := cell_of_cells hY2 1
  have q2 : w2.cell? ⟨w.heap.size + 1 + 1, 2, none⟩ = some (.slice none 0 0) := cell_of_cells hY2 2
  have q3 : w2.cell? ⟨w.heap.size + 1 + 1, 3, none⟩ = some (.int .i64 0) := cell_of_cells hY2 3
  have q4 : w2.cell? ⟨w.heap.size + 1 + 1, 4, none⟩ = some (.string ⟨#[]⟩) := cell_of_cells hY2 4
  have q5 : w2.cell? ⟨w.heap.size + 1 + 1, 5, none⟩ = some (.int .i64 0) := cell_of_cells hY2 5
  have q6 : w2.cell? ⟨w.heap.size + 1 + 1, 6, none⟩ = some (.int .i64 0) := cell_of_cells hY2 6
  have q7 : w2.cell? ⟨w.heap.size + 1 + 1, 7, none⟩ = some (.slice none 0 0) := cell_of_cells hY2 7
  have q8 : w2.cell? ⟨w.heap.size + 1 + 1, 8, none⟩ = some (.int .i64 f) := cell_of_cells hY2 8
  have q9 : w2.cell? ⟨w.heap.size + 1 + 1, 9, none⟩ = some (.slice a len cap) := cell_of_cells hY2 9
  have g2 : w2.frozen? ⟨w.heap.size + 1 + 1, 9, none⟩ = false := frozen_of_cells hY2 9
  have hne : w.heap.size + 1 ≠ w.heap.size + 1 + 1 := by omega
  clear hC h1 h2 h3 h4 HX1 HX2 HW0 HW1
  go_wp2_with fail
  have hBw2 : Below w.heap.size w w2 := hB01.trans (hb2.mono hB01.size)
  have hA : SS.At ⟨none, 0, 0, none, 0, 0, a', len, cap'⟩ w2.heap.size w2 (skBkt kind level f l) := ⟨SlC.nil, SlC.nil, hs2⟩
  have hfar : SS.Far ⟨none, 0, 0, none, 0, 0, a', len, cap'⟩ (w.heap.size + 1 + 1) := ⟨(fun z hz => by cases hz), (fun z hz => by cases hz), (fun z hz => by have := hlo z hz; omega)⟩
  have hA2 := hA.set (o := 9) hfar (.slice a' len cap')
  rw [← size_set w2 ⟨w.heap.size + 1 + 1, 9, none⟩ (.slice a' len cap')] at hA2
  have hY3 := (heap_set_other (W := w2) (p := ⟨w.heap.size + 1 + 1, 9, none⟩) (b := w.heap.size + 1) (by show w.heap.size + 1 + 1 ≠ _; omega) (.slice a' len cap')).trans hY1
  exact sk_ret (y := skBkt kind level f l) (s := ⟨none, 0, 0, none, 0, 0, a', len, cap'⟩) hY3 (hBw2.setCell (p := ⟨w.heap.size + 1 + 1, 9, none⟩) (by show w.heap.size ≤ w.heap.size + 1 + 1; omega) _) hA2 (fun z hz => by cases hz) (fun z hz => by cases hz) (fun z hz => by have := hlo z hz; omega) rfl
end Go.Proofs.YtjpnbkdhmjgdgaaDoor

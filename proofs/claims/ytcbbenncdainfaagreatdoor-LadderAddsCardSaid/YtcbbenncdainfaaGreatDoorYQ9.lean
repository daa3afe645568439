/- Package ladder: work.sketch. Package ladder: work.sketch, the other bodies. DERIVED: THE SHELF's CONTRACTS AT THIS DUMP, IN PLAIN WORDS (tools/lay-plain.mjs out of 'TryzShelf.lean', which tools/lay-shelf.mjs wrote): THE SAME DECLARATIONS UNDER THE SAME NAMES: 'import', 'namespace', 'open', 'def', 'theorem' AND NOTHING ELSE: no command of the shelf's: FOR A HAND-IN. Each laying: the table of numbers ('.._ren') and one theorem, a field a fact of the dump's own or the kernel's comparison; each contract: ONE APPLICATION. Package hll: greater, ahead, Place; registers at work in memory. Package ladder: open. Package ladder: open at a kind that is none. Package exact: errno; what Add and Merge hand back. Package exact: Count. Package label: values, sets of labels (ranges over slices.Values). Package label: Less; slices of labels: Equal, Clone. Cells of a row that a call owns. -/
import Derived.Shelf.Small.Bits
import Derived.Shelf.Strconv.Itoa0
import Derived.Ground.SlgmProg
import Derived.Shelf.SortM.Plain
import Derived.Shelf.SortM.SortNone
import Derived.Laws.BytesArg
import Derived.Lib.ConvBytes
import Derived.Lib.MinMax
import Derived.Deep.RegionHeld3
import Derived.Deep.Cut
import Derived.Deep.CutRange
import Derived.Deep.DeepCutAuto
import Derived.Shelf.Strings.BuilderF
import Derived.Shelf.Strings.BuilderK
import Derived.Shelf.Strings.BuilderRune
import Derived.Test.YtcbbenncdainfaaGreatDoorYXE
namespace Go.Proofs.YtcbbenncdainfaaGreatDoor
open Go Go.RowKit
theorem isNum (v : Value) (w : World) (a : Option Addr) (l c : Nat) (hv : v = .agg #[.slice a l c]) : (Instr.typeAssert (.iface 144 v) 58 144 true).run Tryz.prog w = .ok (.tuple #[v, .bool true]) w := by subst hv; kernel_rfl
theorem set10 {W : World} {B : Nat} {x0 x1 x2 x3 x4 x5 x6 x7 x8 x9 v0 v1 v2 v3 v4 v5 v6 v7 v8 v9 : Value} {t : TypeId} (h : W.heap[B]? = some (.cells #[x0, x1, x2, x3, x4, x5, x6, x7, x8, x9] t (0, 0))) :
  ((((((((((W.setCell ⟨B, 0, none⟩ v0).setCell ⟨B, 1, none⟩ v1).setCell ⟨B, 2, none⟩ v2).setCell ⟨B, 3, none⟩ v3).setCell ⟨B, 4, none⟩ v4).setCell ⟨B, 5, none⟩ v5).setCell ⟨B, 6, none⟩ v6).setCell ⟨B, 7, none⟩ v7).setCell ⟨B, 8, none⟩ v8).setCell ⟨B, 9, none⟩ v9).heap[B]? = some (.cells #[v0, v1, v2, v3, v4, v5, v6, v7, v8, v9] t (0, 0)) := by
 replace h : (W.setCell ⟨B, 0, none⟩ v0).heap[B]? = some (.cells #[v0, x1, x2, x3, x4, x5, x6, x7, x8, x9] t (0, 0)) := hSk h v0
 generalize W.setCell ⟨B, 0, none⟩ v0 = W at h ⊢
 replace h : (W.setCell ⟨B, 1, none⟩ v1).heap[B]? = some (.cells #[v0, v1, x2, x3, x4, x5, x6, x7, x8, x9] t (0, 0)) := hSk h v1
 generalize W.setCell ⟨B, 1, none⟩ v1 = W at h ⊢
 replace h : (W.setCell ⟨B, 2, none⟩ v2).heap[B]? = some (.cells #[v0, v1, v2, x3, x4, x5, x6, x7, x8, x9] t (0, 0)) := hSk h v2
 generalize W.setCell ⟨B, 2, none⟩ v2 = W at h ⊢
 replace h : (W.setCell ⟨B, 3, none⟩ v3).heap[B]? = some (.cells #[v0, v1, v2, v3, x4, x5, x6, x7, x8, x9] t (0, 0)) := hSk h v3
 generalize W.setCell ⟨B, 3, none⟩ v3 = W at h ⊢
 replace h : (W.setCell ⟨B, 4, none⟩ v4).heap[B]? = some (.cells #[v0, v1, v2, v3, v4, x5, x6, x7, x8, x9] t (0, 0)) := hSk h v4
 generalize W.setCell ⟨B, 4, none⟩ v4 = W at h ⊢
 replace h : (W.setCell ⟨B, 5, none⟩ v5).heap[B]? = some (.cells #[v0, v1, v2, v3, v4, v5, x6, x7, x8, x9] t (0, 0)) := hSk h v5
 generalize W.setCell ⟨B, 5, none⟩ v5 = W at h ⊢
 replace h : (W.setCell ⟨B, 6, none⟩ v6).heap[B]? = some (.cells #[v0, v1, v2, v3, v4, v5, v6, x7, x8, x9] t (0, 0)) := hSk h v6
 generalize W.setCell ⟨B, 6, none⟩ v6 = W at h ⊢
 replace h : (W.setCell ⟨B, 7, none⟩ v7).heap[B]? = some (.cells #[v0, v1, v2, v3, v4, v5, v6, v7, x8, x9] t (0, 0)) := hSk h v7
 generalize W.setCell ⟨B, 7, none⟩ v7 = W at h ⊢
 replace h : (W.setCell ⟨B, 8, none⟩ v8).heap[B]? = some (.cells #[v0, v1, v2, v3, v4, v5, v6, v7, v8, x9] t (0, 0)) := hSk h v8
 generalize W.setCell ⟨B, 8, none⟩ v8 = W at h ⊢
 replace h : (W.setCell ⟨B, 9, none⟩ v9).heap[B]? = some (.cells #[v0, v1, v2, v3, v4, v5, v6, v7, v8, v9] t (0, 0)) := hSk h v9
 generalize W.setCell ⟨B, 9, none⟩ v9 = W at h ⊢
 exact h
def SkPost (y : Sk) (w : World) (e : Ending) (w' : World) : Prop := ∃ s : SS, e = .returned (.agg #[.int .i64 y.kind, .int .i64 y.level, .slice s.ea s.el s.ec, .int .i64 y.hb, .string y.hr, .int .i64 y.cr, .int .i64 y.cc, .slice s.ca s.cl s.cc, .int .i64 y.gf, .slice s.ga s.gl s.gc]) ∧ s.At w'.heap.size w' y ∧ (∀ z, s.ea = some z → w.heap.size ≤ z.block) ∧ (∀ z, s.ca = some z → w.heap.size ≤ z.block) ∧ (∀ z, s.ga = some z → w.heap.size ≤ z.block) ∧ Below w.heap.size w w'
def skNum (kind level : Int) (l : List Int) : Sk := ⟨kind, level, l, 0, ⟨#[]⟩, 0, 0, [], 0, []⟩
def SS.Far (s : SS) (b : Nat) : Prop := (∀ z, s.ea = some z → b ≠ z.block) ∧ (∀ z, s.ca = some z → b ≠ z.block) ∧ (∀ z, s.ga = some z → b ≠ z.block)
theorem SS.At.set {s : SS} {n : Nat} {W : World} {x : Sk} (h : s.At n W x) {b o : Nat} (hf : s.Far b) (v : Value) : s.At n (W.setCell ⟨b, o, none⟩ v) x :=
 ⟨h.e.set_far (p := ⟨b, o, none⟩) hf.1 v, h.c.set_far (p := ⟨b, o, none⟩) hf.2.1 v, h.g.set_far (p := ⟨b, o, none⟩) hf.2.2 v⟩
theorem heap_set_other {W : World} {p : Addr} {b : Nat} (h : p.block ≠ b) (v : Value) : (W.setCell p v).heap[b]? = W.heap[b]? := by
 show (W.heap.modify p.block _)[b]? = _
 rw [Array.getElem?_modify]
 simp [h]
theorem size_set (W : World) (p : Addr) (v : Value) : (W.setCell p v).heap.size = W.heap.size := by simp [World.setCell]
theorem sk_ret {w W : World} {y : Sk} {s : SS} {tm : Array Value} {x0 x1 x2 x3 x4 x5 x6 x7 x8 x9 : Value} (hY : W.heap[w.heap.size + 1]? = some (.cells #[x0, x1, x2, x3, x4, x5, x6, x7, x8, x9] 33 (0, 0))) (hB : Below w.heap.size w W) (hA : s.At W.heap.size W y)
  (h1 : ∀ z, s.ea = some z → w.heap.size + 2 ≤ z.block) (h2 : ∀ z, s.ca = some z → w.heap.size + 2 ≤ z.block) (h3 : ∀ z, s.ga = some z → w.heap.size + 2 ≤ z.block)
  (t2 : tm[2]?.getD undef = .pointer (some ⟨w.heap.size + 1, 0, none⟩)) :
  bodyPost Tryz.prog Tryz.f63 (SkPost y w) Exit.ret { tmps := tm, defers := [] }
   ((((((((((W.setCell ⟨w.heap.size + 1, 0, none⟩ (.int .i64 y.kind)).setCell ⟨w.heap.size + 1, 1, none⟩ (.int .i64 y.level)).setCell ⟨w.heap.size + 1, 2, none⟩ (.slice s.ea s.el s.ec)).setCell ⟨w.heap.size + 1, 3, none⟩ (.int .i64 y.hb)).setCell ⟨w.heap.size + 1, 4, none⟩ (.string y.hr)).setCell ⟨w.heap.size + 1, 5, none⟩ (.int .i64 y.cr)).setCell ⟨w.heap.size + 1, 6, none⟩ (.int .i64 y.cc)).setCell ⟨w.heap.size + 1, 7, none⟩ (.slice s.ca s.cl s.cc)).setCell ⟨w.heap.size + 1, 8, none⟩ (.int .i64 y.gf)).setCell ⟨w.heap.size + 1, 9, none⟩ (.slice s.ga s.gl s.gc)) := by
 have hf : s.Far (w.heap.size + 1) := ⟨fun z hz => by have := h1 z hz; omega, fun z hz => by have := h2 z hz; omega, fun z hz => by have := h3 z hz; omega⟩
 have hX := set10 (v0 := .int .i64 y.kind) (v1 := .int .i64 y.level) (v2 := .slice s.ea s.el s.ec) (v3 := .int .i64 y.hb) (v4 := .string y.hr) (v5 := .int .i64 y.cr) (v6 := .int .i64 y.cc) (v7 := .slice s.ca s.cl s.cc) (v8 := .int .i64 y.gf) (v9 := .slice s.ga s.gl s.gc) hY
 have hA' := (((((((((hA.set (o := 0) hf (.int .i64 y.kind)).set (o := 1) hf (.int .i64 y.level)).set (o := 2) hf (.slice s.ea s.el s.ec)).set (o := 3) hf (.int .i64 y.hb)).set (o := 4) hf (.string y.hr)).set (o := 5) hf (.int .i64 y.cr)).set (o := 6) hf (.int .i64 y.cc)).set (o := 7) hf (.slice s.ca s.cl s.cc)).set (o := 8) hf (.int .i64 y.gf)).set (o := 9) hf (.slice s.ga s.gl s.gc)
 have hB' := (((((((((hB.setCell (p := ⟨w.heap.size + 1, 0, none⟩) (Nat.le_succ _) (.int .i64 y.kind)).setCell (p := ⟨w.heap.size + 1, 1, none⟩) (Nat.le_succ _) (.int .i64 y.level)).setCell (p := ⟨w.heap.size + 1, 2, none⟩) (Nat.le_succ _) (.slice s.ea s.el s.ec)).setCell (p := ⟨w.heap.size + 1, 3, none⟩) (Nat.le_succ _) (.int .i64 y.hb)).setCell (p := ⟨w.heap.size + 1, 4, none⟩) (Nat.le_succ _) (.string y.hr)).setCell (p := ⟨w.heap.size + 1, 5, none⟩) (Nat.le_succ _) (.int .i64 y.cr)).setCell (p := ⟨w.heap.size + 1, 6, none⟩) (Nat.le_succ _) (.int .i64 y.cc)).setCell (p := ⟨w.heap.size + 1, 7, none⟩) (Nat.le_succ _) (.slice s.ca s.cl s.cc)).setCell (p := ⟨w.heap.size + 1, 8, none⟩) (Nat.le_succ _) (.int .i64 y.gf)).setCell (p := ⟨w.heap.size + 1, 9, none⟩) (Nat.le_succ _) (.slice s.ga s.gl s.gc)
 rw [show W.heap.size = _ from (by simp only [size_set] : W.heap.size = ((((((((((W.setCell ⟨w.heap.size + 1, 0, none⟩ (.int .i64 y.kind)).setCell ⟨w.heap.size + 1, 1, none⟩ (.int .i64 y.level)).setCell ⟨w.heap.size + 1, 2, none⟩ (.slice s.ea s.el s.ec)).setCell ⟨w.heap.size + 1, 3, none⟩ (.int .i64 y.hb)).setCell ⟨w.heap.size + 1, 4, none⟩ (.string y.hr)).setCell ⟨w.heap.size + 1, 5, none⟩ (.int .i64 y.cr)).setCell ⟨w.heap.size + 1, 6, none⟩ (.int .i64 y.cc)).setCell ⟨w.heap.size + 1, 7, none⟩ (.slice s.ca s.cl s.cc)).setCell ⟨w.heap.size + 1, 8, none⟩ (.int .i64 y.gf)).setCell ⟨w.heap.size + 1, 9, none⟩ (.slice s.ga s.gl s.gc)).heap.size)] at hA'
 generalize ((((((((((W.setCell ⟨w.heap.size + 1, 0, none⟩ (.int .i64 y.kind)).setCell ⟨w.heap.size + 1, 1, none⟩ (.int .i64 y.level)).setCell ⟨w.heap.size + 1, 2, none⟩ (.slice s.ea s.el s.ec)).setCell ⟨w.heap.size + 1, 3, none⟩ (.int .i64 y.hb)).setCell ⟨w.heap.size + 1, 4, none⟩ (.string y.hr)).setCell ⟨w.heap.size + 1, 5, none⟩ (.int .i64 y.cr)).setCell ⟨w.heap.size + 1, 6, none⟩ (.int .i64 y.cc)).setCell ⟨w.heap.size + 1, 7, none⟩ (.slice s.ca s.cl s.cc)).setCell ⟨w.heap.size + 1, 8, none⟩ (.int .i64 y.gf)).setCell ⟨w.heap.size + 1, 9, none⟩ (.slice s.ga s.gl s.gc)) = Z at hX hA' hB' ⊢
 obtain ⟨k0, k1, k2, k3, k4, k5, k6, k7, k8, k9⟩ := cl10 hX
 refine bodyPost_ret (v := .agg #[.int .i64 y.kind, .int .i64 y.level, .slice s.ea s.el s.ec, .int .i64 y.hb, .string y.hr, .int .i64 y.cr, .int .i64 y.cc, .slice s.ca s.cl s.cc, .int .i64 y.gf, .slice s.ga s.gl s.gc]) (by simp [results, Tryz.f63, go_sem, t2, k0, k1, k2, k3, k4, k5, k6, k7, k8, k9]) rfl ⟨s, rfl, hA', fun z hz => by have := h1 z hz; omega, fun z hz => by have := h2 z hz; omega, fun z hz => by have := h3 z hz; omega, hB'⟩
set_option maxRecDepth 100000 in
set_option maxHeartbeats 4000000 in
theorem sketch_num (kind level : Int) (l : List Int) (a : Option Addr) (len cap : Nat) (w : World) (hL : SlE encU 1 w.heap.size w a len l) (hll : len < 2147483648) :
  Calls Tryz.prog 63 #[.agg #[.iface 144 (.agg #[.slice a len cap]), .int .i64 kind, .int .i64 level]] w (SkPost (skNum kind level l) w) := by
 obtain ⟨W0, hW0, hX0, hX1, hX2, hB0, hs0⟩ := boxes3 w #[.iface 144 (.agg #[.slice a len cap]), .int .i64 kind, .int .i64 level] 60 #[.int .i64 0, .int .i64 0, .slice none 0 0, .int .i64 0, .string ⟨#[]⟩, .int .i64 0, .int .i64 0, .slice none 0 0, .int .i64 0, .slice none 0 0] 33 #[.int .i64 kind, .int .i64 level, .slice none 0 0, .int .i64 0, .string ⟨#[]⟩, .int .i64 0, .int .i64 0, .slice none 0 0, .int .i64 0, .slice none 0 0] 33
 have ht := fun w => isNum (.agg #[.slice a len cap]) w a len cap rfl
 obtain ⟨W1, hW1, hX3, hB1, hs1⟩ := boxes1 W0 #[.slice a len cap] 144
 have hB01 := hB0.trans (hB1.mono hB0.size)
 have hC := clone_u64 a len cap l W1 (hL.go hB01) hll
 have HW0 := Lib.hid hW0
 have HW1 := Lib.hid hW1
 have HX1 := Lib.hid (known hB1 (Nat.le_refl _) hX1)
 have HX2 := Lib.hid (known hB1 (Nat.le_refl _) hX2)
 have hz : w.heap.size + 3 < W1.heap.size := by omega
 clear hL hW0 hW1 hX0 hX1 hX2 hX3 hs1 hs0
 go_enter Tryz.func63, Tryz.ntmps63
 go_wp2_with fail
 rw [HW0.out, HW1.out]
 refine hC.mono ?_
 rintro e w2 ⟨a', cap', rfl, hs2, hlo, hb2⟩
 have hY1 := known hb2 (Nat.le_refl _) HX1.out
 have hY2 := known hb2 (Nat.le_refl _) HX2.out
 obtain ⟨p0, p1, p2, p3, p4, p5, p6, p7, p8, p9⟩ := cl10 hY1
 obtain ⟨f0, f1, f2, f3, f4, f5, f6, f7, f8, f9⟩ := cz10 hY1
 obtain ⟨q0, q1, q2, q3, q4, q5, q6, q7, q8, q9⟩ := cl10 hY2
 have g2 : w2.frozen? ⟨w.heap.size + 1 + 1, 2, none⟩ = false := cFz hY2 2
 have hne : w.heap.size + 1 ≠ w.heap.size + 1 + 1 := by omega
 clear hC ht HX1 HX2 HW0 HW1
 go_wp2_with fail
 have hBw2 : Below w.heap.size w w2 := hB01.trans (hb2.mono hB01.size)
 have hA : SS.At ⟨a', len, cap', none, 0, 0, none, 0, 0⟩ w2.heap.size w2 (skNum kind level l) := ⟨hs2, SlC.nil, SlC.nil⟩
 have hfar : SS.Far ⟨a', len, cap', none, 0, 0, none, 0, 0⟩ (w.heap.size + 1 + 1) := ⟨(fun z hz => by have := hlo z hz; omega), (fun z hz => by cases hz), (fun z hz => by cases hz)⟩
 have hA2 := hA.set (o := 2) hfar (.slice a' len cap')
 rw [← size_set w2 ⟨w.heap.size + 1 + 1, 2, none⟩ (.slice a' len cap')] at hA2
 have hY3 := (heap_set_other (W := w2) (p := ⟨w.heap.size + 1 + 1, 2, none⟩) (b := w.heap.size + 1) (by show w.heap.size + 1 + 1 ≠ _; omega) (.slice a' len cap')).trans hY1
 exact sk_ret (y := skNum kind level l) (s := ⟨a', len, cap', none, 0, 0, none, 0, 0⟩) hY3 (hBw2.setCell (p := ⟨w.heap.size + 1 + 1, 2, none⟩) (by show w.heap.size ≤ w.heap.size + 1 + 1; omega) _) hA2 (fun z hz => by have := hlo z hz; omega) (fun z hz => by cases hz) (fun z hz => by cases hz) rfl
end Go.Proofs.YtcbbenncdainfaaGreatDoor
namespace Go.Proofs.YtcbbenncdainfaaGreatDoor
open Go Go.RowKit
theorem asReg (b : Int) (r : ByteArray) (w : World) : (Instr.typeAssert (.iface 147 (.agg #[.int .i64 b, .string r])) 58 144 true).run Tryz.prog w = .ok (.tuple #[.agg #[.slice none 0 0], .bool false]) w ∧
  (Instr.typeAssert (.iface 147 (.agg #[.int .i64 b, .string r])) 58 147 true).run Tryz.prog w = .ok (.tuple #[.agg #[.int .i64 b, .string r], .bool true]) w := ⟨by kernel_rfl, by kernel_rfl⟩
theorem asCnt (r c : Int) (a : Option Addr) (n m : Nat) (w : World) : (Instr.typeAssert (.iface 148 (.agg #[.int .i64 r, .int .i64 c, .slice a n m])) 58 144 true).run Tryz.prog w = .ok (.tuple #[.agg #[.slice none 0 0], .bool false]) w ∧
  (Instr.typeAssert (.iface 148 (.agg #[.int .i64 r, .int .i64 c, .slice a n m])) 58 147 true).run Tryz.prog w = .ok (.tuple #[.agg #[.int .i64 0, .string ⟨#[]⟩], .bool false]) w ∧
  (Instr.typeAssert (.iface 148 (.agg #[.int .i64 r, .int .i64 c, .slice a n m])) 58 148 true).run Tryz.prog w = .ok (.tuple #[.agg #[.int .i64 r, .int .i64 c, .slice a n m], .bool true]) w := ⟨by kernel_rfl, by kernel_rfl, by kernel_rfl⟩
theorem asBkt (f : Int) (a : Option Addr) (n m : Nat) (w : World) : (Instr.typeAssert (.iface 150 (.agg #[.int .i64 f, .slice a n m])) 58 144 true).run Tryz.prog w = .ok (.tuple #[.agg #[.slice none 0 0], .bool false]) w ∧
  (Instr.typeAssert (.iface 150 (.agg #[.int .i64 f, .slice a n m])) 58 147 true).run Tryz.prog w = .ok (.tuple #[.agg #[.int .i64 0, .string ⟨#[]⟩], .bool false]) w ∧
  (Instr.typeAssert (.iface 150 (.agg #[.int .i64 f, .slice a n m])) 58 148 true).run Tryz.prog w = .ok (.tuple #[.agg #[.int .i64 0, .int .i64 0, .slice none 0 0], .bool false]) w ∧
  (Instr.typeAssert (.iface 150 (.agg #[.int .i64 f, .slice a n m])) 58 150 true).run Tryz.prog w = .ok (.tuple #[.agg #[.int .i64 f, .slice a n m], .bool true]) w := ⟨by kernel_rfl, by kernel_rfl, by kernel_rfl, by kernel_rfl⟩
def skReg (kind level : Int) (b : Int) (r : ByteArray) : Sk := ⟨kind, level, [], b, r, 0, 0, [], 0, []⟩
def skCnt (kind level : Int) (r c : Int) (l : List Int) : Sk := ⟨kind, level, [], 0, ⟨#[]⟩, r, c, l, 0, []⟩
def skBkt (kind level : Int) (f : Int) (l : List (Int × Int)) : Sk := ⟨kind, level, [], 0, ⟨#[]⟩, 0, 0, [], f, l⟩
set_option maxRecDepth 100000 in
set_option maxHeartbeats 4000000 in
theorem sketch_reg (kind level b : Int) (r : ByteArray) (w : World) :
  Calls Tryz.prog 63 #[.agg #[.iface 147 (.agg #[.int .i64 b, .string r]), .int .i64 kind, .int .i64 level]] w (SkPost (skReg kind level b r) w) := by
 have h1 := fun w => (asReg b r w).1
 have h2 := fun w => (asReg b r w).2
 go_enter Tryz.func63, Tryz.ntmps63
 go_wp2_with fail
 refine bodyPost_ret (v := .agg #[.int .i64 kind, .int .i64 level, .slice none 0 0, .int .i64 b, .string r, .int .i64 0, .int .i64 0, .slice none 0 0, .int .i64 0, .slice none 0 0]) (by simp [results, Tryz.f63, go_sem]) rfl ⟨⟨none, 0, 0, none, 0, 0, none, 0, 0⟩, rfl, ⟨SlC.nil, SlC.nil, SlC.nil⟩, (fun z hz => by cases hz), (fun z hz => by cases hz), (fun z hz => by cases hz), ?_⟩
 exact ((((Below.refl _ w).alloc (Nat.le_refl _) _).alloc (by simp) _).alloc (by simp; omega) _).alloc (by simp; omega) _
set_option maxRecDepth 100000 in
set_option maxHeartbeats 4000000 in
theorem sketch_cnt (kind level r c : Int) (l : List Int) (a : Option Addr) (len cap : Nat) (w : World) (hL : SlE encU 1 w.heap.size w a len l) (hll : len < 2147483648) :
  Calls Tryz.prog 63 #[.agg #[.iface 148 (.agg #[.int .i64 r, .int .i64 c, .slice a len cap]), .int .i64 kind, .int .i64 level]] w (SkPost (skCnt kind level r c l) w) := by
 obtain ⟨W0, hW0, hX0, hX1, hX2, hB0, hs0⟩ := boxes3 w #[.iface 148 (.agg #[.int .i64 r, .int .i64 c, .slice a len cap]), .int .i64 kind, .int .i64 level] 60 #[.int .i64 0, .int .i64 0, .slice none 0 0, .int .i64 0, .string ⟨#[]⟩, .int .i64 0, .int .i64 0, .slice none 0 0, .int .i64 0, .slice none 0 0] 33 #[.int .i64 kind, .int .i64 level, .slice none 0 0, .int .i64 0, .string ⟨#[]⟩, .int .i64 r, .int .i64 c, .slice a len cap, .int .i64 0, .slice none 0 0] 33
 have h1 := fun w => (asCnt r c a len cap w).1
 have h2 := fun w => (asCnt r c a len cap w).2.1
 have h3 := fun w => (asCnt r c a len cap w).2.2
 obtain ⟨W1, hW1, hX3, hB1, hs1⟩ := boxes1 W0 #[.int .i64 r, .int .i64 c, .slice a len cap] 148
 have hB01 := hB0.trans (hB1.mono hB0.size)
 have hC := clone_u64 a len cap l W1 (hL.go hB01) hll
 have HW0 := Lib.hid hW0
 have HW1 := Lib.hid hW1
 have HX1 := Lib.hid (known hB1 (Nat.le_refl _) hX1)
 have HX2 := Lib.hid (known hB1 (Nat.le_refl _) hX2)
 have hz : w.heap.size + 3 < W1.heap.size := by omega
 clear hL hW0 hW1 hX0 hX1 hX2 hX3 hs1 hs0
 go_enter Tryz.func63, Tryz.ntmps63
 go_wp2_with fail
 rw [HW0.out, HW1.out]
 refine hC.mono ?_
 rintro e w2 ⟨a', cap', rfl, hs2, hlo, hb2⟩
 have hY1 := known hb2 (Nat.le_refl _) HX1.out
 have hY2 := known hb2 (Nat.le_refl _) HX2.out
 obtain ⟨p0, p1, p2, p3, p4, p5, p6, p7, p8, p9⟩ := cl10 hY1
 obtain ⟨f0, f1, f2, f3, f4, f5, f6, f7, f8, f9⟩ := cz10 hY1
 obtain ⟨q0, q1, q2, q3, q4, q5, q6, q7, q8, q9⟩ := cl10 hY2
 have g2 : w2.frozen? ⟨w.heap.size + 1 + 1, 7, none⟩ = false := cFz hY2 7
 have hne : w.heap.size + 1 ≠ w.heap.size + 1 + 1 := by omega
 clear hC h1 h2 h3 HX1 HX2 HW0 HW1
 go_wp2_with fail
 have hBw2 : Below w.heap.size w w2 := hB01.trans (hb2.mono hB01.size)
 have hA : SS.At ⟨none, 0, 0, a', len, cap', none, 0, 0⟩ w2.heap.size w2 (skCnt kind level r c l) := ⟨SlC.nil, hs2, SlC.nil⟩
 have hfar : SS.Far ⟨none, 0, 0, a', len, cap', none, 0, 0⟩ (w.heap.size + 1 + 1) := ⟨(fun z hz => by cases hz), (fun z hz => by have := hlo z hz; omega), (fun z hz => by cases hz)⟩
 have hA2 := hA.set (o := 7) hfar (.slice a' len cap')
 rw [← size_set w2 ⟨w.heap.size + 1 + 1, 7, none⟩ (.slice a' len cap')] at hA2
 have hY3 := (heap_set_other (W := w2) (p := ⟨w.heap.size + 1 + 1, 7, none⟩) (b := w.heap.size + 1) (by show w.heap.size + 1 + 1 ≠ _; omega) (.slice a' len cap')).trans hY1
 exact sk_ret (y := skCnt kind level r c l) (s := ⟨none, 0, 0, a', len, cap', none, 0, 0⟩) hY3 (hBw2.setCell (p := ⟨w.heap.size + 1 + 1, 7, none⟩) (by show w.heap.size ≤ w.heap.size + 1 + 1; omega) _) hA2 (fun z hz => by cases hz) (fun z hz => by have := hlo z hz; omega) (fun z hz => by cases hz) rfl
set_option maxRecDepth 100000 in
set_option maxHeartbeats 4000000 in
theorem sketch_bkt (kind level f : Int) (l : List (Int × Int)) (a : Option Addr) (len cap : Nat) (w : World) (hL : SlE encB 2 w.heap.size w a len l) (hll : len < 2147483648) :
  Calls Tryz.prog 63 #[.agg #[.iface 150 (.agg #[.int .i64 f, .slice a len cap]), .int .i64 kind, .int .i64 level]] w (SkPost (skBkt kind level f l) w) := by
 obtain ⟨W0, hW0, hX0, hX1, hX2, hB0, hs0⟩ := boxes3 w #[.iface 150 (.agg #[.int .i64 f, .slice a len cap]), .int .i64 kind, .int .i64 level] 60 #[.int .i64 0, .int .i64 0, .slice none 0 0, .int .i64 0, .string ⟨#[]⟩, .int .i64 0, .int .i64 0, .slice none 0 0, .int .i64 0, .slice none 0 0] 33 #[.int .i64 kind, .int .i64 level, .slice none 0 0, .int .i64 0, .string ⟨#[]⟩, .int .i64 0, .int .i64 0, .slice none 0 0, .int .i64 f, .slice a len cap] 33
 have h1 := fun w => (asBkt f a len cap w).1
 have h2 := fun w => (asBkt f a len cap w).2.1
 have h3 := fun w => (asBkt f a len cap w).2.2.1
 have h4 := fun w => (asBkt f a len cap w).2.2.2
 obtain ⟨W1, hW1, hX3, hB1, hs1⟩ := boxes1 W0 #[.int .i64 f, .slice a len cap] 150
 have hB01 := hB0.trans (hB1.mono hB0.size)
 have hC := clone_bin a len cap l W1 (hL.go hB01) hll
 have HW0 := Lib.hid hW0
 have HW1 := Lib.hid hW1
 have HX1 := Lib.hid (known hB1 (Nat.le_refl _) hX1)
 have HX2 := Lib.hid (known hB1 (Nat.le_refl _) hX2)
 have hz : w.heap.size + 3 < W1.heap.size := by omega
 clear hL hW0 hW1 hX0 hX1 hX2 hX3 hs1 hs0
 go_enter Tryz.func63, Tryz.ntmps63
 go_wp2_with fail
 rw [HW0.out, HW1.out]
 refine hC.mono ?_
 rintro e w2 ⟨a', cap', rfl, hs2, hlo, hb2⟩
 have hY1 := known hb2 (Nat.le_refl _) HX1.out
 have hY2 := known hb2 (Nat.le_refl _) HX2.out
 obtain ⟨p0, p1, p2, p3, p4, p5, p6, p7, p8, p9⟩ := cl10 hY1
 obtain ⟨f0, f1, f2, f3, f4, f5, f6, f7, f8, f9⟩ := cz10 hY1
 obtain ⟨q0, q1, q2, q3, q4, q5, q6, q7, q8, q9⟩ := cl10 hY2
 have g2 : w2.frozen? ⟨w.heap.size + 1 + 1, 9, none⟩ = false := cFz hY2 9
 have hne : w.heap.size + 1 ≠ w.heap.size + 1 + 1 := by omega
 clear hC h1 h2 h3 h4 HX1 HX2 HW0 HW1
 go_wp2_with fail
 have hBw2 : Below w.heap.size w w2 := hB01.trans (hb2.mono hB01.size)
 have hA : SS.At ⟨none, 0, 0, none, 0, 0, a', len, cap'⟩ w2.heap.size w2 (skBkt kind level f l) := ⟨SlC.nil, SlC.nil, hs2⟩
 have hfar : SS.Far ⟨none, 0, 0, none, 0, 0, a', len, cap'⟩ (w.heap.size + 1 + 1) := ⟨(fun z hz => by cases hz), (fun z hz => by cases hz), (fun z hz => by have := hlo z hz; omega)⟩
 have hA2 := hA.set (o := 9) hfar (.slice a' len cap')
 rw [← size_set w2 ⟨w.heap.size + 1 + 1, 9, none⟩ (.slice a' len cap')] at hA2
 have hY3 := (heap_set_other (W := w2) (p := ⟨w.heap.size + 1 + 1, 9, none⟩) (b := w.heap.size + 1) (by show w.heap.size + 1 + 1 ≠ _; omega) (.slice a' len cap')).trans hY1
 exact sk_ret (y := skBkt kind level f l) (s := ⟨none, 0, 0, none, 0, 0, a', len, cap'⟩) hY3 (hBw2.setCell (p := ⟨w.heap.size + 1 + 1, 9, none⟩) (by show w.heap.size ≤ w.heap.size + 1 + 1; omega) _) hA2 (fun z hz => by cases hz) (fun z hz => by cases hz) (fun z hz => by have := hlo z hz; omega) rfl
end Go.Proofs.YtcbbenncdainfaaGreatDoor
namespace Go.Proofs
open Go.Shelf
def Tryz.lays134_ren : Go.Shelf.Ren := ⟨fun | 134 => 158 | 129 => 159 | n => n, fun | 53 => 43 | 3 => 3 | 4 => 4 | 46 => 230 | 5 => 5 | 9 => 9 | n => n, fun | n => n⟩
theorem Tryz.lays134 : Go.Proofs.Lays.n134 Tryz.prog Tryz.lays134_ren := {
 mixed := by kernel_rfl
 f129 := Tryz.func159.trans (congrArg some (by kernel_rfl))
 f134 := Tryz.func158.trans (congrArg some (by kernel_rfl))
 t3 := Tryz.underlying3
 a3 := Tryz.isAgg3
 z3 := Tryz.sizeOf3
 v3 := Tryz.zeroValue3
 t4 := Tryz.underlying4
 a4 := Tryz.isAgg4
 z4 := Tryz.sizeOf4
 v4 := Tryz.zeroValue4
 t5 := Tryz.underlying5
 a5 := Tryz.isAgg5
 z5 := Tryz.sizeOf5
 v5 := Tryz.zeroValue5
 t9 := Tryz.underlying9
 a9 := Tryz.isAgg9
 z9 := Tryz.sizeOf9
 v9 := Tryz.zeroValue9
 t46 := Tryz.underlying230
 a46 := Tryz.isAgg230
 z46 := Tryz.sizeOf230
 v46 := Tryz.zeroValue230
 t53 := Tryz.underlying43
 a53 := Tryz.isAgg43
 z53 := Tryz.sizeOf43
 v53 := Tryz.zeroValue43 }
theorem Tryz.bits_LeadingZeros64 (x : Int) (w : World) (h0 : 0 ≤ x) (h1 : x ≤ 18446744073709551615) :
  Calls Tryz.prog 158 #[.int .u64 x] w fun e w' => e = .returned (.int .i64 (64 - (Lib.bitLen x.toNat : Int))) ∧ w' = w := Any.bits_LeadingZeros64 Tryz.lays134 x w h0 h1
def Tryz.lays129_ren : Go.Shelf.Ren := ⟨fun | 129 => 159 | n => n, fun | 53 => 43 | 3 => 3 | 4 => 4 | 46 => 230 | 5 => 5 | 9 => 9 | n => n, fun | n => n⟩
theorem Tryz.lays129 : Go.Proofs.Lays.n129 Tryz.prog Tryz.lays129_ren := {
 mixed := by kernel_rfl
 f129 := Tryz.func159.trans (congrArg some (by kernel_rfl))
 t3 := Tryz.underlying3
 a3 := Tryz.isAgg3
 z3 := Tryz.sizeOf3
 v3 := Tryz.zeroValue3
 t4 := Tryz.underlying4
 a4 := Tryz.isAgg4
 z4 := Tryz.sizeOf4
 v4 := Tryz.zeroValue4
 t5 := Tryz.underlying5
 a5 := Tryz.isAgg5
 z5 := Tryz.sizeOf5
 v5 := Tryz.zeroValue5
 t9 := Tryz.underlying9
 a9 := Tryz.isAgg9
 z9 := Tryz.sizeOf9
 v9 := Tryz.zeroValue9
 t46 := Tryz.underlying230
 a46 := Tryz.isAgg230
 z46 := Tryz.sizeOf230
 v46 := Tryz.zeroValue230
 t53 := Tryz.underlying43
 a53 := Tryz.isAgg43
 z53 := Tryz.sizeOf43
 v53 := Tryz.zeroValue43 }
theorem Tryz.bits_Len64 (x : Int) (w : World) (h0 : 0 ≤ x) (h1 : x ≤ 18446744073709551615) :
  Calls Tryz.prog 159 #[.int .u64 x] w fun e w' => e = .returned (.int .i64 (Lib.bitLen x.toNat)) ∧ w' = w := Any.bits_Len64 Tryz.lays129 x w h0 h1
def Tryz.laysSlM5_f210_ren : Go.Shelf.Ren := ⟨fun | 5 => 210 | 8 => 214 | 7 => 213 | 19 => 224 | 20 => 159 | 10 => 215 | 11 => 216 | 12 => 217 | 13 => 218 | 14 => 219 | 15 => 220 | 16 => 221 | 17 => 222 | 18 => 223 | 30 => 225 | 31 => 226 | 32 => 227 | 33 => 228 | 34 => 229 | 35 => 230 | 40 => 231 | n => n, fun | 23 => 253 | 25 => 3 | 3 => 3 | 32 => 230 | 22 => 253 | 0 => 0 | 44 => 197 | 46 => 43 | 4 => 4 | 36 => 263 | 35 => 262 | 41 => 267 | 5 => 5 | 9 => 9 | 53 => 270 | 57 => 274 | 63 => 276 | 64 => 130 | n => n, fun | n => n⟩
theorem Tryz.laysSlM5_f210 : Go.Proofs.SlLaysM.n5 Tryz.prog Tryz.laysSlM5_f210_ren := {
 mixed := by kernel_rfl
 f5 := ⟨Tryz.f210.name, by decide, Tryz.func210.trans (congrArg some (by kernel_rfl))⟩
 f7 := ⟨Tryz.f213.name, by decide, Tryz.func213.trans (congrArg some (by kernel_rfl))⟩
 f8 := Tryz.func214.trans (congrArg some (by kernel_rfl))
 f10 := ⟨Tryz.f215.name, by decide, Tryz.func215.trans (congrArg some (by kernel_rfl))⟩
 f11 := ⟨Tryz.f216.name, by decide, Tryz.func216.trans (congrArg some (by kernel_rfl))⟩
 f12 := ⟨Tryz.f217.name, by decide, Tryz.func217.trans (congrArg some (by kernel_rfl))⟩
 f13 := ⟨Tryz.f218.name, by decide, Tryz.func218.trans (congrArg some (by kernel_rfl))⟩
 f14 := ⟨Tryz.f219.name, by decide, Tryz.func219.trans (congrArg some (by kernel_rfl))⟩
 f15 := ⟨Tryz.f220.name, by decide, Tryz.func220.trans (congrArg some (by kernel_rfl))⟩
 f16 := ⟨Tryz.f221.name, by decide, Tryz.func221.trans (congrArg some (by kernel_rfl))⟩
 f17 := ⟨Tryz.f222.name, by decide, Tryz.func222.trans (congrArg some (by kernel_rfl))⟩
 f18 := ⟨Tryz.f223.name, by decide, Tryz.func223.trans (congrArg some (by kernel_rfl))⟩
 f19 := Tryz.func224.trans (congrArg some (by kernel_rfl))
 f20 := Tryz.func159.trans (congrArg some (by kernel_rfl))
 f30 := ⟨Tryz.f225.name, by decide, Tryz.func225.trans (congrArg some (by kernel_rfl))⟩
 f31 := Tryz.func226.trans (congrArg some (by kernel_rfl))
 f32 := Tryz.func227.trans (congrArg some (by kernel_rfl))
 f33 := ⟨Tryz.f228.name, by decide, Tryz.func228.trans (congrArg some (by kernel_rfl))⟩
 f34 := ⟨Tryz.f229.name, by decide, Tryz.func229.trans (congrArg some (by kernel_rfl))⟩
 f35 := ⟨Tryz.f230.name, by decide, Tryz.func230.trans (congrArg some (by kernel_rfl))⟩
 f40 := ⟨Tryz.f231.name, by decide, Tryz.func231.trans (congrArg some (by kernel_rfl))⟩
 t0 := Tryz.underlying0
 a0 := Tryz.isAgg0
 z0 := Tryz.sizeOf0
 v0 := Tryz.zeroValue0
 t3 := Tryz.underlying3
 a3 := Tryz.isAgg3
 z3 := Tryz.sizeOf3
 v3 := Tryz.zeroValue3
 t4 := Tryz.underlying4
 a4 := Tryz.isAgg4
 z4 := Tryz.sizeOf4
 v4 := Tryz.zeroValue4
 t5 := Tryz.underlying5
 a5 := Tryz.isAgg5
 z5 := Tryz.sizeOf5
 v5 := Tryz.zeroValue5
 t9 := Tryz.underlying9
 a9 := Tryz.isAgg9
 z9 := Tryz.sizeOf9
 v9 := Tryz.zeroValue9
 t22 := Tryz.underlying253
 a22 := Tryz.isAgg253
 z22 := Tryz.sizeOf253
 v22 := Tryz.zeroValue253
 t23 := Tryz.underlying253
 a23 := Tryz.isAgg253
 z23 := Tryz.sizeOf253
 v23 := Tryz.zeroValue253
 t25 := Tryz.underlying3
 a25 := Tryz.isAgg3
 z25 := Tryz.sizeOf3
 v25 := Tryz.zeroValue3
 t32 := Tryz.underlying230
 a32 := Tryz.isAgg230
 z32 := Tryz.sizeOf230
 v32 := Tryz.zeroValue230
 t35 := Tryz.underlying262
 a35 := Tryz.isAgg262
 z35 := Tryz.sizeOf262
 v35 := Tryz.zeroValue262
 t36 := Tryz.underlying263
 a36 := Tryz.isAgg263
 z36 := Tryz.sizeOf263
 v36 := Tryz.zeroValue263
 t41 := Tryz.underlying267
 a41 := Tryz.isAgg267
 z41 := Tryz.sizeOf267
 v41 := Tryz.zeroValue267
 t44 := Tryz.underlying197
 a44 := Tryz.isAgg197
 z44 := Tryz.sizeOf197
 v44 := Tryz.zeroValue197
 t46 := Tryz.underlying43
 a46 := Tryz.isAgg43
 z46 := Tryz.sizeOf43
 v46 := Tryz.zeroValue43
 t53 := Tryz.underlying270
 a53 := Tryz.isAgg270
 z53 := Tryz.sizeOf270
 v53 := Tryz.zeroValue270
 t57 := Tryz.underlying274
 a57 := Tryz.isAgg274
 z57 := Tryz.sizeOf274
 v57 := Tryz.zeroValue274
 t63 := Tryz.underlying276
 a63 := Tryz.isAgg276
 z63 := Tryz.sizeOf276
 v63 := Tryz.zeroValue276
 t64 := Tryz.underlying130
 a64 := Tryz.isAgg130
 z64 := Tryz.sizeOf130
 v64 := Tryz.zeroValue130 }
open Go.Sort Go.RowKit in
theorem Tryz.slices_Sort_int (blk off cap : Nat) (zs : List Int) (w : World) (hH : Holds (Value.int .i64) w blk off zs.toArray) (hblk : blk < w.heap.size) (hsz : zs.length < 4611686018427387904) :
  Calls Tryz.prog 210 #[.slice (some ⟨blk, off, none⟩) zs.length cap] w fun e w' =>
   e = .returned (.tuple #[]) ∧ ∃ n os, w' = grow (putRow (Value.int .i64) (Sort.ahead w n) blk off (zs.mergeSort fun x y => decide (x ≤ y)).toArray) os := AnyM.slices_Sort_int Tryz.laysSlM5_f210 blk off cap zs w hH hblk hsz
open Go.RowKit Go.Sort in
theorem Tryz.slices_Sort_int_none (p : Option Addr) (cap : Nat) (w : World) :
  Calls Tryz.prog 210 #[.slice p 0 cap] w fun e w' => e = .returned (.tuple #[]) ∧ w' = w := AnyM.slices_Sort_int_none Tryz.laysSlM5_f210 p cap w
end Go.Proofs
namespace Go.Proofs.YtcbbenncdainfaaGreatDoor
open Go Go.RowKit Go.Shelf
def RegsAt (W : World) (g : Nat) (r : List Nat) : Prop := ∃ cs fz, W.heap[g]? = some (.cells cs 5 fz) ∧ (∀ (j x : Nat), r[j]? = some x → cs[j]? = some (Value.int .u8 (x : Int))) ∧ (fz = (0, 0) ∨ r.length ≤ fz.1)
theorem RegsAt.lt {W : World} {g : Nat} {r : List Nat} (h : RegsAt W g r) : g < W.heap.size := by
 obtain ⟨cs, fz, h1, -⟩ := h
 exact (Array.getElem?_eq_some_iff.1 h1).1
theorem RegsAt.cell {W : World} {g : Nat} {r : List Nat} (h : RegsAt W g r) {j x : Nat} (hx : r[j]? = some x) : W.cell? ⟨g, j, none⟩ = some (.int .u8 (x : Int)) := by
 obtain ⟨cs, fz, h1, h2, -⟩ := h
 simp [World.cell?, h1, h2 j x hx]
theorem RegsAt.frozen {W : World} {g : Nat} {r : List Nat} (h : RegsAt W g r) {j x : Nat} (hx : r[j]? = some x) : W.frozen? ⟨g, j, none⟩ = false := by
 obtain ⟨cs, fz, h1, h2, h3⟩ := h
 have hj := (List.getElem?_eq_some_iff.1 hx).1
 rcases h3 with rfl | h3
 ·simp [World.frozen?, h1]
 ·simp [World.frozen?, h1]; omega
theorem RegsAt.block {W W' : World} {g : Nat} {r : List Nat} (h : RegsAt W g r) (hb : W'.heap[g]? = W.heap[g]?) : RegsAt W' g r := by
 obtain ⟨cs, fz, h1, h2⟩ := h
 exact ⟨cs, fz, hb.trans h1, h2⟩
theorem RegsAt.grown {W W' : World} {g : Nat} {r : List Nat} {row : Option Nat} (h : RegsAt W g r) (hg : W.grownBy W' row) (hne : some g ≠ row) : RegsAt W' g r := h.block (hg.block g h.lt hne)
theorem RegsAt.go {W W' : World} {g : Nat} {r : List Nat} (h : RegsAt W g r) (hb : Below W.heap.size W W') : RegsAt W' g r := h.block (hb.block g h.lt)
theorem RegsAt.set {W : World} {g : Nat} {r : List Nat} (h : RegsAt W g r) (p k : Nat) : RegsAt (W.setCell ⟨g, p, none⟩ (.int .u8 (k : Int))) g (r.set p k) := by
 obtain ⟨cs, fz, h1, h2, h3⟩ := h
 refine ⟨_, fz, hSk h1 _, fun j x hx => ?_, by rw [List.length_set]; exact h3⟩
 rw [List.getElem?_set] at hx
 rw [Array.getElem?_setIfInBounds]
 by_cases hp : p = j
 ·subst hp
  by_cases hl : p < r.length
  ·rw [if_pos rfl, if_pos hl] at hx
   cases hx
   have := h2 p _ (List.getElem?_eq_getElem hl)
   rw [if_pos rfl, if_pos (Array.getElem?_eq_some_iff.1 this).1]
  ·rw [if_pos rfl, if_neg hl] at hx
   cases hx
 ·rw [if_neg hp] at hx
  rw [if_neg hp]
  exact h2 j x hx
theorem RegsAt.other {W : World} {g b o : Nat} {r : List Nat} (h : RegsAt W g r) (hne : b ≠ g) (v : Value) : RegsAt (W.setCell ⟨b, o, none⟩ v) g r := h.block (heap_set_other (p := ⟨b, o, none⟩) hne v)
theorem greater_any (a b : Int) (w : World) : Calls Tryz.prog 148 #[.int .u8 a, .int .u8 b] w fun e w' => e = .returned (.int .u8 (max a b)) ∧ w' = w := by
 go_enter Tryz.func148, Tryz.ntmps148
 go_wp2
 go_ret
 exact ⟨rfl, rfl⟩
theorem ahead_any (n : Int) (w : World) (h0 : 0 ≤ n) (h1 : n ≤ 18446744073709551615) : Calls Tryz.prog 155 #[.int .u64 n] w fun e w' => e = .returned (.int .i64 (64 - (Lib.bitLen n.toNat : Int))) ∧ w' = w := by
 have hcall := Tryz.bits_LeadingZeros64 n w h0 h1
 generalize Lib.bitLen n.toNat = m at hcall ⊢
 go_enter Tryz.func155, Tryz.ntmps155
 go_wp2_with (go_at_call 158; refine hcall.mono ?_; rintro e w' ⟨rfl, rfl⟩)
 go_ret
 exact ⟨rfl, rfl⟩
theorem wrap_u64_mod (m : Nat) : IntKind.u64.wrap (m : Int) = ((m % 2 ^ 64 : Nat) : Int) := by simp [IntKind.wrap, IntKind.bits, IntKind.signed]
theorem wrap64_nat (m : Nat) (h : m < 2 ^ 63) : wrap64 (m : Int) = m := by unfold wrap64; omega
set_option maxRecDepth 100000 in
set_option maxHeartbeats 1000000 in
theorem Place_any (b : Nat) (n : Int) (w : World) (h1 : 3 ≤ b) (h2 : b ≤ 8) (hn : U64 n) : Calls Tryz.prog 150 #[.int .i64 b, .int .u64 n] w fun e w' => e = .returned (.tuple #[.int .i64 (hlAt b n.toNat : Nat), .int .i64 (hlRank b n.toNat : Nat)]) ∧ w' = w := by
 obtain ⟨m, rfl⟩ := Int.eq_ofNat_of_zero_le hn.1
 have hm : m < 2 ^ 64 := by have := hn.2; omega
 rw [Int.toNat_natCast]
 have hib : ∀ w, Calls Tryz.prog 103 #[.int .i64 b] w fun e w' => e = .returned (.bool true) ∧ w' = w := fun w => (isBits_any b w).mono fun e w' ⟨h3, h4⟩ => ⟨by rw [h3]; simp [isBitsB]; omega, h4.symm⟩
 have hw : IntKind.u64.wrap ((m : Int) * 2 ^ b) = ((m * 2 ^ b % 2 ^ 64 : Nat) : Int) := by
  rw [← wrap_u64_mod]; congr 1
 have hd : wrap64 ((m : Int) / 2 ^ (64 - b)) = ((hlAt b m : Nat) : Int) := by
  have h3 := hlAt_lt b m h2 hm
  have h4 : 2 ^ b ≤ 2 ^ 8 := Nat.pow_le_pow_right (by omega) h2
  rw [← wrap64_nat (hlAt b m) (by omega)]; unfold hlAt; congr 1
 have hk : hlRank b m = if m * 2 ^ b % 2 ^ 64 = 0 then 65 - b else 65 - Lib.bitLen (m * 2 ^ b % 2 ^ 64) := rfl
 have ho64 : m * 2 ^ b % 2 ^ 64 < 2 ^ 64 := Nat.mod_lt _ (by decide)
 generalize m * 2 ^ b % 2 ^ 64 = o at hw hk ho64
 generalize hlAt b m = q at hd ⊢
 generalize hlRank b m = k at hk ⊢
 have HK := Lib.hid hk
 clear hk hn hm
 by_cases h0 : o = 0
 ·subst h0
  have HK2 : Hid (((65 : Int) - (b : Int)) = (k : Int)) := by have := HK.out; simp at this; show _ = _; omega
  go_enter Tryz.func150, Tryz.ntmps150
  go_wp2_with (go_at_call 103; refine (hib _).mono ?_; rintro e w' ⟨rfl, rfl⟩)
  go_ret2
  exact ⟨by rw [← HK2.out, ← hd]; rfl, rfl⟩
 ·have t0 : ((o : Int) != 0) = true := by rw [bne_iff_ne]; omega
  have hA := ahead_any (o : Int) w (by omega) (by omega)
  rw [Int.toNat_natCast] at hA
  have hlen := bitLen_64 o ho64 h0
  have HK2 : Hid ((64 - (Lib.bitLen o : Int)) + 1 = (k : Int)) := by have := HK.out; rw [if_neg h0] at this; show _ = _; omega
  generalize Lib.bitLen o = z at hA hlen HK2
  have hz : (z : Int) ≤ 64 := by omega
  clear HK ho64 h0
  go_enter Tryz.func150, Tryz.ntmps150
  go_wp2_with (first | (go_at_call 103; refine (hib _).mono ?_; rintro e w' ⟨rfl, rfl⟩) | (go_at_call 155; refine hA.mono ?_; rintro e w' ⟨rfl, rfl⟩))
  go_ret2
  exact ⟨by rw [← HK2.out, ← hd]; rfl, rfl⟩
end Go.Proofs.YtcbbenncdainfaaGreatDoor
namespace Go.Proofs.YtcbbenncdainfaaGreatDoor
open Go Go.RowKit
structure OpenIn (x : Sk) (s : SS) (w W : World) : Prop where
 box : W.heap[w.heap.size]? = some (.cells #[.int .i64 x.kind, .int .i64 x.level, .slice s.ea s.el s.ec, .int .i64 x.hb, .string x.hr, .int .i64 x.cr, .int .i64 x.cc, .slice s.ca s.cl s.cc, .int .i64 x.gf, .slice s.ga s.gl s.gc] 33 (0, 0))
 res : W.heap[w.heap.size + 1]? = some (.cells #[.nilIface, .int .i64 0, .int .i64 0] 60 (0, 0))
 flt : W.heap[w.heap.size + 1 + 1]? = some (.cells #[.int .i64 100] 99 (0, 0))
 lists : s.At W.heap.size W x
 below : Below w.heap.size w W
theorem OpenIn.go {x : Sk} {s : SS} {w W W' : World} (h : OpenIn x s w W) (hb : Below W.heap.size W W') : OpenIn x s w W' := ⟨known hb (Nat.le_refl _) h.box, known hb (Nat.le_refl _) h.res, known hb (Nat.le_refl _) h.flt, h.lists.go hb, h.below.trans (hb.mono h.below.size)⟩
def OpenPost (ok : Bool) (body : Value) (x : Sk) (w : World) (e : Ending) (w' : World) : Prop :=
 (if ok then e = .returned (.tuple #[.agg #[body, .int .i64 x.kind, .int .i64 x.level], .nilIface])
  else ∃ b, e = .returned (.tuple #[.agg #[.nilIface, .int .i64 0, .int .i64 0], .iface 97 (.pointer (some ⟨b, 0, none⟩))]) ∧ w'.heap[b]? = some (.cells #[.int .i64 100] 99 (0, 0)) ∧ w.heap.size ≤ b) ∧ Below w.heap.size w w'
theorem open_wrong {x : Sk} {s : SS} {w W : World} {body : Value} {tm : Array Value} (h : OpenIn x s w W) (t2 : tm[2]?.getD undef = .pointer (some ⟨w.heap.size + 1, 0, none⟩)) (t3 : tm[3]?.getD undef = .iface 97 (.pointer (some ⟨w.heap.size + 1 + 1, 0, none⟩))) :
  bodyPost Tryz.prog Tryz.f31 (OpenPost false body x w) Exit.ret { tmps := tm, defers := [] } (((W.setCell ⟨w.heap.size + 1, 0, none⟩ .nilIface).setCell ⟨w.heap.size + 1, 1, none⟩ (.int .i64 0)).setCell ⟨w.heap.size + 1, 2, none⟩ (.int .i64 0)) := by
 have h1 : (W.setCell ⟨w.heap.size + 1, 0, none⟩ .nilIface).heap[w.heap.size + 1]? = some (.cells #[.nilIface, .int .i64 0, .int .i64 0] 60 (0, 0)) := hSk h.res .nilIface
 have g1 := (heap_set_other (W := W) (p := ⟨w.heap.size + 1, 0, none⟩) (b := w.heap.size + 1 + 1) (by show w.heap.size + 1 ≠ _; omega) .nilIface).trans h.flt
 have b1 := h.below.setCell (p := ⟨w.heap.size + 1, 0, none⟩) (Nat.le_succ _) .nilIface
 generalize W.setCell ⟨w.heap.size + 1, 0, none⟩ .nilIface = W at h1 g1 b1 ⊢
 have h2 : (W.setCell ⟨w.heap.size + 1, 1, none⟩ (.int .i64 0)).heap[w.heap.size + 1]? = some (.cells #[.nilIface, .int .i64 0, .int .i64 0] 60 (0, 0)) := hSk h1 (.int .i64 0)
 have g2 := (heap_set_other (W := W) (p := ⟨w.heap.size + 1, 1, none⟩) (b := w.heap.size + 1 + 1) (by show w.heap.size + 1 ≠ _; omega) (.int .i64 0)).trans g1
 have b2 := b1.setCell (p := ⟨w.heap.size + 1, 1, none⟩) (Nat.le_succ _) (.int .i64 0)
 generalize W.setCell ⟨w.heap.size + 1, 1, none⟩ (.int .i64 0) = W at h2 g2 b2 ⊢
 have h3 : (W.setCell ⟨w.heap.size + 1, 2, none⟩ (.int .i64 0)).heap[w.heap.size + 1]? = some (.cells #[.nilIface, .int .i64 0, .int .i64 0] 60 (0, 0)) := hSk h2 (.int .i64 0)
 have g3 := (heap_set_other (W := W) (p := ⟨w.heap.size + 1, 2, none⟩) (b := w.heap.size + 1 + 1) (by show w.heap.size + 1 ≠ _; omega) (.int .i64 0)).trans g2
 have b3 := b2.setCell (p := ⟨w.heap.size + 1, 2, none⟩) (Nat.le_succ _) (.int .i64 0)
 generalize W.setCell ⟨w.heap.size + 1, 2, none⟩ (.int .i64 0) = W at h3 g3 b3 ⊢
 obtain ⟨k0, k1, k2⟩ := cl3 h3
 refine bodyPost_ret (v := .tuple #[.agg #[.nilIface, .int .i64 0, .int .i64 0], .iface 97 (.pointer (some ⟨w.heap.size + 1 + 1, 0, none⟩))]) (by simp [results, Tryz.f31, go_sem, t2, t3, k0, k1, k2]) rfl ⟨?_, b3⟩
 exact ⟨_, rfl, g3, by omega⟩
theorem kinds_at (w : World) : Calls Tryz.prog 62 #[] w fun e w' => ∃ r, e = .returned (.map (some r)) ∧ w'.heap[r]? = some (.map kindsMap 3) ∧ Below w.heap.size w w' :=
 (kinds_any w).mono fun e w' ⟨h1, h2⟩ => ⟨_, h1, by rw [h2]; exact World.alloc_heap_new _ _, by rw [h2]; exact (Below.refl _ w).alloc (Nat.le_refl _) _⟩
theorem zero_fn (w : World) : (zeroValue 100).run Tryz.prog w = .ok .nilFunc w := by kernel_rfl
theorem look_bad {w : World} {r : Nat} (k : Int) (h : w.heap[r]? = some (.map kindsMap 3)) (h1 : (k == 1) = false) (h2 : (k == 2) = false) (h3 : (k == 3) = false) : (Instr.lookup 102 (.map (some r)) (.int .i64 k) true).run Tryz.prog w = .ok (.tuple #[.nilFunc, .bool false]) w :=
 look_int_none und_kinds Tryz.underlying3 h (zero_fn w) (by simp [kindsMap, Instr.findNow, Instr.sameNow, h1, h2, h3])
theorem look_1 {w : World} {r : Nat} (h : w.heap[r]? = some (.map kindsMap 3)) : (Instr.lookup 102 (.map (some r)) (.int .i64 1) true).run Tryz.prog w = .ok (.tuple #[.func (.func 84) #[] #[], .bool true]) w := (look_int und_kinds Tryz.underlying3 h rfl).1
theorem look_2 {w : World} {r : Nat} (h : w.heap[r]? = some (.map kindsMap 3)) : (Instr.lookup 102 (.map (some r)) (.int .i64 2) true).run Tryz.prog w = .ok (.tuple #[.func (.func 85) #[] #[], .bool true]) w := (look_int und_kinds Tryz.underlying3 h rfl).1
theorem look_3 {w : World} {r : Nat} (h : w.heap[r]? = some (.map kindsMap 3)) : (Instr.lookup 102 (.map (some r)) (.int .i64 3) true).run Tryz.prog w = .ok (.tuple #[.func (.func 86) #[] #[], .bool true]) w := (look_int und_kinds Tryz.underlying3 h rfl).1
end Go.Proofs.YtcbbenncdainfaaGreatDoor
namespace Go.Proofs.YtcbbenncdainfaaGreatDoor
open Go Go.RowKit
theorem open_in {x : Sk} {s : SS} {w : World} (hx : s.At w.heap.size w x) : ∃ W0, ((w.alloc (.cells #[.int .i64 x.kind, .int .i64 x.level, .slice s.ea s.el s.ec, .int .i64 x.hb, .string x.hr, .int .i64 x.cr, .int .i64 x.cc, .slice s.ca s.cl s.cc, .int .i64 x.gf, .slice s.ga s.gl s.gc] 33)).alloc (.cells #[.nilIface, .int .i64 0, .int .i64 0] 60)).alloc (.cells #[.int .i64 100] 99) = W0 ∧ OpenIn x s w W0 := by
 obtain ⟨W0, hW0, hX0, hX1, hX2, hB0, hs0⟩ := boxes3 w #[.int .i64 x.kind, .int .i64 x.level, .slice s.ea s.el s.ec, .int .i64 x.hb, .string x.hr, .int .i64 x.cr, .int .i64 x.cc, .slice s.ca s.cl s.cc, .int .i64 x.gf, .slice s.ga s.gl s.gc] 33 #[.nilIface, .int .i64 0, .int .i64 0] 60 #[.int .i64 100] 99
 exact ⟨W0, hW0, hX0, hX1, hX2, hx.go hB0, hB0⟩
set_option maxRecDepth 100000 in
set_option maxHeartbeats 4000000 in
theorem open_kind (x : Sk) (s : SS) (body : Value) (w : World) (hx : s.At w.heap.size w x) (h1 : (x.kind == 1) = false) (h2 : (x.kind == 2) = false) (h3 : (x.kind == 3) = false) :
  Calls Tryz.prog 31 #[.agg #[.int .i64 x.kind, .int .i64 x.level, .slice s.ea s.el s.ec, .int .i64 x.hb, .string x.hr, .int .i64 x.cr, .int .i64 x.cc, .slice s.ca s.cl s.cc, .int .i64 x.gf, .slice s.ga s.gl s.gc]] w (OpenPost false body x w) := by
 obtain ⟨W0, hW0, hO⟩ := open_in hx
 have HO := Lib.hid hO
 have HH : Hid ((x.kind == 1) = false ∧ (x.kind == 2) = false ∧ (x.kind == 3) = false) := ⟨h1, h2, h3⟩
 clear hx h1 h2 h3 hO
 go_enter Tryz.func31, Tryz.ntmps31
 go_wp2_with fail
 clear hW0
 have c0 : W0.cell? ⟨w.heap.size, 0, none⟩ = some (.int .i64 x.kind) := cCc HO.out.box 0
 have q0 : ∀ W, Below W0.heap.size W0 W → W.cell? ⟨w.heap.size, 0, none⟩ = some (.int .i64 x.kind) ∧ Below W0.heap.size W0 W := fun W h => ⟨cCc (HO.out.go h).box 0, h⟩
 have HQ := Lib.hid q0
 clear q0
 go_region_held3 (fun w' => w'.cell? ⟨w.heap.size, 0, none⟩ = some (.int .i64 x.kind) ∧ Below W0.heap.size W0 w')
  (first
   | exact HQ.out _ (Below.refl _ _).drew
   | (go_split_ands; refine HQ.out _ ?_; first | assumption | exact Below.trans (by assumption) (Below.mono (by assumption) (Below.size (by assumption)))))
  (first
   | (go_at_call 62; refine (kinds_at _).mono ?_; rintro e w1 ⟨r, rfl, hr, hb1⟩; have hlk := look_bad x.kind hr HH.out.1 HH.out.2.1 HH.out.2.2; have hq1 : Below W0.heap.size W0 w1 := (by go_split_ands; exact Below.trans (by assumption) (Below.mono hb1 (Below.size (by assumption))))))
 have hO1 := HO.out.go hq1
 clear hlk hr hb1
 go_wp2_with fail
 go_quiet (fail)
 obtain ⟨p0, p1, p2⟩ := cl3 hO1.res
 obtain ⟨f0, f1, f2⟩ := cz3 hO1.res
 go_wp2_with fail
 exact open_wrong (hO1.go (bDr (Below.refl _ _) _)) rfl rfl
theorem open_okay {x : Sk} {s : SS} {w W : World} {body : Value} {tm : Array Value} (h : OpenIn x s w W) (t2 : tm[2]?.getD undef = .pointer (some ⟨w.heap.size + 1, 0, none⟩)) (t3 : tm[3]?.getD undef = .nilIface) :
  bodyPost Tryz.prog Tryz.f31 (OpenPost true body x w) Exit.ret { tmps := tm, defers := [] } (((W.setCell ⟨w.heap.size + 1, 0, none⟩ body).setCell ⟨w.heap.size + 1, 1, none⟩ (.int .i64 x.kind)).setCell ⟨w.heap.size + 1, 2, none⟩ (.int .i64 x.level)) := by
 have h1 : (W.setCell ⟨w.heap.size + 1, 0, none⟩ body).heap[w.heap.size + 1]? = some (.cells #[body, .int .i64 0, .int .i64 0] 60 (0, 0)) := hSk h.res body
 have b1 := h.below.setCell (p := ⟨w.heap.size + 1, 0, none⟩) (Nat.le_succ _) body
 generalize W.setCell ⟨w.heap.size + 1, 0, none⟩ body = W at h1 b1 ⊢
 have h2 : (W.setCell ⟨w.heap.size + 1, 1, none⟩ (.int .i64 x.kind)).heap[w.heap.size + 1]? = some (.cells #[body, .int .i64 x.kind, .int .i64 0] 60 (0, 0)) := hSk h1 (.int .i64 x.kind)
 have b2 := b1.setCell (p := ⟨w.heap.size + 1, 1, none⟩) (Nat.le_succ _) (.int .i64 x.kind)
 generalize W.setCell ⟨w.heap.size + 1, 1, none⟩ (.int .i64 x.kind) = W at h2 b2 ⊢
 have h3 : (W.setCell ⟨w.heap.size + 1, 2, none⟩ (.int .i64 x.level)).heap[w.heap.size + 1]? = some (.cells #[body, .int .i64 x.kind, .int .i64 x.level] 60 (0, 0)) := hSk h2 (.int .i64 x.level)
 have b3 := b2.setCell (p := ⟨w.heap.size + 1, 2, none⟩) (Nat.le_succ _) (.int .i64 x.level)
 generalize W.setCell ⟨w.heap.size + 1, 2, none⟩ (.int .i64 x.level) = W at h3 b3 ⊢
 obtain ⟨k0, k1, k2⟩ := cl3 h3
 exact bodyPost_ret (v := .tuple #[.agg #[body, .int .i64 x.kind, .int .i64 x.level], .nilIface]) (by simp [results, Tryz.f31, go_sem, t2, t3, k0, k1, k2]) rfl ⟨rfl, b3⟩
set_option maxRecDepth 100000 in
set_option maxHeartbeats 8000000 in
theorem open_num (x : Sk) (s : SS) (w : World) (hx : s.At w.heap.size w x) (hk : x.kind = 1) (h0 : (x.level == 0) = true) (hll : s.el < 2147483648) :
  Calls Tryz.prog 31 #[.agg #[.int .i64 x.kind, .int .i64 x.level, .slice s.ea s.el s.ec, .int .i64 x.hb, .string x.hr, .int .i64 x.cr, .int .i64 x.cc, .slice s.ca s.cl s.cc, .int .i64 x.gf, .slice s.ga s.gl s.gc]] w (OpenPost (exRight x.e && skSame x (skNum 1 x.level x.e)) (.iface 144 (.agg #[.slice s.ea s.el s.ec])) x w) := by
 obtain ⟨W0, hW0, hO⟩ := open_in hx
 have HO := Lib.hid hO
 have HK := Lib.hid hk
 rw [hk] at hW0 ⊢
 have t1 : decide (x.level < 0) = false := by have := beq_iff_eq.1 h0; simp [this]
 have t2 : decide ((4 : Int) < x.level) = false := by have := beq_iff_eq.1 h0; simp [this]
 have hbt : ∀ w, Calls Tryz.prog 21 #[.int .i64 1] w fun e w' => e = .returned (.int .i64 4) ∧ w' = w := fun w => (Bottom_any 1 w).mono fun e w' ⟨h1, h2⟩ => ⟨h1, h2.symm⟩
 have HBT := Lib.hid hbt
 clear hx hO hbt hk
 go_enter Tryz.func31, Tryz.ntmps31
 go_wp2_with fail
 clear hW0
 have c0 : W0.cell? ⟨w.heap.size, 0, none⟩ = some (.int .i64 1) := by rw [← HK.out]; exact cCc HO.out.box 0
 have q0 : ∀ W, Below W0.heap.size W0 W → W.cell? ⟨w.heap.size, 0, none⟩ = some (.int .i64 1) ∧ Below W0.heap.size W0 W := fun W h => ⟨by rw [← HK.out]; exact cCc (HO.out.go h).box 0, h⟩
 have HQ := Lib.hid q0
 clear q0
 go_region_held3 (fun w' => w'.cell? ⟨w.heap.size, 0, none⟩ = some (.int .i64 1) ∧ Below W0.heap.size W0 w')
  (first
   | exact HQ.out _ (Below.refl _ _).drew
   | (go_split_ands; refine HQ.out _ ?_; first | assumption | exact Below.trans (by assumption) (Below.mono (by assumption) (Below.size (by assumption)))))
  (first
   | (go_at_call 62; refine (kinds_at _).mono ?_; rintro e w1 ⟨r, rfl, hr, hb1⟩; have hlk := look_1 hr; have hq1 : Below W0.heap.size W0 w1 := (by go_split_ands; exact Below.trans (by assumption) (Below.mono hb1 (Below.size (by assumption))))))
 have hO1 := HO.out.go hq1
 have hbx := hO1.box
 rw [HK.out] at hbx
 obtain ⟨d0, d1, d2, d3, d4, d5, d6, d7, d8, d9⟩ := cl10 hbx
 clear hlk hr hb1 c0
 go_wp2_with fail
 go_quiet ((go_at_call 21; exact Calls.quiet_of_same (HBT.out _)))
 go_wp2_with fail
 have hO2 := hO1.go (bDr (Below.refl _ _) nq)
 have hD := distinct0_any x s (w1.drewN nq) hO2.lists h0
 rw [HK.out] at hD
 generalize hbr : exRight x.e = br at hD
 have HBR := Lib.hid hbr
 clear hbr
 refine hD.mono ?_
 rintro e w3 ⟨rfl, hb3⟩
 have hO3 := hO2.go hb3
 have hbx3 := hO3.box
 rw [HK.out] at hbx3
 clear hD hO2 hb3 hO1 hbx d0 d1 d2 d3 d4 d5 d6 d7 d8 d9 HQ HBT HO hq1
 obtain ⟨d0, d1, d2, d3, d4, d5, d6, d7, d8, d9⟩ := cl10 hbx3
 obtain ⟨p0, p1, p2⟩ := cl3 hO3.res
 obtain ⟨f0, f1, f2⟩ := cz3 hO3.res
 cases br with
 | false =>
  go_wp2_with fail
  rw [HBR.out, Bool.false_and]
  exact open_wrong hO3 rfl rfl
 | true =>
  obtain ⟨W4, hW4, hX4, hB4, hs4⟩ := boxes1 w3 #[.iface 144 (.agg #[.slice s.ea s.el s.ec]), .int .i64 1, .int .i64 x.level] 60
  have HW4 := Lib.hid hW4
  have HO4 := Lib.hid (hO3.go hB4)
  have HX4 := Lib.hid hX4
  clear hW4 hX4 hB4 hs4 hO3 p0 p1 p2 f0 f1 f2 hbx3
  go_wp2_with fail
  rw [HW4.out]
  clear HW4 d0 d1 d2 d3 d4 d5 d6 d7 d8 d9
  have q4 : ∀ w', Below W4.heap.size W4 w' → w'.cell? ⟨w.heap.size, 0, none⟩ = some (.int .i64 1) ∧ w'.cell? ⟨w.heap.size, 1, none⟩ = some (.int .i64 x.level) ∧ w'.cell? ⟨w.heap.size, 2, none⟩ = some (.slice s.ea s.el s.ec) ∧ w'.cell? ⟨w.heap.size, 3, none⟩ = some (.int .i64 x.hb) ∧ w'.cell? ⟨w.heap.size, 4, none⟩ = some (.string x.hr) ∧ w'.cell? ⟨w.heap.size, 5, none⟩ = some (.int .i64 x.cr) ∧ w'.cell? ⟨w.heap.size, 6, none⟩ = some (.int .i64 x.cc) ∧ w'.cell? ⟨w.heap.size, 7, none⟩ = some (.slice s.ca s.cl s.cc) ∧ w'.cell? ⟨w.heap.size, 8, none⟩ = some (.int .i64 x.gf) ∧ w'.cell? ⟨w.heap.size, 9, none⟩ = some (.slice s.ga s.gl s.gc) ∧ w'.cell? ⟨w3.heap.size, 0, none⟩ = some (.iface 144 (.agg #[.slice s.ea s.el s.ec])) ∧ w'.cell? ⟨w3.heap.size, 1, none⟩ = some (.int .i64 1) ∧ w'.cell? ⟨w3.heap.size, 2, none⟩ = some (.int .i64 x.level) ∧ Below W4.heap.size W4 w' := fun w' h => by
   have hb := (HO4.out.go h).box
   rw [HK.out] at hb
   have hc := known h (Nat.le_refl _) HX4.out
   exact ⟨cCc hb 0, cCc hb 1, cCc hb 2, cCc hb 3, cCc hb 4, cCc hb 5, cCc hb 6, cCc hb 7, cCc hb 8, cCc hb 9, cCc hc 0, cCc hc 1, cCc hc 2, h⟩
  have HQ4 := Lib.hid q4
  clear q4
  obtain ⟨sm, hsm⟩ : ∃ sm, skSame x (skNum 1 x.level x.e) = sm := ⟨_, rfl⟩
  have HSM := Lib.hid hsm
  clear hsm
  have HSK : Hid (∀ W, Below W4.heap.size W4 W → Calls Tryz.prog 63 #[.agg #[.iface 144 (.agg #[.slice s.ea s.el s.ec]), .int .i64 1, .int .i64 x.level]] W (SkPost (skNum 1 x.level x.e) W)) := fun W h => sketch_num 1 x.level x.e s.ea s.el s.ec W (HO4.out.go h).lists.e.1 hll
  have HSA : Hid (∀ W (s' : SS), Below W4.heap.size W4 W → s'.At W.heap.size W (skNum 1 x.level x.e) → Calls Tryz.prog 14 #[.agg #[.int .i64 1, .int .i64 x.level, .slice s.ea s.el s.ec, .int .i64 x.hb, .string x.hr, .int .i64 x.cr, .int .i64 x.cc, .slice s.ca s.cl s.cc, .int .i64 x.gf, .slice s.ga s.gl s.gc], .agg #[.int .i64 (skNum 1 x.level x.e).kind, .int .i64 (skNum 1 x.level x.e).level, .slice s'.ea s'.el s'.ec, .int .i64 (skNum 1 x.level x.e).hb, .string (skNum 1 x.level x.e).hr, .int .i64 (skNum 1 x.level x.e).cr, .int .i64 (skNum 1 x.level x.e).cc, .slice s'.ca s'.cl s'.cc, .int .i64 (skNum 1 x.level x.e).gf, .slice s'.ga s'.gl s'.gc]] W fun e w' => e = .returned (.bool sm) ∧ Below W.heap.size W w') := fun W s' h hs' => by
   have := ladder_Same_any x (skNum 1 x.level x.e) s s' W (HO4.out.go h).lists hs'
   rw [HSM.out, HK.out] at this
   exact this
  go_region_held3 (fun w' => w'.cell? ⟨w.heap.size, 0, none⟩ = some (.int .i64 1) ∧ w'.cell? ⟨w.heap.size, 1, none⟩ = some (.int .i64 x.level) ∧ w'.cell? ⟨w.heap.size, 2, none⟩ = some (.slice s.ea s.el s.ec) ∧ w'.cell? ⟨w.heap.size, 3, none⟩ = some (.int .i64 x.hb) ∧ w'.cell? ⟨w.heap.size, 4, none⟩ = some (.string x.hr) ∧ w'.cell? ⟨w.heap.size, 5, none⟩ = some (.int .i64 x.cr) ∧ w'.cell? ⟨w.heap.size, 6, none⟩ = some (.int .i64 x.cc) ∧ w'.cell? ⟨w.heap.size, 7, none⟩ = some (.slice s.ca s.cl s.cc) ∧ w'.cell? ⟨w.heap.size, 8, none⟩ = some (.int .i64 x.gf) ∧ w'.cell? ⟨w.heap.size, 9, none⟩ = some (.slice s.ga s.gl s.gc) ∧ w'.cell? ⟨w3.heap.size, 0, none⟩ = some (.iface 144 (.agg #[.slice s.ea s.el s.ec])) ∧ w'.cell? ⟨w3.heap.size, 1, none⟩ = some (.int .i64 1) ∧ w'.cell? ⟨w3.heap.size, 2, none⟩ = some (.int .i64 x.level) ∧ Below W4.heap.size W4 w')
   (first
    | exact HQ4.out _ (Below.refl _ _).drew
    | (go_split_ands; refine HQ4.out _ ?_; first | assumption | exact Below.trans (by assumption) (Below.mono (by assumption) (Below.size (by assumption)))))
   (first
    | (go_at_call 63; refine (HSK.out _ (by go_split_ands; assumption)).mono ?_; rintro e w5 ⟨s5, rfl, hA5, -, -, -, hb5⟩; have hq5 : Below W4.heap.size W4 w5 := (by go_split_ands; exact Below.trans (by assumption) (Below.mono hb5 (Below.size (by assumption)))))
    | (go_at_call 14; refine (HSA.out _ s5 hq5 hA5).mono ?_; rintro e w6 ⟨rfl, hb6⟩; have hq6 : Below W4.heap.size W4 w6 := hq5.trans (hb6.mono hq5.size)))
  have hO6 := HO4.out.go hq6
  have hX6 := known hq6 (Nat.le_refl _) HX4.out
  obtain ⟨u0, u1, u2⟩ := cl3 hX6
  obtain ⟨p0, p1, p2⟩ := cl3 hO6.res
  obtain ⟨f0, f1, f2⟩ := cz3 hO6.res
  clear HQ4 HSK HSA hX6 hb6 hb5 hA5 hq5 hq6 HO4 HX4
  cases sm with
  | false =>
   go_wp2_with fail
   rw [HBR.out, HSM.out, Bool.true_and]
   exact open_wrong hO6 rfl rfl
  | true =>
   go_wp2_with fail
   have h9 := fun tm => open_okay (body := .iface 144 (.agg #[.slice s.ea s.el s.ec])) (tm := tm) hO6
   rw [HK.out] at h9
   rw [HBR.out, HSM.out, Bool.true_and]
   exact h9 _ rfl rfl
end Go.Proofs.YtcbbenncdainfaaGreatDoor
namespace Go.Proofs.YtcbbenncdainfaaGreatDoor
open Go Go.RowKit Go.Shelf
theorem asFault (w : World) : (Instr.typeAssert (.iface 219 (.agg #[.string tooMany])) 62 219 true).run Tryz.prog w = .ok (.tuple #[.agg #[.string tooMany], .bool true]) w := by kernel_rfl
theorem asNilFault (w : World) : (Instr.typeAssert .nilIface 62 219 true).run Tryz.prog w = .ok (.tuple #[.agg #[.string ⟨#[]⟩], .bool false]) w := by kernel_rfl
theorem exErrno_fault (w : World) : Calls Tryz.prog 141 #[.iface 219 (.agg #[.string tooMany])] w fun e w' => e = .returned (.int .i64 60) ∧ Below w.heap.size w w' := by
 have h := asFault w
 go_enter Tryz.func141, Tryz.ntmps141
 go_wp2
 go_ret
 exact ⟨rfl, (Below.refl _ w).alloc (Nat.le_refl _) _⟩
theorem exErrno_nil (w : World) : Calls Tryz.prog 141 #[.nilIface] w fun e w' => e = .returned (.int .i64 0) ∧ Below w.heap.size w w' := by
 have h := asNilFault w
 go_enter Tryz.func141, Tryz.ntmps141
 go_wp2
 go_ret
 exact ⟨rfl, (Below.refl _ w).alloc (Nat.le_refl _) _⟩
def ExPost (o : Option (List Int)) (w : World) (e : Ending) (w' : World) : Prop := Below w.heap.size w w' ∧ match o with
 | some m => ∃ a cap, e = .returned (.tuple #[.agg #[.slice a m.length cap], .int .i64 0]) ∧ SlC encU 1 w'.heap.size w' a m.length cap m ∧ (∀ x, a = some x → w.heap.size ≤ x.block)
 | none => e = .returned (.tuple #[.agg #[.slice none 0 0], .int .i64 60])
def exAdd (l : List Int) (n : Int) : Option (List Int) := if exRight l then exGather l [n] else none
end Go.Proofs.YtcbbenncdainfaaGreatDoor
namespace Go.Proofs.YtcbbenncdainfaaGreatDoor
open Go Go.RowKit Go.Shelf
theorem wrap_u64_nat (n : Nat) (h : n < 2 ^ 63) : IntKind.u64.wrap (n : Int) = n := by simp [IntKind.wrap, IntKind.bits, IntKind.signed]; omega
set_option maxRecDepth 100000 in
set_option maxHeartbeats 1000000 in
theorem exCount_any (l : List Int) (a : Option Addr) (len cap : Nat) (w : World) (hL : SlE encU 1 w.heap.size w a len l) (hn : len < 2 ^ 62) :
  Calls Tryz.prog 137 #[.agg #[.slice a len cap]] w fun e w' => e = .returned (.int .u64 (if exRight l then (l.length : Int) else 0)) ∧ Below w.heap.size w w' := by
 have hR : Hid (∀ w1, Below w.heap.size w w1 → Calls Tryz.prog 95 #[.agg #[.slice a len cap]] w1 fun e w' => e = .returned (.bool (exRight l)) ∧ Below w1.heap.size w1 w') := fun w1 hb => exact_Right_any l a len cap w1 ((hL.below hb).mono hb.size)
 have HLL := Lib.hid hL.1
 have HN := Lib.hid hn
 obtain ⟨rb, hrb⟩ : ∃ rb, exRight l = rb := ⟨_, rfl⟩
 rw [hrb] at hR ⊢
 clear hrb hL hn
 go_enter Tryz.func137, Tryz.ntmps137
 go_wp2_with fail
 have hb0 : Below w.heap.size w (w.alloc (.cells #[.slice a len cap] 24)) := (Below.refl _ w).alloc (Nat.le_refl _) _
 have hc0 := World.alloc_heap_new w (.cells #[.slice a len cap] 24)
 refine (hR.out _ hb0).mono ?_
 rintro e w1 ⟨rfl, hb1⟩
 have c1 := cCc (known hb1 (Nat.le_refl _) hc0) 0
 have hb1 := hb0.trans (hb1.mono hb0.size)
 cases rb with
 | true =>
  go_wp2_with fail
  go_ret
  refine ⟨?_, hb1⟩
  have h1 := HLL.out
  have h2 := HN.out
  show Ending.returned (.int .u64 (IntKind.u64.wrap (len : Int))) = Ending.returned (.int .u64 (l.length : Int))
  rw [← h1, wrap_u64_nat len (by omega)]
 | false =>
  go_wp2_with fail
  go_ret
  exact ⟨rfl, hb1⟩
end Go.Proofs.YtcbbenncdainfaaGreatDoor
namespace Go.Proofs.YtcbbenncdainfaaGreatDoor
open Go Go.RowKit Go.Shelf
attribute [local go_sem] Oper.semAt_some
structure Lab where
 name : ByteArray
 value : ByteArray
def Lab.ok (l : Lab) : Prop := l.name.size < 4294967281 ∧ l.value.size < 4294967281
end Go.Proofs.YtcbbenncdainfaaGreatDoor
namespace Go.Proofs.YtcbbenncdainfaaGreatDoor
open Go Go.RowKit Go.Shelf
deriving instance DecidableEq for Lab
theorem drop_cons' {α : Type} {l : List α} {k : Nat} {x : α} (h : l[k]? = some x) : l.drop k = x :: l.drop (k + 1) := by
 obtain ⟨hk, rfl⟩ := List.getElem?_eq_some_iff.1 h
 exact List.drop_eq_getElem_cons hk
end Go.Proofs.YtcbbenncdainfaaGreatDoor
namespace Go.Proofs.YtcbbenncdainfaaGreatDoor
open Go Go.RowKit Go.Shelf
section
variable {w : World} {base e size n c g : Nat} {xs : List Value}
theorem own_cell (h : w.ownsRow base e size (.slice (some ⟨g, 0, none⟩) n c) n xs) {j : Nat} {u : Value} (hj : xs[j]? = some u) : w.cell? ⟨g, j, none⟩ = some u := by
 have h1 := h.cells (g := g) rfl j u hj
 have ea : (⟨g, 0, none⟩ : Addr).add j = ⟨g, j, none⟩ := by unfold Addr.add; split <;> simp_all
 rw [ea] at h1
 exact h1
theorem own_blk (h : w.ownsRow base e size (.slice (some ⟨g, 0, none⟩) n c) n xs) : base ≤ g ∧ ∃ cur, w.heap[g]? = some (.cells cur e (0, 0)) ∧ n ≤ c ∧ c ≤ maxLen ∧ cur.size = c * size ∧ cur.toList.take (n * size) = xs := by
 rcases h.2 with ⟨h1, _⟩ | ⟨g', cap, cur, h1, h2, h3, h4, h5, h6, h7⟩
 ·cases h1
 ·injection h1 with e1 e2 e3
  injection e1 with e1
  injection e1 with e1
  subst e1
  subst e3
  exact ⟨h2, cur, h3, h4, h5, h6, h7⟩
theorem own_frozen (h : w.ownsRow base e size (.slice (some ⟨g, 0, none⟩) n c) n xs) (j : Nat) : w.frozen? ⟨g, j, none⟩ = false := by
 obtain ⟨-, cur, h1, -⟩ := own_blk h
 exact cFz h1 j
theorem own_lt (h : w.ownsRow base e size (.slice (some ⟨g, 0, none⟩) n c) n xs) : g < w.heap.size := by
 obtain ⟨-, cur, h1, -⟩ := own_blk h
 exact (Array.getElem?_eq_some_iff.1 h1).1
theorem own_set (h : w.ownsRow base e size (.slice (some ⟨g, 0, none⟩) n c) n xs) (i : Nat) (v : Value) : (w.setCell ⟨g, i, none⟩ v).ownsRow base e size (.slice (some ⟨g, 0, none⟩) n c) n (xs.set i v) := by
 obtain ⟨h0, cur, h1, h2, h3, h4, h5⟩ := own_blk h
 refine ⟨by rw [List.length_set]; exact h.1, .inr ⟨g, c, cur.setIfInBounds i v, rfl, h0, hSk h1 v, h2, h3, by rw [Array.size_setIfInBounds]; exact h4, ?_⟩⟩
 rw [Array.toList_setIfInBounds, List.take_set, h5]
end
end Go.Proofs.YtcbbenncdainfaaGreatDoor

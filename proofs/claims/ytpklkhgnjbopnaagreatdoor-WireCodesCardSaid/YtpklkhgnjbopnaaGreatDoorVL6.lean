/- Plain lemmas and words of my own, of no program: the runes of a string, owned memory, lists in slices. Words of my own, of no program: slices in memory, boxes, a range over a function in a plain walk. Plain lemmas: a fold that may fail, along a list; cells of slices of structs. Rows of laws: what a call that answers true and changes nothing leaves; arguments opened to the walks' words. Of no program. Appends of many cells, makes: as run equations. A drawn region whose operations yield fixed values in every world of a class: one walk, in the order of the text. Boxes. Slices by their elements: whatever address an empty one has. Of no program. Sketches as plain data; which are right (layers 6 to 10). No program in sight. slices.Clone at []uint64, []api.Bin, []api.Label: printed by wip/tools/gen_x5.py. Package exact: Right, Same; slices.Equal and slices.Clone at []uint64. slices.Equal at []uint64; exact.Same, cms.Same, hist.Same: printed by wip/tools/gen_x7.py. An address moved on, as a slice expression moves it. Of no program. Package hll: ranks, Right. Package ladder: work.sketch. Package ladder: work.sketch, the other bodies. DERIVED: THE SHELF's CONTRACTS AT THIS DUMP, IN PLAIN WORDS (tools/lay-plain.mjs out of 'TryzShelf.lean', which tools/lay-shelf.mjs wrote): THE SAME DECLARATIONS UNDER THE SAME NAMES: 'import', 'namespace', 'open', 'def', 'theorem' AND NOTHING ELSE: no command of the shelf's: FOR A HAND-IN. Each laying: the table of numbers ('.._ren') and one theorem, a field a fact of the dump's own or the kernel's comparison; each contract: ONE APPLICATION. Package ladder: open whole; Right, Cost. Sketches at work as plain data: a number added, one level lower. No program in sight. Regions that draw their order inside a round: by the walk outside of one. Of no program. Package label: values, sets of labels (ranges over slices.Values). strings.Builder: copyCheck, WriteString, WriteByte at this program (the library's copyCheck holds a branch that the loader refuses, so the shelf's contracts are not laid). Package label: quoted. Package label: Text. -/
import Derived.WalkKit
import Derived.LoopTactic
import Derived.WalkLawsBesides
import Derived.WalkSpells
import Derived.Lib.Hide
import Derived.Laws.RangeAny
import Derived.Lib.OthersKept
import Derived.Lib.Strings
import Derived.Test.YtpklkhgnjbopnaaGreatDoorProg
import Derived.RangeFuncNested
import Derived.RangeFuncBound
import Derived.RangeFuncCalls
import Derived.RangeFuncLeaves
import Derived.Shelf.Abstract
import Derived.Shelf.RegionOpen
import Derived.OwnWalkIn
import Derived.TacticsInMore
import Derived.LoopNIn
import Derived.LoopIn
import Derived.Outline
import Derived.BigGuardIn
import Derived.WalkMore
import Derived.ProofKit
import Derived.OpenShut
import Derived.Carry
import Derived.Deep.Slices
import Derived.Deep.Fields
import Derived.Deep.DeepHandedRow
import Derived.Lib.SmallJoins
import Derived.Deep.RegionLaw
import Derived.BigQuiet
import Derived.BigRegion
import Derived.Deep.QuietTactic
import Derived.ScopeJumps
import Derived.Lib.SliceRun
import Derived.Laws.BitsAllLaws
import Derived.WideMake
import Derived.Shelf.Strings.Builder1
import Derived.Shelf.Strings.Builder2
import Derived.Shelf.Strings.OnBuilder
import Derived.Shelf.Small.Bits
import Derived.Shelf.Strings.BuilderF
import Derived.Shelf.Strings.BuilderK
import Derived.Shelf.Strings.BuilderRune
import Derived.Shelf.Utf8.AppendRune
import Derived.Shelf.Utf8.AppendRunePlain
import Derived.Shelf.Strings.Builder2Cap
import Derived.Shelf.Strconv.Itoa0
import Derived.Shelf.Strings.Search1
import Derived.Shelf.Strings.Search2
import Derived.Shelf.Strings.Search3
import Derived.Shelf.Strings.Cut
import Derived.Shelf.LaysM
import Derived.Shelf.Strings.Shaped
import Derived.Shelf.Unicode.DecodeSlow
import Derived.Shelf.Unicode.DecodeAny
import Derived.Shelf.Strings.BuilderCap
import Derived.Ground.SlgmProg
import Derived.Shelf.SortM.Plain
import Derived.Shelf.SortM.SortNone
import Derived.Deep.RegionHeld3
import Derived.Deep.Cut
import Derived.Deep.CutRange
import Derived.Deep.DeepCutAuto
import Derived.Lib.BitFns
import Derived.Lib.ItoaNum
namespace Go.Proofs.YtpklkhgnjbopnaaGreatDoor
open Go Go.RowKit
abbrev CR (k : Nat) (a : Array Value) (w : World) (v : Value) : Prop := Calls Tryz.prog k a w fun e w' => e = .returned v ∧ Below (w.heap.size) w w'
theorem toList_isEmpty (s : ByteArray) : s.toList.isEmpty = (s.size == 0) := by
 rw [Lib.toList_data, Lib.size_eq]
 cases s.data.toList <;> simp
end Go.Proofs.YtpklkhgnjbopnaaGreatDoor
namespace Go.Proofs.YtpklkhgnjbopnaaGreatDoor
open Go Go.RowKit Go.Shelf
def SlAt (n₀ : Nat) (w : World) (sv : Value) (n : Nat) (cs : List Value) : Prop :=
 (sv = .slice none 0 0 ∧ n = 0 ∧ cs = []) ∨ ∃ b off cap, sv = .slice (some ⟨b, off, none⟩) n cap ∧ b < n₀ ∧ ∀ i, i < cs.length → w.cell? ⟨b, off + i, none⟩ = cs[i]?
theorem SlAt.below {n₀ : Nat} {A B : World} (h : Below n₀ A B) {sv : Value} {n : Nat} {cs : List Value} : SlAt n₀ A sv n cs → SlAt n₀ B sv n cs
 | .inl e => .inl e
 | .inr ⟨b, off, cap, e, hb, hc⟩ => .inr ⟨b, off, cap, e, hb, fun j hj => (h.cell (p := ⟨b, off + j, none⟩) hb).trans (hc j hj)⟩
theorem SlAt.mono {n₀ n₁ : Nat} (hn : n₀ ≤ n₁) {w : World} {sv : Value} {n : Nat} {cs : List Value} : SlAt n₀ w sv n cs → SlAt n₁ w sv n cs
 | .inl e => .inl e
 | .inr ⟨b, off, cap, e, hb, hc⟩ => .inr ⟨b, off, cap, e, Nat.lt_of_lt_of_le hb hn, hc⟩
theorem bBoxed {n : Nat} {W W' : World} (h : Below n W W') {B t : Nat} {v : Value} (hB : B < n) (hb : Boxed W B t v) : Boxed W' B t v := (h.block B hB).trans hb
theorem bKeeps {n B : Nat} {W W' : World} (h : Below n W W') (hn : W.heap.size ≤ n) : KeepsFrom B W W' :=
 ⟨h.size, fun k _ _ hk _ => (h.block k (by have := (Array.getElem?_eq_some_iff.1 hk).1; omega)).trans hk⟩
theorem calls_marks {P : Program} {f : FuncId} {fn : Func} {c : Code} {args : Array Value} {w : World} {R : Ending → World → Prop} (hf : P.funcs[f]? = some fn) (hb : fn.body = some c)
  (h : c.wp P (bodyPostM Fence.wide 9 P fn R) { tmps := args ++ Array.replicate (fn.ntmps - args.size) undef, defers := [] } w) : Calls P f args w R :=
 (callsIn_wide (n := 9)).1 (callsIn_of_wp_marks hf hb trivial (wpIn_wide.2 h) rfl)
theorem marks_ret0 {P : Program} {fn : Func} {R : Ending → World → Prop} {a : Act} {w : World} {v : Value} (hr : (results fn a.tmps).run P w = .ok v w) (hd : a.defers = []) (hR : R (.returned v) w) :
  bodyPostM Fence.wide 9 P fn R .ret a w := by
 show LeavesInM Fence.wide 9 P fn a.tmps R a.defers .returning w
 rw [hd]; exact ⟨v, hr, hR⟩
theorem marks_ret1 {P : Program} {fn : Func} {R : Ending → World → Prop} {tmps : Array Value} {w : World} {D : Nat} {v : Value} (hK : w.heap[D]? = some (.deferred (some [])))
  (hr : (results fn tmps).run P (w.putObj D (.deferred none)) = .ok v (w.putObj D (.deferred none))) (hR : R (.returned v) (w.putObj D (.deferred none))) :
  bodyPostM Fence.wide 9 P fn R .ret { tmps := tmps, defers := [{ target := .collected D, args := #[] }] } w := by
 refine ⟨by simp, .inl ⟨_, _, rfl, run_takeDeferred hK, ?_⟩⟩
 exact ⟨v, hr, hR⟩
theorem bPutD {n D : Nat} {w0 W : World} (h : Below n w0 W) (hD : n ≤ D) (hK : W.heap[D]? = some (.deferred (some []))) : Below n w0 (W.putObj D (.deferred none)) :=
 h.trans ((Below.refl n W).grown (grownBy_putObj' W D _) (by have := (Array.getElem?_eq_some_iff.1 hK).1; omega) (fun k e => by cases e; omega))
theorem ownBox {β : Type} (C B : Nat) (t : TypeId) (f : β → Value) : OwnFrom C (fun s W => Boxed W B t (f s)) := Own.from (boxed_own B t f) C
theorem ownCells {β : Type} (C B : Nat) (f : β → Array Value) (t : TypeId) : OwnFrom C (fun s W => W.heap[B]? = some (.cells (f s) t (0, 0))) := fun s X Y row hs hg hr => by
 refine (hg.block B (Array.getElem?_eq_some_iff.1 hs).1 (fun e => ?_)).trans hs
 obtain ⟨_, o, ho, hc⟩ := hr B e.symm
 rw [hs] at ho; cases ho; cases hc
theorem cCc {W : World} {B : Nat} {c : Array Value} {t : TypeId} {fz : Nat × Nat} (h : W.heap[B]? = some (.cells c t fz)) (i : Nat) : W.cell? ⟨B, i, none⟩ = c[i]? := by simp [World.cell?, h]
theorem cFz {W : World} {B : Nat} {c : Array Value} {t : TypeId} (h : W.heap[B]? = some (.cells c t (0, 0))) (i : Nat) : W.frozen? ⟨B, i, none⟩ = false := by simp [World.frozen?, h]
theorem cl2 {W : World} {B : Nat} {v0 v1 : Value} {t : TypeId} {fz : Nat × Nat} (h : W.heap[B]? = some (.cells #[v0, v1] t fz)) : W.cell? ⟨B, 0, none⟩ = some v0 ∧ W.cell? ⟨B, 1, none⟩ = some v1 := ⟨cCc h 0, cCc h 1⟩
theorem cz2 {W : World} {B : Nat} {c : Array Value} {t : TypeId} (h : W.heap[B]? = some (.cells c t (0, 0))) : W.frozen? ⟨B, 0, none⟩ = false ∧ W.frozen? ⟨B, 1, none⟩ = false := ⟨cFz h 0, cFz h 1⟩
theorem cl3 {W : World} {B : Nat} {v0 v1 v2 : Value} {t : TypeId} {fz : Nat × Nat} (h : W.heap[B]? = some (.cells #[v0, v1, v2] t fz)) : W.cell? ⟨B, 0, none⟩ = some v0 ∧ W.cell? ⟨B, 1, none⟩ = some v1 ∧ W.cell? ⟨B, 2, none⟩ = some v2 := ⟨cCc h 0, cCc h 1, cCc h 2⟩
theorem cl4 {W : World} {B : Nat} {v0 v1 v2 v3 : Value} {t : TypeId} {fz : Nat × Nat} (h : W.heap[B]? = some (.cells #[v0, v1, v2, v3] t fz)) : W.cell? ⟨B, 0, none⟩ = some v0 ∧ W.cell? ⟨B, 1, none⟩ = some v1 ∧ W.cell? ⟨B, 2, none⟩ = some v2 ∧ W.cell? ⟨B, 3, none⟩ = some v3 := ⟨cCc h 0, cCc h 1, cCc h 2, cCc h 3⟩
theorem cz4 {W : World} {B : Nat} {c : Array Value} {t : TypeId} (h : W.heap[B]? = some (.cells c t (0, 0))) : W.frozen? ⟨B, 0, none⟩ = false ∧ W.frozen? ⟨B, 1, none⟩ = false ∧ W.frozen? ⟨B, 2, none⟩ = false ∧ W.frozen? ⟨B, 3, none⟩ = false := ⟨cFz h 0, cFz h 1, cFz h 2, cFz h 3⟩
theorem cl10 {W : World} {B : Nat} {v0 v1 v2 v3 v4 v5 v6 v7 v8 v9 : Value} {t : TypeId} {fz : Nat × Nat} (h : W.heap[B]? = some (.cells #[v0, v1, v2, v3, v4, v5, v6, v7, v8, v9] t fz)) : W.cell? ⟨B, 0, none⟩ = some v0 ∧ W.cell? ⟨B, 1, none⟩ = some v1 ∧ W.cell? ⟨B, 2, none⟩ = some v2 ∧ W.cell? ⟨B, 3, none⟩ = some v3 ∧ W.cell? ⟨B, 4, none⟩ = some v4 ∧ W.cell? ⟨B, 5, none⟩ = some v5 ∧ W.cell? ⟨B, 6, none⟩ = some v6 ∧ W.cell? ⟨B, 7, none⟩ = some v7 ∧ W.cell? ⟨B, 8, none⟩ = some v8 ∧ W.cell? ⟨B, 9, none⟩ = some v9 := ⟨cCc h 0, cCc h 1, cCc h 2, cCc h 3, cCc h 4, cCc h 5, cCc h 6, cCc h 7, cCc h 8, cCc h 9⟩
theorem cz10 {W : World} {B : Nat} {c : Array Value} {t : TypeId} (h : W.heap[B]? = some (.cells c t (0, 0))) : W.frozen? ⟨B, 0, none⟩ = false ∧ W.frozen? ⟨B, 1, none⟩ = false ∧ W.frozen? ⟨B, 2, none⟩ = false ∧ W.frozen? ⟨B, 3, none⟩ = false ∧ W.frozen? ⟨B, 4, none⟩ = false ∧ W.frozen? ⟨B, 5, none⟩ = false ∧ W.frozen? ⟨B, 6, none⟩ = false ∧ W.frozen? ⟨B, 7, none⟩ = false ∧ W.frozen? ⟨B, 8, none⟩ = false ∧ W.frozen? ⟨B, 9, none⟩ = false := ⟨cFz h 0, cFz h 1, cFz h 2, cFz h 3, cFz h 4, cFz h 5, cFz h 6, cFz h 7, cFz h 8, cFz h 9⟩
theorem tk {P : Program} {md : Region.Mode} {ops : Array Oper} {Q : Exit → Act → World → Prop} (i : Nat) {oi : Oper} {v : Value} {fuel : Nat} {listed : Array Bool} {a : Act} {w : World} (hi : ops[i]? = some oi)
  (hy : ∀ w, (execOp a.eval oi).run P w = .ok (.value v) w) (h : wpAny P md ops Q fuel (listed.setIfInBounds i true) (a.put oi.dst v) w)
  (hw : Region.wanted oi (yielded ops a.tmps) = true := by rfl) (hs : Region.noSelect ops = true := by kernel_rfl) (hf : Region.free md ops listed i = true := by kernel_rfl)
  (hr : (Region.ready md ops listed).contains i = true := by kernel_rfl) (hQ : ∀ c a w, Q (.panic c) (a.put oi.dst v) w → Q (.panic c) a w := by exact fun _ _ _ h => h) : wpAny P md ops Q (fuel + 1) listed a w :=
 wpAny_take hi hs hf hr hQ (Or.inl ⟨hw, hy⟩) h
theorem ta {P : Program} {md : Region.Mode} {ops : Array Oper} {Q : Exit → Act → World → Prop} (i : Nat) {oi : Oper} {v : Value} {fuel : Nat} {listed : Array Bool} {a : Act} {w : World} (h : wpAny P md ops Q fuel (listed.setIfInBounds i true) (a.put oi.dst v) w) (hi : ops[i]? = some oi := by rfl)
  (hy : ∀ w, (execOp a.eval oi).run P w = .ok (.value v) w := by intro w; go_simp; with_reducible rfl)
  (hw : Region.wanted oi (yielded ops a.tmps) = true := by rfl) (hs : Region.noSelect ops = true := by kernel_rfl) (hf : Region.free md ops listed i = true := by kernel_rfl)
  (hr : (Region.ready md ops listed).contains i = true := by kernel_rfl) (hQ : ∀ c a w, Q (.panic c) (a.put oi.dst v) w → Q (.panic c) a w := by exact fun _ _ _ h => h) : wpAny P md ops Q (fuel + 1) listed a w :=
 wpAny_take hi hs hf hr hQ (Or.inl ⟨hw, hy⟩) h
theorem append_one (P : Program) {t e : TypeId} {z : Value} {size bytes : Nat} (ty : TypeId) (ht : P.underlying t = some (.slice e)) (hinfo : (P.info? e).map (fun i => (i.zero, i.size, i.bytes)) = some (some z, size, bytes)) (hzs : z.cells.size = size) (hsz : 0 < size)
  {W w0 : World} {B base : Nat} {v : Value} {n : Nat} {xs : List Value} (hown : W.ownsRow base e size v n xs) (hB : Below B w0 W) (hBb : B ≤ base) (hbase : base ≤ W.heap.size) (news : List Value) (hl : news.length = size) (h1 : ∀ u ∈ news, u.oneCell' = true)
  (hn : n < 4294967281) (hby : bytes ≤ 4096) :
  ∃ g cap w1, (Builtin.append_ #[t, t] ty #[v, .slice (some ⟨W.heap.size, 0, none⟩) 1 1]).run P (W.alloc (.cells news.toArray e)) = .ok (.slice (some ⟨g, 0, none⟩) (n + 1) cap) w1 ∧
   w1.ownsRow base e size (.slice (some ⟨g, 0, none⟩) (n + 1) cap) (n + 1) (xs ++ news) ∧ Below B w0 w1 ∧ W.heap.size < w1.heap.size ∧ (∀ k, k < base → w1.heap[k]? = W.heap[k]?) ∧ (∀ k, k < W.heap.size → some k ≠ v.ownBlock → w1.heap[k]? = W.heap[k]?) := by
 obtain ⟨i0, hi, hz0, hz1, hz2⟩ := info_parts hinfo
 have hcell : ∀ j u, news[j]? = some u → (W.alloc (.cells news.toArray e)).cell? ((⟨W.heap.size, 0, none⟩ : Addr).add j) = some u := fun j u hj => by
  have := cCc (World.alloc_heap_new W (.cells news.toArray e)) j
  have ea : (⟨W.heap.size, 0, none⟩ : Addr).add j = ⟨W.heap.size, j, none⟩ := by unfold Addr.add; split <;> simp_all
  rw [ea, this]
  simpa using hj
 obtain ⟨v', w1, hr, h2, h3, h4⟩ := run_append_own (P := P) (W.alloc (.cells news.toArray e)) base t ty e i0 z size bytes ht hi hz0 hz1 hz2 hzs hsz v n xs (hown.alloc _) ⟨W.heap.size, 0, none⟩ 1 1 news (by omega) hcell h1 (by unfold maxLen; omega) (by have := Nat.mul_le_mul (show n + 1 ≤ 4294967281 by omega) hby; omega) (by simp; omega)
 obtain ⟨g, cap, rfl⟩ := ownsRow_succ h2
 have hlt : ∀ k, v.ownBlock = some k → base ≤ k := fun k hk => (hown.lt k hk).1
 refine ⟨g, cap, w1, hr, h2, (hB.alloc (by omega) _).grown h3 (by simp; omega) (fun k hk => Nat.le_trans hBb (hlt k hk)), by have := h3.size; simp at this; omega, fun k hk => ?_, fun k hk hne => ?_⟩
 ·exact (h3.block k (by simp; omega) (fun e => by have := hlt k e.symm; omega)).trans (Below.heap_alloc _ _ _ (by omega))
 ·exact (h3.block k (by simp; omega) hne).trans (Below.heap_alloc _ _ _ hk)
theorem slAt_of_owns {w : World} {base e size n : Nat} {v : Value} {xs : List Value} (h : w.ownsRow base e size v n xs) : SlAt w.heap.size w v n xs := by
 rcases h.2 with ⟨rfl, rfl⟩ | ⟨g, cap, cur, rfl, hg, hh, hnc, hcm, hcs, ht⟩
 ·exact .inl ⟨rfl, rfl, List.eq_nil_of_length_eq_zero (by simpa using h.1)⟩
 ·refine .inr ⟨g, 0, cap, rfl, (Array.getElem?_eq_some_iff.1 hh).1, fun i hi => ?_⟩
  rw [Nat.zero_add, cCc hh i, ← ht, List.getElem?_take_of_lt (by have := h.1; omega)]
  simp
theorem box1 (w : World) (v0 : Value) (t0 : TypeId) : ∃ W, w.alloc (.cells #[v0] t0) = W ∧ Boxed W w.heap.size t0 v0 ∧ Below w.heap.size w W ∧ W.heap.size = w.heap.size + 1 :=
 ⟨_, rfl, Boxed.new w t0 v0, (Below.refl _ w).alloc (Nat.le_refl _) _, by simp⟩
theorem box2 (w : World) (v0 : Value) (t0 : TypeId) (v1 : Value) (t1 : TypeId) : ∃ W, (w.alloc (.cells #[v0] t0)).alloc (.cells #[v1] t1) = W ∧ Boxed W w.heap.size t0 v0 ∧ Boxed W (w.heap.size + 1) t1 v1 ∧ Below w.heap.size w W ∧ W.heap.size = w.heap.size + 2 := by
 obtain ⟨X, rfl, b0, hB, hs⟩ := box1 w v0 t0
 have b1 := Boxed.new (w.alloc (.cells #[v0] t0)) t1 v1
 rw [hs] at b1
 exact ⟨_, rfl, b0.alloc _, b1, hB.alloc hB.size _, by simp⟩
theorem box3 (w : World) (v0 : Value) (t0 : TypeId) (v1 : Value) (t1 : TypeId) (v2 : Value) (t2 : TypeId) : ∃ W, ((w.alloc (.cells #[v0] t0)).alloc (.cells #[v1] t1)).alloc (.cells #[v2] t2) = W ∧ Boxed W w.heap.size t0 v0 ∧ Boxed W (w.heap.size + 1) t1 v1 ∧ Boxed W (w.heap.size + 2) t2 v2 ∧ Below w.heap.size w W ∧ W.heap.size = w.heap.size + 3 := by
 obtain ⟨X, rfl, b0, b1, hB, hs⟩ := box2 w v0 t0 v1 t1
 have b2 := Boxed.new ((w.alloc (.cells #[v0] t0)).alloc (.cells #[v1] t1)) t2 v2
 rw [hs] at b2
 exact ⟨_, rfl, b0.alloc _, b1.alloc _, b2, hB.alloc hB.size _, by simp⟩
theorem owns_of_blocks {w w' : World} {base e size n : Nat} {v : Value} {xs : List Value} (h : w.ownsRow base e size v n xs) (hs : ∀ j, base ≤ j → j < w.heap.size → w'.heap[j]? = w.heap[j]?) : w'.ownsRow base e size v n xs := by
 refine ⟨h.1, ?_⟩
 rcases h.2 with h2 | ⟨g, cap, cur, hv, hg, hh, r⟩
 ·exact .inl h2
 ·exact .inr ⟨g, cap, cur, hv, hg, (hs g hg (Array.getElem?_eq_some_iff.1 hh).1).trans hh, r⟩
theorem wp_append_eq {P : Program} {w : World} {ops : Array Oper} {rest : List Oper} {o : Oper} {a : Act} {Q : Exit → Act → World → Prop} (hgd : o.guard = none) (s x : Operand) (t : TypeId)
  (ho : o.op = .call { callee := .builtin .append, args := #[s, x], argTypes := #[t, t] }) {v xv v' : Value} {w' : World} (hs : a.eval s = v) (hx : a.eval x = xv)
  (hr : (Builtin.append_ #[t, t] o.type #[v, xv]).run P w = .ok v' w') (h : wpList P ops Q rest (a.put o.dst v') w') : wpList P ops Q (o :: rest) a w := by
 refine wpList_plain hgd fun _ hK => ?_
 unfold Oper.wp execOp
 simp only [ho, resolve, invoke, builtin, Sem.run_bind, Sem.run_pure, Result.andThen_ok, List.map_toArray, List.map_cons, List.map_nil, hs, hx, hr]
 exact hK _ _ h
theorem wpIn_append_eq {F : Fence} {n : Nat} {P : Program} {w : World} {ops : Array Oper} {rest : List Oper} {o : Oper} {a : Act} {Q : Exit → Act → World → Prop} (hgd : o.guard = none) (s x : Operand) (t : TypeId)
  (hop : o.op = .call { callee := .builtin .append, args := #[s, x], argTypes := #[t, t] }) {v xv v' : Value} {w' : World} (hs : a.eval s = v) (hx : a.eval x = xv)
  (hr : (Builtin.append_ #[t, t] o.type #[v, xv]).run P w = .ok v' w') (h : wpListIn F n P ops Q rest (a.put o.dst v') w') : wpListIn F n P ops Q (o :: rest) a w := by
 refine wpListIn_plain hgd fun K hK' => ?_
 unfold Oper.wpIn
 refine ⟨?_, ?_⟩
 ·simp [Oper.about, hop, resolve, Target.leads, Sem.run_pure]
 ·rw [Oper.semAt_plain F _ _ (by rw [hop]; intro c hc'; cases hc')]
  simp [execOp, hop, resolve, invoke, builtin, hs, hx, hr, Result.andThen]
  exact hK' _ _ h
end Go.Proofs.YtpklkhgnjbopnaaGreatDoor
namespace Go.Proofs.YtpklkhgnjbopnaaGreatDoor
open Go Go.RowKit
theorem take_snoc' {α : Type} {l : List α} {k : Nat} {x : α} (h : l[k]? = some x) : l.take (k + 1) = l.take k ++ [x] := by rw [List.take_add_one, h]; rfl
theorem flat_cell {α : Type} (enc : α → List Value) (k : Nat) (hk : ∀ x, (enc x).length = k) (l : List α) (j i : Nat) (x : α) (hx : l[j]? = some x) (hi : i < k) : (l.flatMap enc)[j * k + i]? = (enc x)[i]? := by
 induction l generalizing j with
 | nil => simp at hx
 | cons y ys ih =>
  cases j with
  | zero =>
   simp at hx; subst hx
   simp only [List.flatMap_cons, Nat.zero_mul, Nat.zero_add]
   rw [List.getElem?_append_left (by rw [hk]; exact hi)]
  | succ j =>
   simp only [List.flatMap_cons]
   rw [List.getElem?_append_right (by rw [hk, Nat.succ_mul]; omega), hk, show (j + 1) * k + i - k = j * k + i by rw [Nat.succ_mul]; omega]
   exact ih j (by simpa using hx)
theorem flat_len {α : Type} (enc : α → List Value) (k : Nat) (hk : ∀ x, (enc x).length = k) (l : List α) : (l.flatMap enc).length = l.length * k := by
 induction l with
 | nil => simp
 | cons y ys ih => simp [List.flatMap_cons, hk, ih, Nat.succ_mul]; omega
theorem SlAt.elems {α : Type} {enc : α → List Value} {k : Nat} (hk : ∀ x, (enc x).length = k) {n₀ : Nat} {w : World} {a : Option Addr} {len cap : Nat} {l : List α} (h : SlAt n₀ w (.slice a len cap) l.length (l.flatMap enc)) :
  len = l.length ∧ ∀ j x, l[j]? = some x → ∃ b off, a = some ⟨b, off, none⟩ ∧ b < n₀ ∧ ∀ i, i < k → w.cell? ⟨b, off + j * k + i, none⟩ = (enc x)[i]? := by
 rcases h with ⟨h, h0, _⟩ | ⟨b, off, cap', e, hb, hc⟩
 ·obtain ⟨rfl, rfl, rfl⟩ : a = none ∧ len = 0 ∧ cap = 0 := by simpa using h
  have : l = [] := by simpa using h0
  subst this
  exact ⟨rfl, fun i x hx => by simp at hx⟩
 ·obtain ⟨rfl, rfl, rfl⟩ : a = some ⟨b, off, none⟩ ∧ len = l.length ∧ cap = cap' := by simpa using e
  refine ⟨rfl, fun j x hx => ⟨b, off, rfl, hb, fun i hi => ?_⟩⟩
  have hj := (List.getElem?_eq_some_iff.1 hx).1
  have h2 : j * k + i < l.length * k := by have := Nat.mul_le_mul_right k (show j + 1 ≤ l.length by omega); rw [Nat.succ_mul] at this; omega
  rw [Nat.add_assoc, hc (j * k + i) (by rw [flat_len enc k hk]; exact h2), flat_cell enc k hk l j i x hx hi]
end Go.Proofs.YtpklkhgnjbopnaaGreatDoor
namespace Go.Proofs.YtpklkhgnjbopnaaGreatDoor
open Go Go.RowKit Go.ChangeShapes Go.WideShapes Go.Deep
section
variable {H : Type} {enc : TypeId × Value → H} {P : Program}
theorem trodAll_stays (hl : laidOutB P = true) {W W' : World} {sp : Nat → Bool} (hb : Below W.heap.size W W') : ∀ (ts : List TypeId) (vs : List Value) (ds : List (DataW H)) (ps : List MemPlace),
  (∀ t ∈ ts, P.readableRec t = true ∧ t < P.types.size) → (∀ p ∈ ps, p.block < W.heap.size ∧ sp p.block = true) →
  DataW.TrodAll enc P W 0 (fun _ => true) true ts vs ds ps → DataW.TrodAll enc P W' 0 sp true ts vs ds ps := by
 intro ts
 induction ts with
 | nil => intro vs ds ps _ _ h; obtain ⟨h1, rfl, rfl⟩ := trodAll_nil h; rw [h1]; exact trodAll_mk0
 | cons t ts ih =>
  intro vs ds ps hr hp h
  obtain ⟨v, vs', d, ds', p, q, rfl, rfl, rfl, h0, hs⟩ := trodAll_cons h
  have ht := hr t List.mem_cons_self
  refine trodAll_cons_mk (WideElems.Trod_stays hl ht.1 ht.2 h0 (fun x hx => hb.same (hp x (List.mem_append_left _ hx)).1) (fun x hx => (hp x (List.mem_append_left _ hx)).2)) ?_
  exact ih vs' ds' q (fun t ht => hr t (List.mem_cons_of_mem _ ht)) (fun x hx => hp x (List.mem_append_right _ hx)) hs
theorem law_post {f : Func} {s : ChangeSpec} {W W' : World} {args : Array Value} {ds gs : List (DataW H)} {before : List MemPlace} {tb : TypeId} (hl : laidOutB P = true)
  (hr : ∀ t ∈ f.params.toList, P.readableRec t = true ∧ t < P.types.size) (hv : s.vars = []) (hW : DataW.Whole enc P f.params.toList s.vars false W args.toList ds gs before)
  (hs : s.fn H (ds ++ gs) = { results := [.lit (.bool true)], args := ds }) (hres : f.resultTypes = #[tb]) (hb : P.underlying tb = some .bool) (hB : Below W.heap.size W W') :
  s.post enc P f false true false false W args (.bool true) W' := by
 have hlt : ∀ p ∈ before, p.block < W.heap.size := fun p hp => hW.lt p hp
 have hW2 := hW
 obtain ⟨p, q, hA, hV, rfl, _, _⟩ := hW2
 rw [hv] at hV
 obtain ⟨rfl, rfl⟩ := trodVars_none hV
 rw [List.append_nil] at hlt hW
 refine ⟨ds, [], p, [], p, [], hW, ?_, ?_, ?_, World.keptBut_mono (fun x hx => ⟨hx, Or.inr (Or.inl hx)⟩) (hB.frame (· ∈ p)), fun h => by cases h⟩
 ·rw [hs, hres]
  exact trodAll_cons_mk (shut_bool hb _) trodAll_mk0
 ·rw [hs]
  exact trodAll_stays hl hB _ _ _ _ hr (fun x hx => ⟨hlt x hx, by simpa using hlt x hx⟩) hA
 ·rw [hs, hv]
  exact hV
variable {w : World} {base : Nat} {spare : Nat → Bool} {held : Bool}
theorem struct_cells {e : TypeId} {fs : Array Field} {fuel : Nat} {cs : List Value} {x : DataW H × List MemPlace} (he : P.underlying e = some (.struct fs)) (hone : oneCellFields P fs = true) (hC : P.cellsOf e = fs.size)
  (h : DataW.trod enc P w base spare held fuel e cs = some x) : cs.length = fs.size ∧ ∃ n, ∀ (j : Nat) (f : Field), fs[j]? = some f → ∃ v y, cs[j]? = some v ∧ DataW.trod enc P w base spare held n f.type [v] = some y := by
 obtain ⟨xs, n, _, _, hlen, hxl, hf⟩ := DataW.trod_struct he h
 rw [hC] at hlen
 refine ⟨hlen, n, fun j f hj => ?_⟩
 obtain ⟨ho, hk⟩ := hone_of hone j f hj
 have hjl : j < fs.size := (Array.getElem?_eq_some_iff.1 hj).1
 have h1 := hf j f hj
 rw [ho, hk, List.drop_eq_getElem_cons (by omega), List.getElem?_eq_getElem (by omega)] at h1
 exact ⟨_, _, List.getElem?_eq_getElem (by omega), h1⟩
theorem add_none {a : Addr} (h : a.spot = none) (n : Nat) : a.add n = ⟨a.block, a.off + n, none⟩ := by
 obtain ⟨b, o, s⟩ := a
 dsimp only at h
 subst h
 unfold Addr.add
 split
 ·simp_all
 ·rfl
end
end Go.Proofs.YtpklkhgnjbopnaaGreatDoor
namespace Go.Proofs.YtpklkhgnjbopnaaGreatDoor
open Go Go.RowKit
theorem append_list (P : Program) {t e : TypeId} {z : Value} {size bytes : Nat} (ty : TypeId) (ht : P.underlying t = some (.slice e)) (hinfo : (P.info? e).map (fun i => (i.zero, i.size, i.bytes)) = some (some z, size, bytes)) (hzs : z.cells.size = size) (hsz : 0 < size)
  {W w0 : World} {B base : Nat} {v sv : Value} {n m : Nat} {xs cs : List Value} (hown : W.ownsRow base e size v n xs) (hB : Below B w0 W) (hBb : B ≤ base) (hbase : base ≤ W.heap.size) (hsrc : SlAt W.heap.size W sv m cs) (hl : cs.length = m * size) (h1 : ∀ u ∈ cs, u.oneCell' = true)
  (hn : n < 2147483648) (hm : m < 2147483648) (hby : bytes ≤ 4096) :
  ∃ v' w1, (Builtin.append_ #[t, t] ty #[v, sv]).run P W = .ok v' w1 ∧ w1.ownsRow base e size v' (n + m) (xs ++ cs) ∧ Below B w0 w1 ∧ W.heap.size ≤ w1.heap.size ∧ (∀ k, k < base → w1.heap[k]? = W.heap[k]?) ∧ (∀ k, k < W.heap.size → some k ≠ v.ownBlock → w1.heap[k]? = W.heap[k]?) := by
 obtain ⟨i0, hi, hz0, hz1, hz2⟩ := info_parts hinfo
 rcases hsrc with ⟨rfl, rfl, rfl⟩ | ⟨b, off, cap, rfl, hb, hc⟩
 ·refine ⟨v, W, ?_, by simpa using hown, hB, Nat.le_refl _, fun _ _ => rfl, fun _ _ _ => rfl⟩
  obtain ⟨a, c, rfl⟩ : ∃ a c, v = .slice a n c := by
   rcases hown.2 with ⟨rfl, rfl⟩ | ⟨g, cap, cur, rfl, _⟩
   ·exact ⟨none, 0, rfl⟩
   ·exact ⟨_, cap, rfl⟩
  rcases hown.2 with ⟨he, hn0⟩ | ⟨g, cap, cur, he, hg, hgg, hnc, _⟩
  ·obtain ⟨rfl, _, rfl⟩ : a = none ∧ n = 0 ∧ c = 0 := by simpa using he
   subst hn0
   simp [Builtin.append_, run_underlying ht, sizeOf, typeInfo, hi, Builtin.lenOf, Builtin.firstCells]
  ·obtain ⟨rfl, rfl⟩ : a = some ⟨g, 0, none⟩ ∧ c = cap := by simpa using he
   simp [Builtin.append_, run_underlying ht, sizeOf, typeInfo, hi, Builtin.lenOf, Builtin.firstCells, hnc, storeCells]
 ·have hcell : ∀ j u, cs[j]? = some u → W.cell? ((⟨b, off, none⟩ : Addr).add j) = some u := fun j u hj => by
   have ea : (⟨b, off, none⟩ : Addr).add j = ⟨b, off + j, none⟩ := by unfold Addr.add; split <;> simp_all
   rw [ea, hc j (List.getElem?_eq_some_iff.1 hj).1, hj]
  have hbig := Nat.mul_le_mul (show n + m ≤ 4294967296 by omega) hby
  obtain ⟨v', w1, hr, h2, h3, h4⟩ := run_append_own (P := P) W base t ty e i0 z size bytes ht hi hz0 hz1 hz2 hzs hsz v n xs hown ⟨b, off, none⟩ m cap cs hl hcell h1 (by unfold maxLen; omega) (by omega) hbase
  have hlt : ∀ k, v.ownBlock = some k → base ≤ k := fun k hk => (hown.lt k hk).1
  exact ⟨v', w1, hr, h2, hB.grown h3 (by omega) (fun k hk => Nat.le_trans hBb (hlt k hk)), h3.size, fun k hk => h3.block k (by omega) (fun e => by have := hlt k e.symm; omega), fun k hk hne => h3.block k hk hne⟩
theorem hSk {W : World} {B i : Nat} {c : Array Value} {t : TypeId} {fz : Nat × Nat} (h : W.heap[B]? = some (.cells c t fz)) (v : Value) : (W.setCell ⟨B, i, none⟩ v).heap[B]? = some (.cells (c.setIfInBounds i v) t fz) := by
 obtain ⟨hlt, hk⟩ := Array.getElem?_eq_some_iff.1 h
 show (W.heap.modify B _)[B]? = _
 rw [Array.getElem?_eq_getElem (by rw [Array.size_modify]; exact hlt), Array.getElem_modify_self, hk]
 rfl
theorem SlAt.drew {n m : Nat} {w : World} {sv : Value} {cs : List Value} (h : SlAt n w sv m cs) : SlAt n w.drew sv m cs := h
end Go.Proofs.YtpklkhgnjbopnaaGreatDoor
namespace Go.Proofs.YtpklkhgnjbopnaaGreatDoor
open Go Go.RowKit
structure WIn (Inv : World → Prop) where
 world : World
 ok : Inv world
theorem wp_region_class {P : Program} (Inv : World → Prop) {id : Nat} {Q : Exit → Act → World → Prop} {a : Act} {w : World} {l : List Oper} (hm : P.follows .mixedOrders = true) (hB : Region.lexB .any l.toArray = true) (hC : Inv w.drew)
  (h : wpQuiet P l.toArray (fun w' => ∃ X : WIn Inv, w' = X.world) (fun a' => ∀ w', (∃ X : WIn Inv, w' = X.world) → Q .normal a' w') l a) : (Code.region id l.toArray true).wp P Q a w :=
 wp_region_quiet (C := fun w' => ∃ X : WIn Inv, w' = X.world) hm hB ⟨⟨_, hC⟩, rfl⟩ (by simpa using h)
theorem calls_class {P : Program} {Inv : World → Prop} {f : FuncId} {args : Array Value} {W : World} {v : Value} {R : World → World → Prop} (hgo : ∀ W', R W W' → Inv W')
  (h : Calls P f args W fun e w' => e = .returned v ∧ R W w') : Calls P f args W fun e w' => e = .returned v ∧ ∃ Y : WIn Inv, w' = Y.world :=
 h.mono fun _ W' ⟨he, hr⟩ => ⟨he, ⟨⟨W', hgo W' hr⟩, rfl⟩⟩
theorem calls_class_below {P : Program} {Inv : World → Prop} {f : FuncId} {args : Array Value} {X : WIn Inv} {v : Value} (hgo : ∀ W W', Inv W → Below W.heap.size W W' → Inv W')
  (h : Calls P f args X.world fun e w' => e = .returned v ∧ Below X.world.heap.size X.world w') : Calls P f args X.world fun e w' => e = .returned v ∧ ∃ Y : WIn Inv, w' = Y.world :=
 calls_class (R := fun W W' => Below W.heap.size W W') (fun W' hr => hgo _ W' X.ok hr) h
theorem wp_scope_once {P : Program} {Q : Exit → Act → World → Prop} {a : Act} {w : World} {c rest : Code} (l : Nat) (hf : findLabel c l = some rest)
  (first : c.wp P (Exit.jump l (fun a w => rest.wp P (Exit.noGoto Q) a w) Q) a w) : (Code.scope c).wp P Q a w :=
 wp_scope_jumps l _ (fun _ _ => 0) hf first (fun _ _ hJ => Code.wp_mono (fun e _ _ h => by cases e <;> first | exact h | exact (h : False).elim) hJ)
theorem boxes1 (w : World) (c0 : Array Value) (t0 : TypeId) : ∃ W, w.alloc (.cells c0 t0) = W ∧ W.heap[w.heap.size]? = some (.cells c0 t0 (0, 0)) ∧ Below w.heap.size w W ∧ W.heap.size = w.heap.size + 1 :=
 ⟨_, rfl, World.alloc_heap_new _ _, (Below.refl _ w).alloc (Nat.le_refl _) _, by simp⟩
theorem boxes2 (w : World) (c0 : Array Value) (t0 : TypeId) (c1 : Array Value) (t1 : TypeId) : ∃ W, (w.alloc (.cells c0 t0)).alloc (.cells c1 t1) = W ∧ W.heap[w.heap.size]? = some (.cells c0 t0 (0, 0)) ∧ W.heap[w.heap.size + 1]? = some (.cells c1 t1 (0, 0)) ∧ Below w.heap.size w W ∧ W.heap.size = w.heap.size + 2 := by
 obtain ⟨X, rfl, h0, hB, hs⟩ := boxes1 w c0 t0
 obtain ⟨Y, rfl, h1, hB1, hs1⟩ := boxes1 (w.alloc (.cells c0 t0)) c1 t1
 rw [hs] at h1
 exact ⟨_, rfl, (hB1.block _ (by omega)).trans h0, h1, hB.trans (hB1.mono (by omega)), by omega⟩
theorem boxes3 (w : World) (c0 : Array Value) (t0 : TypeId) (c1 : Array Value) (t1 : TypeId) (c2 : Array Value) (t2 : TypeId) : ∃ W, ((w.alloc (.cells c0 t0)).alloc (.cells c1 t1)).alloc (.cells c2 t2) = W ∧ W.heap[w.heap.size]? = some (.cells c0 t0 (0, 0)) ∧ W.heap[w.heap.size + 1]? = some (.cells c1 t1 (0, 0)) ∧ W.heap[w.heap.size + 2]? = some (.cells c2 t2 (0, 0)) ∧ Below w.heap.size w W ∧ W.heap.size = w.heap.size + 3 := by
 obtain ⟨X, rfl, h0, h1, hB, hs⟩ := boxes2 w c0 t0 c1 t1
 obtain ⟨Y, rfl, h2, hB1, hs1⟩ := boxes1 ((w.alloc (.cells c0 t0)).alloc (.cells c1 t1)) c2 t2
 rw [hs] at h2
 exact ⟨_, rfl, (hB1.block _ (by omega)).trans h0, (hB1.block _ (by omega)).trans h1, h2, hB.trans (hB1.mono (by omega)), by omega⟩
theorem known {n : Nat} {W W' : World} {b : Nat} {o : Obj} (hb : Below n W W') (hn : W.heap.size ≤ n) (h : W.heap[b]? = some o) : W'.heap[b]? = some o := (hb.block _ (Nat.lt_of_lt_of_le (Array.getElem?_eq_some_iff.1 h).1 hn)).trans h
end Go.Proofs.YtpklkhgnjbopnaaGreatDoor
namespace Go.Proofs.YtpklkhgnjbopnaaGreatDoor
open Go Go.RowKit Go.ChangeShapes Go.WideShapes Go.Deep
def U64 (n : Int) : Prop := 0 ≤ n ∧ n ≤ 18446744073709551615
def SlE {α : Type} (enc : α → List Value) (k : Nat) (n₀ : Nat) (w : World) (a : Option Addr) (len : Nat) (l : List α) : Prop :=
 len = l.length ∧ ∀ j x, l[j]? = some x → ∃ b off, a = some ⟨b, off, none⟩ ∧ b < n₀ ∧ ∀ i, i < k → w.cell? ⟨b, off + j * k + i, none⟩ = (enc x)[i]?
section
variable {α : Type} {enc : α → List Value} {k n₀ n₁ : Nat} {w A B : World} {a : Option Addr} {len cap : Nat} {l : List α}
theorem SlE.below (h : Below n₀ A B) (hs : SlE enc k n₀ A a len l) : SlE enc k n₀ B a len l :=
 ⟨hs.1, fun j x hx => let ⟨b, off, e, hb, hc⟩ := hs.2 j x hx; ⟨b, off, e, hb, fun i hi => (h.cell (p := ⟨b, off + j * k + i, none⟩) hb).trans (hc i hi)⟩⟩
theorem SlE.mono (hn : n₀ ≤ n₁) (hs : SlE enc k n₀ w a len l) : SlE enc k n₁ w a len l :=
 ⟨hs.1, fun j x hx => let ⟨b, off, e, hb, hc⟩ := hs.2 j x hx; ⟨b, off, e, Nat.lt_of_lt_of_le hb hn, hc⟩⟩
theorem SlE.go (hs : SlE enc k A.heap.size A a len l) (h : Below A.heap.size A B) : SlE enc k B.heap.size B a len l := (hs.below h).mono h.size
theorem SlE.of_at (hk : ∀ x, (enc x).length = k) (h : SlAt n₀ w (.slice a len cap) l.length (l.flatMap enc)) : SlE enc k n₀ w a len l := SlAt.elems hk h
theorem SlE.nil : SlE enc k n₀ w a 0 [] := ⟨rfl, fun j x h => by simp at h⟩
theorem SlE.drew (hs : SlE enc k n₀ w a len l) : SlE enc k n₀ w.drew a len l := hs
theorem SlE.take (hs : SlE enc k n₀ w a len l) (m : Nat) (hm : m ≤ len) : SlE enc k n₀ w a m (l.take m) :=
 ⟨by have := hs.1; simp; omega, fun j x hx => hs.2 j x (by rw [List.getElem?_take] at hx; split at hx; exact hx; cases hx)⟩
theorem SlE.drop {b off : Nat} (hs : SlE enc k n₀ w (some ⟨b, off, none⟩) len l) (m : Nat) : SlE enc k n₀ w (some ⟨b, off + m * k, none⟩) (len - m) (l.drop m) :=
 ⟨by have := hs.1; simp; omega, fun j x hx => by
  rw [List.getElem?_drop] at hx
  obtain ⟨b', off', e, hb, hc⟩ := hs.2 (m + j) x hx
  injection e with e1
  injection e1 with e1 e2
  subst e1; subst e2
  refine ⟨b, off + m * k, rfl, hb, fun i hi => ?_⟩
  rw [← hc i hi]
  congr 2
  rw [Nat.add_mul]; omega⟩
theorem SlE.at (hs : SlE enc k n₀ w a len l) {j : Nat} (hj : j < len) : ∃ x b off, l[j]? = some x ∧ a = some ⟨b, off, none⟩ ∧ b < n₀ ∧ ∀ i, i < k → w.cell? ⟨b, off + j * k + i, none⟩ = (enc x)[i]? := by
 have hl := hs.1
 obtain ⟨x, hx⟩ : ∃ x, l[j]? = some x := ⟨_, List.getElem?_eq_getElem (by omega)⟩
 obtain ⟨b, off, e, hb, hc⟩ := hs.2 j x hx
 exact ⟨x, b, off, hx, e, hb, hc⟩
theorem SlE.set_far {p : Addr} (hp : ∀ x, a = some x → p.block ≠ x.block) (v : Value) (hs : SlE enc k n₀ w a len l) : SlE enc k n₀ (w.setCell p v) a len l :=
 ⟨hs.1, fun j x hx => let ⟨b, off, e, hb, hc⟩ := hs.2 j x hx; ⟨b, off, e, hb, fun i hi => by rw [World.cell?_setCell_other (h := fun h => hp _ e (by rw [h]))]; exact hc i hi⟩⟩
end
def SlC {α : Type} (enc : α → List Value) (k : Nat) (n₀ : Nat) (w : World) (a : Option Addr) (len cap : Nat) (l : List α) : Prop :=
 SlE enc k n₀ w a len l ∧ len ≤ cap ∧ cap ≤ maxLen ∧ (a = none → cap = 0) ∧ ∀ x, a = some x → 0 < cap → x.spot = none ∧ x.block < n₀
section
variable {α : Type} {enc : α → List Value} {k n₀ n₁ : Nat} {w A B : World} {a : Option Addr} {len cap : Nat} {l : List α}
theorem SlC.below (h : Below n₀ A B) (hs : SlC enc k n₀ A a len cap l) : SlC enc k n₀ B a len cap l := ⟨hs.1.below h, hs.2⟩
theorem SlC.mono (hn : n₀ ≤ n₁) (hs : SlC enc k n₀ w a len cap l) : SlC enc k n₁ w a len cap l :=
 ⟨hs.1.mono hn, hs.2.1, hs.2.2.1, hs.2.2.2.1, fun x e hc => let ⟨h1, h2⟩ := hs.2.2.2.2 x e hc; ⟨h1, Nat.lt_of_lt_of_le h2 hn⟩⟩
theorem SlC.go (hs : SlC enc k A.heap.size A a len cap l) (h : Below A.heap.size A B) : SlC enc k B.heap.size B a len cap l := (hs.below h).mono h.size
theorem SlC.take (hs : SlC enc k n₀ w a len cap l) (m : Nat) (hm : m ≤ len) : SlC enc k n₀ w a m cap (l.take m) := ⟨hs.1.take m hm, Nat.le_trans hm hs.2.1, hs.2.2⟩
theorem SlC.nil : SlC enc k n₀ w none 0 0 ([] : List α) := ⟨SlE.nil, Nat.le_refl _, Nat.zero_le _, fun _ => rfl, fun x h => by cases h⟩
theorem SlC.set_far {p : Addr} (hp : ∀ x, a = some x → p.block ≠ x.block) (v : Value) (hs : SlC enc k n₀ w a len cap l) : SlC enc k n₀ (w.setCell p v) a len cap l := ⟨hs.1.set_far hp v, hs.2⟩
end
section
variable {α : Type} {enc : α → List Value} {k n₀ : Nat} {w : World} {a : Option Addr} {len cap : Nat} {l : List α}
theorem SlE.to_at (hk : ∀ x, (enc x).length = k) (hpos : 0 < len) (h : SlE enc k n₀ w a len l) : SlAt n₀ w (.slice a len cap) l.length (l.flatMap enc) := by
 obtain ⟨x0, b, off, -, ea, hb, -⟩ := h.at hpos
 refine .inr ⟨b, off, cap, by rw [ea, h.1], hb, fun i hil => ?_⟩
 rw [flat_len enc k hk] at hil
 have hk0 : 0 < k := by
  rcases Nat.eq_zero_or_pos k with h0 | h0
  ·subst h0; simp at hil
  ·exact h0
 have hdm := Nat.div_add_mod i k
 have hq : i / k < l.length := Nat.div_lt_of_lt_mul (by rw [Nat.mul_comm]; exact hil)
 have hr : i % k < k := Nat.mod_lt _ hk0
 obtain ⟨y, hy⟩ : ∃ y, l[i / k]? = some y := ⟨_, List.getElem?_eq_getElem hq⟩
 obtain ⟨b', off', ea', _, hc⟩ := h.2 _ y hy
 rw [ea] at ea'
 injection ea' with e1
 injection e1 with e1 e2
 subst e1; subst e2
 have h1 := hc _ hr
 have h2 := flat_cell enc k hk l (i / k) (i % k) y hy hr
 have e1 : i / k * k + i % k = i := by rw [Nat.mul_comm]; exact hdm
 rw [Nat.add_assoc, e1] at h1
 rw [e1] at h2
 rw [h1, h2]
end
theorem append_elems (P : Program) {α : Type} {enc : α → List Value} {t e : TypeId} {z : Value} {size bytes : Nat} (ty : TypeId) (ht : P.underlying t = some (.slice e)) (hinfo : (P.info? e).map (fun i => (i.zero, i.size, i.bytes)) = some (some z, size, bytes)) (hzs : z.cells.size = size) (hsz : 0 < size)
  {W w0 : World} {B base : Nat} {v : Value} {a : Option Addr} {n m cap : Nat} {xs : List Value} {l : List α} (hown : W.ownsRow base e size v n xs) (hB : Below B w0 W) (hBb : B ≤ base) (hbase : base ≤ W.heap.size) (hk : ∀ x, (enc x).length = size) (hsrc : SlE enc size W.heap.size W a m l) (h1 : ∀ x, ∀ u ∈ enc x, u.oneCell' = true)
  (hn : n < 2147483648) (hm : m < 2147483648) (hby : bytes ≤ 4096) :
  ∃ v' w1, (Builtin.append_ #[t, t] ty #[v, .slice a m cap]).run P W = .ok v' w1 ∧ w1.ownsRow base e size v' (n + m) (xs ++ l.flatMap enc) ∧ Below B w0 w1 ∧ W.heap.size ≤ w1.heap.size ∧ (∀ k, k < base → w1.heap[k]? = W.heap[k]?) ∧ (∀ k, k < W.heap.size → some k ≠ v.ownBlock → w1.heap[k]? = W.heap[k]?) := by
 rcases Nat.eq_zero_or_pos m with h0 | hpos
 ·subst h0
  obtain rfl : l = [] := List.eq_nil_of_length_eq_zero hsrc.1.symm
  obtain ⟨i0, hi, hz0, hz1, hz2⟩ := info_parts hinfo
  refine ⟨v, W, ?_, by simpa using hown, hB, Nat.le_refl _, fun _ _ => rfl, fun _ _ _ => rfl⟩
  obtain ⟨a', c, rfl⟩ : ∃ a c, v = .slice a n c := by
   rcases hown.2 with ⟨rfl, rfl⟩ | ⟨g, cap, cur, rfl, _⟩
   ·exact ⟨none, 0, rfl⟩
   ·exact ⟨_, cap, rfl⟩
  cases a <;>
  ·rcases hown.2 with ⟨he, hn0⟩ | ⟨g, cap, cur, he, hg, hgg, hnc, _⟩
   ·obtain ⟨rfl, _, rfl⟩ : a' = none ∧ n = 0 ∧ c = 0 := by simpa using he
    subst hn0
    simp [Builtin.append_, run_underlying ht, sizeOf, typeInfo, hi, Builtin.lenOf, Builtin.firstCells, loadCells, loadCellsFrom]
   ·obtain ⟨rfl, rfl⟩ : a' = some ⟨g, 0, none⟩ ∧ c = cap := by simpa using he
    simp [Builtin.append_, run_underlying ht, sizeOf, typeInfo, hi, Builtin.lenOf, Builtin.firstCells, hnc, storeCells, loadCells, loadCellsFrom]
 ·have hat := hsrc.to_at (cap := cap) hk hpos
  rw [← hsrc.1] at hat
  have hfl : (l.flatMap enc).length = m * size := by rw [flat_len enc size hk, hsrc.1]
  exact append_list P ty ht hinfo hzs hsz hown hB hBb hbase hat hfl (fun u hu => by obtain ⟨x, _, hx⟩ := List.mem_flatMap.1 hu; exact h1 x u hx) hn hm hby
theorem slC_of_owns {α : Type} {enc : α → List Value} {w : World} {base e size : Nat} {v : Value} {l : List α} (hk : ∀ x, (enc x).length = size) (h : w.ownsRow base e size v l.length (l.flatMap enc)) :
  ∃ a cap, v = .slice a l.length cap ∧ SlC enc size w.heap.size w a l.length cap l ∧ ∀ x, a = some x → base ≤ x.block := by
 have hsl := slAt_of_owns h
 rcases h.2 with ⟨rfl, hn⟩ | ⟨g, cap, cur, rfl, hg, hh, hnc, hcm, hcs, ht⟩
 ·have hl : l = [] := List.eq_nil_of_length_eq_zero hn
  subst hl
  exact ⟨none, 0, rfl, SlC.nil, fun x h => by cases h⟩
 ·refine ⟨_, cap, rfl, ⟨SlE.of_at hk hsl, hnc, hcm, (fun h => by cases h), fun x hx _ => ?_⟩, fun x hx => ?_⟩
  ·cases hx; exact ⟨rfl, (Array.getElem?_eq_some_iff.1 hh).1⟩
  ·cases hx; exact hg
section
variable {H : Type} {enc : TypeId × Value → H} {P : Program} {w : World} {base : Nat} {held : Bool}
theorem slC_of_trod {α : Type} {t e : TypeId} {k : Nat} {encA : α → List Value} (hk : 0 < k) (ht : P.underlying t = some (.slice e)) (hc : P.cellsOf e = k)
  (hel : ∀ n cs x, DataW.trod enc P w base (fun _ => true) held n e cs = some x → ∃ y, cs = encA y) {fuel : Nat} {a : Option Addr} {len cap : Nat} {x : DataW H × List MemPlace}
  (h : DataW.trod enc P w base (fun _ => true) held fuel t [.slice a len cap] = some x) :
  ∃ l : List α, SlC encA k w.heap.size w a len cap l := by
 rcases open_slice ht h with ⟨h0, _⟩ | ⟨a', len', cap', m, n, D, Pl, hcs, -, hl, hmx, hm, -, hi⟩
 ·simp only [List.cons.injEq, and_true, Value.slice.injEq] at h0
  obtain ⟨rfl, rfl, rfl⟩ := h0
  exact ⟨[], SlC.nil⟩
 ·simp only [List.cons.injEq, and_true, Value.slice.injEq] at hcs
  obtain ⟨rfl, rfl, rfl⟩ := hcs
  rw [if_pos rfl] at hm
  subst hm
  have hall : ∀ i, i < m → ∃ y, a'.spot = none ∧ a'.block < w.heap.size ∧ ∀ j, j < k → w.cell? ⟨a'.block, a'.off + i * k + j, none⟩ = (encA y)[j]? := fun i him => by
   obtain ⟨cs', h1, h2⟩ := hi i him
   obtain ⟨y, rfl⟩ := hel _ _ _ h2
   rw [hc] at h1
   obtain ⟨_, hlen, hat⟩ := World.cells?_some h1
   have hsp : a'.spot = none ∧ a'.block < w.heap.size := by
    obtain ⟨cs0, h10, h20⟩ := hi 0 (by omega)
    rw [hc, Nat.zero_mul] at h10
    obtain ⟨_, hlen0, hat0⟩ := World.cells?_some h10
    have e0 := hat0 0 hk
    have ea : (a'.add 0).add 0 = a' := by simp [Addr.add]
    rw [ea, List.getElem?_eq_getElem (by omega)] at e0
    refine ⟨?_, World.block_lt_of_cell? w _ e0⟩
    unfold World.cell? at e0
    cases hs : a'.spot with
    | none => rfl
    | some z =>
     rw [hs] at e0
     split at e0 <;> simp at e0
   refine ⟨y, hsp.1, hsp.2, fun j hj => ?_⟩
   have := hat j hj
   rw [add_none hsp.1, add_none rfl] at this
   exact this
  have hex : ∃ l : List α, l.length = len ∧ ∀ i y, l[i]? = some y → a'.spot = none ∧ a'.block < w.heap.size ∧ ∀ j, j < k → w.cell? ⟨a'.block, a'.off + i * k + j, none⟩ = (encA y)[j]? := by
   have hall' : ∀ i, i < len → ∃ y, a'.spot = none ∧ a'.block < w.heap.size ∧ ∀ j, j < k → w.cell? ⟨a'.block, a'.off + i * k + j, none⟩ = (encA y)[j]? := fun i hi => hall i (by omega)
   clear hi hl h hall
   induction len with
   | zero => exact ⟨[], rfl, fun i y h => by simp at h⟩
   | succ n ih =>
    obtain ⟨l, h1, h2⟩ := ih (fun i hi => hall' i (by omega))
    obtain ⟨y, hy⟩ := hall' n (by omega)
    refine ⟨l ++ [y], by simp [h1], fun i z hz => ?_⟩
    by_cases hil : i < l.length
    ·rw [List.getElem?_append_left hil] at hz
     exact h2 i z hz
    ·have hi2 := (List.getElem?_eq_some_iff.1 hz).1
     have : i = n := by simp at hi2; omega
     subst this
     rw [List.getElem?_append_right (by omega), h1] at hz
     simp at hz
     subst hz
     exact hy
  obtain ⟨l, hll, hcell⟩ := hex
  refine ⟨l, ⟨hll.symm, fun j y hy => ?_⟩, hl, hmx, fun h => by (cases h), fun y hy hpos => ?_⟩
  ·obtain ⟨h1, h2, h3⟩ := hcell j y hy
   exact ⟨a'.block, a'.off, by congr 1; cases a'; simp_all, h2, h3⟩
  ·cases hy
   obtain ⟨_, h1, h2, _⟩ := hall 0 hpos
   exact ⟨h1, h2⟩
end
end Go.Proofs.YtpklkhgnjbopnaaGreatDoor
namespace Go.Proofs.YtpklkhgnjbopnaaGreatDoor
open Go Go.RowKit
structure Sk where
 kind : Int
 level : Int
 e : List Int
 hb : Int
 hr : ByteArray
 cr : Int
 cc : Int
 cl : List Int
 gf : Int
 gl : List (Int × Int)
def encU (n : Int) : List Value := [.int .u64 n]
def U64s (l : List Int) : Prop := ∀ n ∈ l, U64 n
def I64 (n : Int) : Prop := -9223372036854775808 ≤ n ∧ n ≤ 9223372036854775807
def Bins (l : List (Int × Int)) : Prop := ∀ b ∈ l, I64 b.1 ∧ U64 b.2
structure SS where
 ea : Option Addr
 el : Nat
 ec : Nat
 ca : Option Addr
 cl : Nat
 cc : Nat
 ga : Option Addr
 gl : Nat
 gc : Nat
def Sk.ok (x : Sk) : Prop := I64 x.kind ∧ I64 x.level ∧ U64s x.e ∧ I64 x.hb ∧ I64 x.cr ∧ I64 x.cc ∧ U64s x.cl ∧ I64 x.gf ∧ Bins x.gl
end Go.Proofs.YtpklkhgnjbopnaaGreatDoor
namespace Go.Proofs.YtpklkhgnjbopnaaGreatDoor
open Go Go.RowKit
theorem und_u64 : Tryz.prog.underlying 54 = some (.slice 22) := by kernel_rfl
theorem info_u64 : (Tryz.prog.info? 22).map (fun i => (i.zero, i.size, i.bytes)) = some (some (.int .u64 0), 1, 8) := by kernel_rfl
end Go.Proofs.YtpklkhgnjbopnaaGreatDoor
namespace Go.Proofs.YtpklkhgnjbopnaaGreatDoor
open Go Go.RowKit
end Go.Proofs.YtpklkhgnjbopnaaGreatDoor
namespace Go.Proofs.YtpklkhgnjbopnaaGreatDoor
open Go Go.RowKit
theorem bDr {B : Nat} {w w' : World} (h : Below B w w') : ∀ n, Below B w (w'.drewN n)
 | 0 => h
 | n + 1 => (bDr h n).drew
end Go.Proofs.YtpklkhgnjbopnaaGreatDoor
namespace Go.Proofs.YtpklkhgnjbopnaaGreatDoor
open Go Go.RowKit Go.Shelf
def dropA (a : Option Addr) (cap m k : Nat) : Option Addr := if cap = m then a else a.map (·.add (m * k))
theorem SlC.drop {α : Type} {enc : α → List Value} {k n₀ : Nat} {w : World} {a : Option Addr} {len cap : Nat} {l : List α} (hs : SlC enc k n₀ w a len cap l) (m : Nat) (hm : m ≤ len) : SlC enc k n₀ w (dropA a cap m k) (len - m) (cap - m) (l.drop m) := by
 have hl := hs.1.1
 have hc := hs.2.1
 have hmx := hs.2.2.1
 refine ⟨⟨by rw [List.length_drop]; omega, fun j x hx => ?_⟩, by omega, by omega, fun h => ?_, fun x hx hpos => ?_⟩
 ·rw [List.getElem?_drop] at hx
  obtain ⟨b, off, e, hb, hcell⟩ := hs.1.2 (m + j) x hx
  have hlt := (List.getElem?_eq_some_iff.1 hx).1
  refine ⟨b, off + m * k, ?_, hb, fun i hi => ?_⟩
  ·rw [dropA, if_neg (by omega), e, Option.map_some, add_none rfl]
  ·rw [← hcell i hi]; congr 2; rw [Nat.add_mul]; omega
 ·by_cases h0 : cap = m
  ·omega
  ·rw [dropA, if_neg h0] at h
   have := hs.2.2.2.1 (by simpa using h)
   omega
 ·rw [dropA, if_neg (by omega)] at hx
  cases a with
  | none => cases hx
  | some z =>
   obtain ⟨h1, h2⟩ := hs.2.2.2.2 z rfl (by omega)
   rw [Option.map_some] at hx
   injection hx with hx
   rw [← hx, add_none h1]
   exact ⟨rfl, h2⟩
theorem dropA_zero (a : Option Addr) (cap k : Nat) : dropA a cap 0 k = a := by
 unfold dropA
 split
 ·rfl
 ·cases a <;> simp [Addr.add]
end Go.Proofs.YtpklkhgnjbopnaaGreatDoor
namespace Go.Proofs.YtpklkhgnjbopnaaGreatDoor
open Go Go.RowKit Go.Shelf
attribute [local go_sem] Oper.semAt_some
def octs (s : ByteArray) : List (Nat × UInt8) := (List.range s.size).map fun i => (i, s.data.toList.getD i 0)
theorem octs_len (s : ByteArray) : (octs s).length = s.size := by simp [octs]
theorem octs_at (s : ByteArray) (k : Nat) (h : k < s.size) : (octs s)[k]? = some (k, s[k]'h) := by
 simp [octs, h]
 rfl
end Go.Proofs.YtpklkhgnjbopnaaGreatDoor
namespace Go.Proofs.YtpklkhgnjbopnaaGreatDoor
open Go Go.RowKit
theorem heap_set_other {W : World} {p : Addr} {b : Nat} (h : p.block ≠ b) (v : Value) : (W.setCell p v).heap[b]? = W.heap[b]? := by
 show (W.heap.modify p.block _)[b]? = _
 rw [Array.getElem?_modify]
 simp [h]
theorem size_set (W : World) (p : Addr) (v : Value) : (W.setCell p v).heap.size = W.heap.size := by simp [World.setCell]
end Go.Proofs.YtpklkhgnjbopnaaGreatDoor
namespace Go.Proofs.YtpklkhgnjbopnaaGreatDoor
open Go Go.RowKit
end Go.Proofs.YtpklkhgnjbopnaaGreatDoor
namespace Go.Proofs
open Go.Shelf
def Tryz.lays169_ren : Go.Shelf.Ren := ⟨fun | 169 => 39 | n => n, fun | 70 => 83 | 9 => 9 | 0 => 0 | 72 => 86 | 37 => 84 | 127 => 154 | 3 => 3 | 5 => 5 | n => n, fun | n => n⟩
theorem Tryz.lays169 : Go.Proofs.Lays.n169 Tryz.prog Tryz.lays169_ren := {
 mixed := by kernel_rfl
 f169 := Tryz.func39.trans (congrArg some (by kernel_rfl))
 t0 := Tryz.underlying0
 a0 := Tryz.isAgg0
 z0 := Tryz.sizeOf0
 v0 := Tryz.zeroValue0
 t3 := Tryz.underlying3
 a3 := Tryz.isAgg3
 z3 := Tryz.sizeOf3
 v3 := Tryz.zeroValue3
 t9 := Tryz.underlying9
 a9 := Tryz.isAgg9
 z9 := Tryz.sizeOf9
 v9 := Tryz.zeroValue9
 t37 := Tryz.underlying84
 a37 := Tryz.isAgg84
 z37 := Tryz.sizeOf84
 v37 := Tryz.zeroValue84
 t70 := Tryz.underlying83
 a70 := Tryz.isAgg83
 z70 := Tryz.sizeOf83
 v70 := Tryz.zeroValue83
 t72 := Tryz.underlying86
 a72 := Tryz.isAgg86
 z72 := Tryz.sizeOf86
 v72 := Tryz.zeroValue86
 t127 := Tryz.underlying154
 a127 := Tryz.isAgg154
 z127 := Tryz.sizeOf154
 v127 := Tryz.zeroValue154 }
theorem Tryz.Builder_Extra_169 : Builder.Extra Tryz.prog Tryz.lays169_ren := {
 sizeBuilder := by kernel_rfl
 liesBuilder := by kernel_rfl
 t5 := Tryz.underlying5
 a5 := Tryz.isAgg5
 z5 := Tryz.sizeOf5
 v5 := Tryz.zeroValue5
 infoByte := by kernel_rfl
 cellsByte := by kernel_rfl
 sizeByte := by kernel_rfl
 neB5 := by decide }
def Tryz.lays156_ren : Go.Shelf.Ren := ⟨fun | 156 => 111 | 165 => 141 | 166 => 36 | 169 => 39 | 240 => 72 | 241 => 169 | 276 => 99 | 277 => 204 | n => n, fun | 31 => 80 | 9 => 9 | 3 => 3 | 4 => 4 | 0 => 0 | 20 => 20 | 72 => 86 | 76 => 89 | 70 => 83 | 37 => 84 | 75 => 88 | 127 => 154 | 164 => 195 | 5 => 5 | 80 => 93 | n => n, fun | n => n⟩
theorem Tryz.lays156 : Go.Proofs.Lays.n156 Tryz.prog Tryz.lays156_ren := {
 mixed := by kernel_rfl
 f156 := Tryz.func111.trans (congrArg some (by kernel_rfl))
 f165 := Tryz.func141.trans (congrArg some (by kernel_rfl))
 f166 := Tryz.func36.trans (congrArg some (by kernel_rfl))
 f169 := Tryz.func39.trans (congrArg some (by kernel_rfl))
 f240 := Tryz.func72.trans (congrArg some (by kernel_rfl))
 f241 := Tryz.func169.trans (congrArg some (by kernel_rfl))
 f276 := Tryz.func99.trans (congrArg some (by kernel_rfl))
 f277 := Tryz.func204.trans (congrArg some (by kernel_rfl))
 t0 := Tryz.underlying0
 a0 := Tryz.isAgg0
 z0 := Tryz.sizeOf0
 v0 := Tryz.zeroValue0
 t3 := Tryz.underlying3
 a3 := Tryz.isAgg3
 z3 := Tryz.sizeOf3
 v3 := Tryz.zeroValue3
 t4 := Tryz.underlying4
 a4 := Tryz.isAgg4
 z4 := Tryz.sizeOf4
 v4 := Tryz.zeroValue4
 t9 := Tryz.underlying9
 a9 := Tryz.isAgg9
 z9 := Tryz.sizeOf9
 v9 := Tryz.zeroValue9
 t20 := Tryz.underlying20
 a20 := Tryz.isAgg20
 z20 := Tryz.sizeOf20
 v20 := Tryz.zeroValue20
 t31 := Tryz.underlying80
 a31 := Tryz.isAgg80
 z31 := Tryz.sizeOf80
 v31 := Tryz.zeroValue80
 t37 := Tryz.underlying84
 a37 := Tryz.isAgg84
 z37 := Tryz.sizeOf84
 v37 := Tryz.zeroValue84
 t70 := Tryz.underlying83
 a70 := Tryz.isAgg83
 z70 := Tryz.sizeOf83
 v70 := Tryz.zeroValue83
 t72 := Tryz.underlying86
 a72 := Tryz.isAgg86
 z72 := Tryz.sizeOf86
 v72 := Tryz.zeroValue86
 t75 := Tryz.underlying88
 a75 := Tryz.isAgg88
 z75 := Tryz.sizeOf88
 v75 := Tryz.zeroValue88
 t76 := Tryz.underlying89
 a76 := Tryz.isAgg89
 z76 := Tryz.sizeOf89
 v76 := Tryz.zeroValue89
 t127 := Tryz.underlying154
 a127 := Tryz.isAgg154
 z127 := Tryz.sizeOf154
 v127 := Tryz.zeroValue154
 t164 := Tryz.underlying195
 a164 := Tryz.isAgg195
 z164 := Tryz.sizeOf195
 v164 := Tryz.zeroValue195 }
theorem Tryz.Builder_Extra_156 : Builder.Extra Tryz.prog Tryz.lays156_ren := {
 sizeBuilder := by kernel_rfl
 liesBuilder := by kernel_rfl
 t5 := Tryz.underlying5
 a5 := Tryz.isAgg5
 z5 := Tryz.sizeOf5
 v5 := Tryz.zeroValue5
 infoByte := by kernel_rfl
 cellsByte := by kernel_rfl
 sizeByte := by kernel_rfl
 neB5 := by decide }
open Go.RowKit in
theorem Tryz.strings_Join (bk o c : Nat) (xs : List ByteArray) (sep : ByteArray) (w : World) (hcells : ∀ (j : Nat) x, xs[j]? = some x → w.cell? ⟨bk, o + j, none⟩ = some (.string x)) (hbk : bk < w.heap.size) (hN : xs.length ≤ 140737488355328) (hcap : xs.length ≤ c) (hlen : (Lib.join (xs.map (·.data.toList)) sep.data.toList).length ≤ 140737488355328) :
  Calls Tryz.prog 111 #[.slice (some ⟨bk, o, none⟩) xs.length c, .string sep] w fun e w' => e = .returned (.string ⟨(Lib.join (xs.map (·.data.toList)) sep.data.toList).toArray⟩) ∧ Below w.heap.size w w' := Any.strings_Join Tryz.lays156 Tryz.Builder_Extra_156 bk o c xs sep w hcells hbk hN hcap hlen
open Go.RowKit in
theorem Tryz.Builder_String_any_f (B b : Nat) (l : List UInt8) (w : World) (h : Lib.IsBuilderF 86 5 B b (Lib.byteCells l) w) (hBw : B ≤ w.heap.size) :
  Calls Tryz.prog 39 #[.pointer (some ⟨b, 0, none⟩)] w fun e w' => e = .returned (.string ⟨l.toArray⟩) ∧ (Lib.IsBuilderF 86 5 B b (Lib.byteCells l) w' ∧ Below B w w') := Any.Builder_String_any_f Tryz.lays169 Tryz.Builder_Extra_169 B b l w h hBw
def Tryz.lays129_ren : Go.Shelf.Ren := ⟨fun | 129 => 87 | n => n, fun | 53 => 22 | 3 => 3 | 4 => 4 | 46 => 178 | 5 => 5 | 9 => 9 | n => n, fun | n => n⟩
theorem Tryz.lays129 : Go.Proofs.Lays.n129 Tryz.prog Tryz.lays129_ren := {
 mixed := by kernel_rfl
 f129 := Tryz.func87.trans (congrArg some (by kernel_rfl))
 t3 := Tryz.underlying3
 a3 := Tryz.isAgg3
 z3 := Tryz.sizeOf3
 v3 := Tryz.zeroValue3
 t4 := Tryz.underlying4
 a4 := Tryz.isAgg4
 z4 := Tryz.sizeOf4
 v4 := Tryz.zeroValue4
 t5 := Tryz.underlying5
 a5 := Tryz.isAgg5
 z5 := Tryz.sizeOf5
 v5 := Tryz.zeroValue5
 t9 := Tryz.underlying9
 a9 := Tryz.isAgg9
 z9 := Tryz.sizeOf9
 v9 := Tryz.zeroValue9
 t46 := Tryz.underlying178
 a46 := Tryz.isAgg178
 z46 := Tryz.sizeOf178
 v46 := Tryz.zeroValue178
 t53 := Tryz.underlying22
 a53 := Tryz.isAgg22
 z53 := Tryz.sizeOf22
 v53 := Tryz.zeroValue22 }
theorem Tryz.bits_Len64 (x : Int) (w : World) (h0 : 0 ≤ x) (h1 : x ≤ 18446744073709551615) :
  Calls Tryz.prog 87 #[.int .u64 x] w fun e w' => e = .returned (.int .i64 (Lib.bitLen x.toNat)) ∧ w' = w := Any.bits_Len64 Tryz.lays129 x w h0 h1
end Go.Proofs
namespace Go.Proofs.YtpklkhgnjbopnaaGreatDoor
open Go Go.RowKit
def Sk.fit (x : Sk) : Prop := ∀ b ∈ x.gl, b.1 ≤ 9223372036854775807
end Go.Proofs.YtpklkhgnjbopnaaGreatDoor
namespace Go.Proofs.YtpklkhgnjbopnaaGreatDoor
open Go Go.RowKit
def Item.ok (i : Nat × Int) : Prop := i.1 < 2 ^ 64 ∧ U64 i.2
end Go.Proofs.YtpklkhgnjbopnaaGreatDoor
namespace Go.Proofs.YtpklkhgnjbopnaaGreatDoor
open Go Go.RowKit
section
variable {F : Fence} {n : Nat} {P : Program} {ops : Array Oper} {Q : Exit → Act → World → Prop} {md : Region.Mode} {l : Nat}
theorem wpInO_round {o : Oper} {K : Act → World → Prop} {a : Act} {w : World} (hro : F.round = none) (hd : ∀ c, o.op ≠ .defer c) (h : o.wpIn F n P a w K Q) : o.wpIn (F.inRound l) n P a w K Q := by
 unfold Oper.wpIn at h ⊢
 refine ⟨h.1, ?_⟩
 have h2 := h.2
 rw [hro, Oper.semAt_none] at h2
 rw [Fence.inRound_round, Oper.semAt_some _ _ _ hd]
 generalize (execOp a.eval o).run P w = r at h2 ⊢
 cases r with
 | ok x w' => cases x <;> exact h2
 | halt x w' => cases x <;> exact h2
theorem wpOpIn_round {i : Nat} {K : Act → World → Prop} {a : Act} {w : World} (hro : F.round = none) (hd : ∀ (i : Nat) (o : Oper), ops[i]? = some o → ∀ c, o.op ≠ .defer c) (h : wpOpIn F n P ops Q i K a w) : wpOpIn (F.inRound l) n P ops Q i K a w := by
 unfold wpOpIn at h ⊢
 cases ho : ops[i]? with
 | none => simpa only [ho] using h
 | some o =>
  simp only [ho] at h ⊢
  split
  ·rename_i hw; rw [if_pos hw] at h; exact wpInO_round hro (hd i o ho) h
  ·rename_i hw; rw [if_neg hw] at h; exact h
theorem wpAnyIn_round (hro : F.round = none) (hd : ∀ (i : Nat) (o : Oper), ops[i]? = some o → ∀ c, o.op ≠ .defer c) (fuel : Nat) : ∀ (listed : Array Bool) (a : Act) (w : World), wpAnyIn F n P md ops Q fuel listed a w → wpAnyIn (F.inRound l) n P md ops Q fuel listed a w := by
 induction fuel with
 | zero => intro listed a w h; exact h
 | succ fuel ih => intro listed a w h; exact ⟨h.1, fun i hi => wpOpIn_round hro hd (wpOpIn_mono (fun a' w' h' => ih (listed.setIfInBounds i true) a' w' h') (h.2 i hi))⟩
def noDefers (ops : Array Oper) : Bool := ops.toList.all fun o => match o.op with | .defer _ => false | _ => true
theorem noDefers_spec (h : noDefers ops = true) : ∀ (i : Nat) (o : Oper), ops[i]? = some o → ∀ c, o.op ≠ .defer c := by
 intro i o ho c hc
 rw [noDefers, List.all_eq_true] at h
 have h1 := h o (by rw [← Array.getElem?_toList] at ho; exact List.mem_of_getElem? ho)
 rw [hc] at h1
 cases h1
theorem wpIn_region_round {id : Nat} {a : Act} {w : World} (hro : F.round = none) (hm : P.follows .mixedOrders = true) (hd : noDefers ops = true)
  (h : wpAnyIn F n P .any ops Q ops.size (Array.replicate ops.size false) a w.drew) : (Code.region id ops true).wpIn (F.inRound l) n P Q a w :=
 wpIn_region_any hm (wpAnyIn_round hro (noDefers_spec hd) _ _ _ _ h)
end
end Go.Proofs.YtpklkhgnjbopnaaGreatDoor
namespace Go.Proofs.YtpklkhgnjbopnaaGreatDoor
open Go Go.RowKit Go.Shelf
attribute [local go_sem] Oper.semAt_some
structure Lab where
 name : ByteArray
 value : ByteArray
def Lab.ok (l : Lab) : Prop := l.name.size < 4294967281 ∧ l.value.size < 4294967281
def Lab.enc (l : Lab) : List Value := [.string l.name, .string l.value]
end Go.Proofs.YtpklkhgnjbopnaaGreatDoor
namespace Go.Proofs.YtpklkhgnjbopnaaGreatDoor
open Go Go.RowKit
theorem und_bp : Tryz.prog.underlying 83 = some (.pointer 86) := by kernel_rfl
theorem und_up : Tryz.prog.underlying 195 = some .unsafePointer := by kernel_rfl
theorem size_b : (Tryz.prog.info? 86).map (·.size) = some 2 := by kernel_rfl
theorem lies_b : liesAt Tryz.prog Tryz.prog.depth 86 (2 / Tryz.prog.cellsOf 86) 0 86 1 = true := by kernel_rfl
theorem info_byte : (Tryz.prog.info? 5).map (fun i => (i.zero, i.size, i.bytes)) = some (some (.int .u8 0), 1, 1) := by kernel_rfl
theorem und_bytes : Tryz.prog.underlying 84 = some (.slice 5) := by kernel_rfl
set_option maxHeartbeats 1000000 in
set_option maxRecDepth 100000 in
theorem copyCheck_fresh (b : Nat) (w : World) (h0 : w.cell? ⟨b, 0, none⟩ = some (.pointer none)) (hsh : w.shape? b = some (86, 2)) (hfz : w.frozen? ⟨b, 0, none⟩ = false) :
  Calls Tryz.prog 72 #[.pointer (some ⟨b, 0, none⟩)] w fun e w' => e = .returned (.tuple #[]) ∧ w' = w.setCell ⟨b, 0, none⟩ (.pointer (some ⟨b, 0, none⟩)) := by
 obtain ⟨j, hj, hjs⟩ := Option.map_eq_some_iff.1 size_b
 go_enter Tryz.func72, Tryz.ntmps72
 go_wp2
 rw [Lib.run_to_unsafe w ⟨b, 0, none⟩ und_bp und_up hj (by rw [hjs]; decide) hsh (Nat.zero_lt_succ 1)]
 simp only [Result.andThen]
 rw [Oper.upon_value]
 go_wp2
 rw [run_callFunc_extern Tryz.func99 (by kernel_rfl) (by kernel_rfl) (by kernel_rfl) (e := Extern.AbiNoEscape.same) (by kernel_rfl)]
 rw [Lib.run_noEscape]
 simp only [Result.andThen]
 rw [Oper.upon_value]
 go_wp2
 rw [Lib.run_from_unsafe w ⟨b, 0, none⟩ und_up und_bp hj hsh lies_b]
 simp only [Result.andThen]
 rw [Oper.upon_value]
 go_wp2
 go_end0
 exact ⟨rfl, rfl⟩
set_option maxHeartbeats 1000000 in
theorem copyCheck_used (b : Nat) (w : World) (h0 : w.cell? ⟨b, 0, none⟩ = some (.pointer (some ⟨b, 0, none⟩))) :
  Calls Tryz.prog 72 #[.pointer (some ⟨b, 0, none⟩)] w fun e w' => e = .returned (.tuple #[]) ∧ w' = w := by
 obtain ⟨j, hj, hjs⟩ := Option.map_eq_some_iff.1 size_b
 have hn := Lib.run_neq_ptr_same (P := Tryz.prog) w ⟨b, 0, none⟩ und_bp hj
 go_enter Tryz.func72, Tryz.ntmps72
 go_wp2
 go_end0
 exact ⟨rfl, rfl⟩
theorem copyCheck_any (B b : Nat) (bs : List Value) (w : World) (h : Lib.IsBuilderF 86 5 B b bs w) :
  Calls Tryz.prog 72 #[.pointer (some ⟨b, 0, none⟩)] w fun e w' => e = .returned (.tuple #[]) ∧ (Lib.BuilderAtF 86 5 B b (.pointer (some ⟨b, 0, none⟩)) bs w' ∧ Below B w w' ∧ Lib.OthersKept 5 (some b) w w') := by
 rcases h with h | h
 ·refine (copyCheck_fresh b w h.cell0 h.shape h.frozen0).mono ?_
  rintro e w' ⟨rfl, rfl⟩
  exact ⟨rfl, h.used _, (Below.refl B w).setCell (p := ⟨b, 0, none⟩) h.1 _, (Lib.OthersKept.refl _ _ w).setCell ⟨b, 0, none⟩ rfl _⟩
 ·refine (copyCheck_used b w h.cell0).mono ?_
  rintro e w' ⟨rfl, rfl⟩
  exact ⟨rfl, h, Below.refl B _, Lib.OthersKept.refl _ _ _⟩
set_option maxHeartbeats 2000000 in
set_option maxRecDepth 100000 in
theorem WriteString_any (B b : Nat) (bs : List Value) (s : ByteArray) (w : World) (h : Lib.IsBuilderF 86 5 B b bs w) (hlen : bs.length + s.size ≤ 140737488355328) (hBw : B ≤ w.heap.size) :
  Calls Tryz.prog 36 #[.pointer (some ⟨b, 0, none⟩), .string s] w fun e w' => e = .returned (.tuple #[.int .i64 s.size, .nilIface]) ∧ (Lib.BuilderAtF 86 5 B b (.pointer (some ⟨b, 0, none⟩)) (bs ++ Lib.strCells s) w' ∧ Below B w w' ∧ Lib.OthersKept 5 (some b) w w') := by
 obtain ⟨i0, hi, hz0, hz1, hz2⟩ := info_parts info_byte
 go_enter Tryz.func36, Tryz.ntmps36
 go_wp2_with fail
 refine (copyCheck_any B b bs _ h).mono ?_
 rintro e w1 ⟨rfl, h1, hb1, hk1⟩
 obtain ⟨hB, v, hbk, hown, hne⟩ := h1
 have c0 : w1.cell? ⟨b, 0, none⟩ = some (.pointer (some ⟨b, 0, none⟩)) := by rw [Lib.cell_of_heap hbk]; rfl
 have c1 : w1.cell? ⟨b, 1, none⟩ = some v := by rw [Lib.cell_of_heap hbk]; rfl
 go_wp2_with (at_builtin; refine Lib.wpList_append_own_stringF _ rfl _ _ 84 9 rfl B 5 i0 und_bytes Tryz.underlying9 hi hz0 hz1 hz2 _ _ _ rfl hown s rfl ?c3 ?c4 ?c5 ?_)
 case c3 => unfold maxLen; omega
 case c4 => omega
 case c5 => have := hb1.size; omega
 intro v' w2 hown' hgrow _
 have hlt : b < w1.heap.size := (Array.getElem?_eq_some_iff.1 hbk).1
 have hb2 : w2.heap[b]? = some (.cells #[.pointer (some ⟨b, 0, none⟩), v] 86 (0, 0)) := by
  rw [hgrow.block b hlt (fun e => hne e.symm)]
  exact hbk
 have d0 : w2.cell? ⟨b, 0, none⟩ = some (.pointer (some ⟨b, 0, none⟩)) := by rw [Lib.cell_of_heap hb2]; rfl
 have d1 : w2.cell? ⟨b, 1, none⟩ = some v := by rw [Lib.cell_of_heap hb2]; rfl
 have f1 : w2.frozen? ⟨b, 1, none⟩ = false := Lib.frozen_of_heap hb2 1
 obtain ⟨ao, n', cap, rfl⟩ : ∃ ao n' cap, v' = .slice ao n' cap := by
  rcases hown'.2 with ⟨hv, _⟩ | ⟨g, cap, cur, fz, hv, _⟩
  ·exact ⟨_, _, _, hv⟩
  ·exact ⟨_, _, _, hv⟩
 go_wp2
 go_ret2
 refine ⟨rfl, ?_, ?_, (hk1.grown hgrow (Lib.ownsRowF_kind hown)).setCell ⟨b, 1, none⟩ rfl _⟩
 ·exact Lib.BuilderAtF.put (T := 86) (e := 5) hB hb2 (bs' := bs ++ Lib.strCells s) (by simpa [Lib.strCells_length] using hown') (by decide)
 ·exact (hb1.grown hgrow (by have := hb1.size; omega) (fun k hk => (hown.lt k hk).1)).setCell (p := ⟨b, 1, none⟩) hB _
end Go.Proofs.YtpklkhgnjbopnaaGreatDoor
namespace Go.Proofs.YtpklkhgnjbopnaaGreatDoor
open Go Go.RowKit Go.Shelf
theorem isB_old {T e : TypeId} {B b : Nat} {bs : List Value} {w w' : World} (h : Lib.IsBuilderF T e B b bs w) (hs : ∀ j, j < w.heap.size → w'.heap[j]? = w.heap[j]?) : Lib.IsBuilderF T e B b bs w' := by
 have one : ∀ p, Lib.BuilderAtF T e B b p bs w → Lib.BuilderAtF T e B b p bs w' := fun p ⟨h1, v, h2, h3, h4⟩ => by
  refine ⟨h1, v, (hs b (Array.getElem?_eq_some_iff.1 h2).1).trans h2, ⟨h3.1, ?_⟩, h4⟩
  rcases h3.2 with h5 | ⟨g, cap, cur, fz, hv, hg, hh, r⟩
  ·exact .inl h5
  ·exact .inr ⟨g, cap, cur, fz, hv, hg, (hs g (Array.getElem?_eq_some_iff.1 hh).1).trans hh, r⟩
 exact h.imp (one _) (one _)
end Go.Proofs.YtpklkhgnjbopnaaGreatDoor
namespace Go.Proofs.YtpklkhgnjbopnaaGreatDoor
open Go Go.RowKit Go.Shelf
attribute [local go_sem] Oper.semAt_some
attribute [-go_sem] Builtin.append_
def encSt (s : ByteArray) : List Value := [.string s]
end Go.Proofs.YtpklkhgnjbopnaaGreatDoor

/- A drawn region whose operations yield fixed values in every world of a class: one walk, in the order of the text. Boxes. -/
import Derived.Test.YtjpnbkdhmjgdgaaDoorA4
import Derived.Deep.QuietTactic
import Derived.BigQuiet
import Derived.ScopeJumps
import Derived.WalkMore
namespace Go.Proofs.YtjpnbkdhmjgdgaaDoor
open Go Go.RowKit

/-- A world that meets Inv. -/
structure WIn (Inv : World → Prop) where
  world : World
  ok : Inv world
theorem wp_region_class {P : Program} (Inv : World → Prop) {id : Nat} {Q : Exit → Act → World → Prop} {a : Act} {w : World} {l : List Oper} (hm : P.follows .mixedOrders = true) (hB : Region.lexB .any l.toArray = true) (hC : Inv w.drew)
    (h : wpQuiet P l.toArray (fun w' => ∃ X : WIn Inv, w' = X.world) (fun a' => ∀ w', (∃ X : WIn Inv, w' = X.world) → Q .normal a' w') l a) : (Code.region id l.toArray true).wp P Q a w :=
  wp_region_quiet (C := fun w' => ∃ X : WIn Inv, w' = X.world) hm hB ⟨⟨_, hC⟩, rfl⟩ (by simpa using h)
/-- A callee's contract, met in a world of the class. -/
theorem calls_class {P : Program} {Inv : World → Prop} {f : FuncId} {args : Array Value} {W : World} {v : Value} {R : World → World → Prop} (hgo : ∀ W', R W W' → Inv W')
    (h : Calls P f args W fun e w' => e = .returned v ∧ R W w') : Calls P f args W fun e w' => e = .returned v ∧ ∃ Y : WIn Inv, w' = Y.world :=
  h.mono fun _ W' ⟨he, hr⟩ => ⟨he, ⟨⟨W', hgo W' hr⟩, rfl⟩⟩
theorem calls_class_below {P : Program} {Inv : World → Prop} {f : FuncId} {args : Array Value} {X : WIn Inv} {v : Value} (hgo : ∀ W W', Inv W → Below W.heap.size W W' → Inv W')
    (h : Calls P f args X.world fun e w' => e = .returned v ∧ Below X.world.heap.size X.world w') : Calls P f args X.world fun e w' => e = .returned v ∧ ∃ Y : WIn Inv, w' = Y.world :=
  calls_class (R := fun W W' => Below W.heap.size W W') (fun W' hr => hgo _ W' X.ok hr) h
theorem bcell {W w1 : World} (hb : Below W.heap.size W w1) : (∀ b o, b < W.heap.size → w1.cell? ⟨b, o, none⟩ = W.cell? ⟨b, o, none⟩) ∧ (∀ b o, b < W.heap.size → w1.frozen? ⟨b, o, none⟩ = W.frozen? ⟨b, o, none⟩) :=
  ⟨fun b o h => hb.cell (p := ⟨b, o, none⟩) h, fun b o h => hb.frozen (p := ⟨b, o, none⟩) h⟩
/-- A scope with a label that is jumped to at most once. -/
theorem wp_scope_once {P : Program} {Q : Exit → Act → World → Prop} {a : Act} {w : World} {c rest : Code} (l : Nat) (hf : findLabel c l = some rest)
    (first : c.wp P (Exit.jump l (fun a w => rest.wp P (Exit.noGoto Q) a w) Q) a w) : (Code.scope c).wp P Q a w :=
  wp_scope_jumps l _ (fun _ _ => 0) hf first (fun _ _ hJ => Code.wp_mono (fun e _ _ h => by cases e <;> first | exact h | exact (h : False).elim) hJ)
theorem jump_ret {l : Nat} {J : Act → World → Prop} {Q : Exit → Act → World → Prop} {a : Act} {w : World} : Exit.jump l J Q .ret a w = Q .ret a w := rfl
theorem jump_goto {l : Nat} {J : Act → World → Prop} {Q : Exit → Act → World → Prop} {a : Act} {w : World} (h : J a w) : Exit.jump l J Q (.goto l) a w := ⟨rfl, h⟩
/-- New blocks of cells, the world behind them under a name. -/
theorem boxes1 (w : World) (c0 : Array Value) (t0 : TypeId) : ∃ W, w.alloc (.cells c0 t0) = W ∧ W.heap[w.heap.size]? = some (.cells c0 t0 (0, 0)) ∧ Below w.heap.size w W ∧ W.heap.size = w.heap.size + 1 :=
  ⟨_, rfl, World.alloc_heap_new _ _, (Below.refl _ w).alloc (Nat.le_refl _) _, by simp⟩
theorem boxes2 (w : World) (c0 : Array Value) (t0 : TypeId) (c1 : Array Value) (t1 : TypeId) : ∃ W, (w.alloc (.cells c0 t0)).alloc (.cells c1 t1) = W ∧ W.heap[w.heap.size]? = some (.cells c0 t0 (0, 0)) ∧ W.heap[w.heap.size + 1]? = some (.cells c1 t1 (0, 0)) ∧ Below w.heap.size w W ∧ W.heap.size = w.heap.size + 2 := by
  obtain ⟨X, rfl, h0, hB, hs⟩ := boxes1 w c0 t0
  obtain ⟨Y, rfl, h1, hB1, hs1⟩ := boxes1 (w.alloc (.cells c0 t0)) c1 t1
  rw [hs] at h1
  exact ⟨_, rfl, (hB1.block _ (by omega)).trans h0, h1, hB.trans (hB1.mono (by omega)), by omega⟩
theorem boxes3 (w : World) (c0 : Array Value) (t0 : TypeId) (c1 : Array Value) (t1 : TypeId) (c2 : Array Value) (t2 : TypeId) : ∃ W, ((w.alloc (.cells c0 t0)).alloc (.cells c1 t1)).alloc (.cells c2 t2) = W ∧ W.heap[w.heap.size]? = some (.cells c0 t0 (0, 0)) ∧ W.heap[w.heap.size + 1]? = some (.cells c1 t1 (0, 0)) ∧ W.heap[w.heap.size + 2]? = some (.cells c2 t2 (0, 0)) ∧ Below w.heap.size w W ∧ W.heap.size = w.heap.size + 3 := by
  obtain ⟨X, rfl, h0, h1, hB, hs⟩ := boxes2 w c0 t0 c1 t1
  obtain ⟨Y, rfl, h2, hB1, hs1⟩ := boxes1 ((w.alloc (.cells c0 t0)).alloc (.cells c1 t1)) c2 t2
  rw [hs] at h2
  exact ⟨_, rfl, (hB1.block _ (by omega)).trans h0, (hB1.block _ (by omega)).trans h1, h2, hB.trans (hB1.mono (by omega)), by omega⟩
/-- A block that was there is there behind a call. -/
theorem known {n : Nat} {W W' : World} {b : Nat} {o : Obj} (hb : Below n W W') (hn : W.heap.size ≤ n) (h : W.heap[b]? = some o) : W'.heap[b]? = some o := (hb.block _ (Nat.lt_of_lt_of_le (Array.getElem?_eq_some_iff.1 h).1 hn)).trans h
end Go.Proofs.YtjpnbkdhmjgdgaaDoor

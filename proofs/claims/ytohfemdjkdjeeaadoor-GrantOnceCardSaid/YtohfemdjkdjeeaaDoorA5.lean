/- A drawn region whose operations yield fixed values in every world of a class: one walk, in the order of the text. Boxes. -/
import Derived.Test.YtohfemdjkdjeeaaDoorA4
import Derived.Deep.QuietTactic
import Derived.BigQuiet
namespace Go.Proofs.YtohfemdjkdjeeaaDoor
open Go Go.RowKit

/-- A world that meets Inv. -/
structure WIn (Inv : World → Prop) where
  world : World
  ok : Inv world
theorem wp_region_class {P : Program} (Inv : World → Prop) {id : Nat} {Q : Exit → Act → World → Prop} {a : Act} {w : World} {l : List Oper} (hm : P.follows .mixedOrders = true) (hB : Region.lexB .any l.toArray = true) (hC : Inv w.drew)
    (h : wpQuiet P l.toArray (fun w' => ∃ X : WIn Inv, w' = X.world) (fun a' => ∀ w', (∃ X : WIn Inv, w' = X.world) → Q .normal a' w') l a) : (Code.region id l.toArray true).wp P Q a w :=
  wp_region_quiet (C := fun w' => ∃ X : WIn Inv, w' = X.world) hm hB ⟨⟨_, hC⟩, rfl⟩ (by simpa using h)
/-- A callee's contract, met in a world of the class. -/
theorem calls_class {P : Program} {Inv : World → Prop} {f : FuncId} {args : Array Value} {W : World} {v : Value} {R : World → World → Prop} (hgo : ∀ W', R W W' → Inv W')
    (h : Calls P f args W fun e w' => e = .returned v ∧ R W w') : Calls P f args W fun e w' => e = .returned v ∧ ∃ Y : WIn Inv, w' = Y.world :=
  h.mono fun _ W' ⟨he, hr⟩ => ⟨he, ⟨⟨W', hgo W' hr⟩, rfl⟩⟩
theorem calls_class_below {P : Program} {Inv : World → Prop} {f : FuncId} {args : Array Value} {X : WIn Inv} {v : Value} (hgo : ∀ W W', Inv W → Below W.heap.size W W' → Inv W')
    (h : Calls P f args X.world fun e w' => e = .returned v ∧ Below X.world.heap.size X.world w') : Calls P f args X.world fun e w' => e = .returned v ∧ ∃ Y : WIn Inv, w' = Y.world :=
  calls_class (R := fun W W' => Below W.heap.size W W') (fun W' hr => hgo _ W' X.ok hr) h
theorem bcell {W w1 : World} (hb : Below W.heap.size W w1) : (∀ b o, b < W.heap.size → w1.cell? ⟨b, o, none⟩ = W.cell? ⟨b, o, none⟩) ∧ (∀ b o, b < W.heap.size → w1.frozen? ⟨b, o, none⟩ = W.frozen? ⟨b, o, none⟩) :=
  ⟨fun b o h => hb.cell (p := ⟨b, o, none⟩) h, fun b o h => hb.frozen (p := ⟨b, o, none⟩) h⟩
end Go.Proofs.YtohfemdjkdjeeaaDoor

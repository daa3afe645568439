/- What a scope means, in plain data: the sketches that are merged; in parts. -/
import Derived.Test.YthbhmnakmhambaaGreatDoorZT6
import Derived.Test.YthbhmnakmhambaaGreatDoorZSM
namespace Go.Proofs.YthbhmnakmhambaaGreatDoor
open Go Go.RowKit
def pick (f : Ser → Bool) (kind : Int) (L : List Ser) : List (Nat × Bd) := (L.filter f).flatMap (pickOne kind)
theorem pick_app (f : Ser → Bool) (kind : Int) (A B : List Ser) : pick f kind (A ++ B) = pick f kind A ++ pick f kind B := by
 unfold pick
 rw [List.filter_append, List.flatMap_append]
end Go.Proofs.YthbhmnakmhambaaGreatDoor

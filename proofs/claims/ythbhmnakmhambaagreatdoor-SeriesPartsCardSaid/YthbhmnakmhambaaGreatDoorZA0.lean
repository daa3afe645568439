/- Plain lemmas and words of my own, of no program: the runes of a string, owned memory, lists in slices. -/
import Derived.Test.YthbhmnakmhambaaGreatDoorZA9
namespace Go.Proofs.YthbhmnakmhambaaGreatDoor
open Go Go.RowKit
theorem runesGo_len (s : ByteArray) : ∀ (f pos : Nat), (runesGo s f pos).length ≤ f
 | 0, _ => by simp [runesGo]
 | f + 1, pos => by
  simp only [runesGo]
  split
  ·have := runesGo_len s f (pos + (Utf8.decode s pos).2); simp; omega
  ·simp
theorem rl_len (s : ByteArray) (pos : Nat) : (rl s pos).length ≤ s.size - pos := runesGo_len s _ _
end Go.Proofs.YthbhmnakmhambaaGreatDoor

/- Plain lemmas and words of my own, of no program: the runes of a string, owned memory, lists in slices. -/
import Derived.WalkKit
import Derived.LoopTactic
import Derived.WalkLawsBesides
import Derived.WalkSpells
import Derived.Lib.Hide
import Derived.Laws.RangeAny
import Derived.Lib.OthersKept
import Derived.Lib.Strings
namespace Go.Proofs.YtjpnbkdhmjgdgaaDoor
open Go Go.RowKit

/-! ### the runes of a string, as a range over it tells them -/
def runesGo (s : ByteArray) : Nat → Nat → List (Nat × Int)
  | 0, _ => []
  | f + 1, pos => if pos < s.size then (pos, ((Utf8.decode s pos).1 : Int)) :: runesGo s f (pos + (Utf8.decode s pos).2) else []
def rl (s : ByteArray) (pos : Nat) : List (Nat × Int) := runesGo s (s.size - pos) pos
theorem dec_pos (s : ByteArray) (pos : Nat) (h : pos < s.size) : 1 ≤ (Utf8.decode s pos).2 := by
  by_cases ha : (s[pos]'h).toNat < 128
  · rw [decode_ascii s pos h ha]; exact Nat.le_refl 1
  · exact (decode_high s pos h (by omega)).2
theorem runesGo_fuel (s : ByteArray) : ∀ (f g pos : Nat), s.size - pos ≤ f → s.size - pos ≤ g → runesGo s f pos = runesGo s g pos
  | 0, 0, _, _, _ => rfl
  | 0, g + 1, pos, h, _ => by simp [runesGo]; omega
  | f + 1, 0, pos, _, h => by simp [runesGo]; omega
  | f + 1, g + 1, pos, hf, hg => by
    simp only [runesGo]
    split
    · rename_i hlt
      have := dec_pos s pos hlt
      rw [runesGo_fuel s f g _ (by omega) (by omega)]
    · rfl
theorem rl_step (s : ByteArray) (pos : Nat) (h : pos < s.size) : rl s pos = (pos, ((Utf8.decode s pos).1 : Int)) :: rl s (pos + (Utf8.decode s pos).2) := by
  have hd := dec_pos s pos h
  unfold rl
  obtain ⟨f, hf⟩ : ∃ f, s.size - pos = f + 1 := ⟨s.size - pos - 1, by omega⟩
  rw [hf]
  simp only [runesGo, h, if_true]
  rw [runesGo_fuel s f _ _ (by omega) (Nat.le_refl _)]
theorem rl_end (s : ByteArray) (pos : Nat) (h : ¬ pos < s.size) : rl s pos = [] := by
  unfold rl
  rw [show s.size - pos = 0 by omega]; rfl
theorem runesGo_len (s : ByteArray) : ∀ (f pos : Nat), (runesGo s f pos).length ≤ f
  | 0, _ => by simp [runesGo]
  | f + 1, pos => by
    simp only [runesGo]
    split
    · have := runesGo_len s f (pos + (Utf8.decode s pos).2); simp; omega
    · simp
theorem rl_len (s : ByteArray) (pos : Nat) : (rl s pos).length ≤ s.size - pos := runesGo_len s _ _
theorem toList_isEmpty (s : ByteArray) : s.toList.isEmpty = (s.size == 0) := by
  rw [Lib.toList_data, Lib.size_eq]
  cases s.data.toList <;> simp
theorem iterPos_of {w : World} {k : Nat} {s : ByteArray} {p : Nat} (h : w.heap[k]? = some (.stringIter s p)) : w.iterPos k = p := by simp [World.iterPos, h]
/-- ONE STEP of a range over a string whose iterator lies at block k, that names the world behind it. -/
theorem next_str {P : Program} {w0 w : World} {B k : Nat} {s : ByteArray} {pos : Nat} (hk : w.heap[k]? = some (.stringIter s pos)) (hB : Below B w0 w) (hBk : B ≤ k) (h : pos < s.size) :
    ∃ w1 : World, (∀ ty, (Instr.next (.pointer (some ⟨k, 0, none⟩)) true ty).run P w = .ok (.tuple #[.bool true, .int .i64 pos, .int .i32 (Utf8.decode s pos).1]) w1) ∧
      w1.heap[k]? = some (.stringIter s (pos + (Utf8.decode s pos).2)) ∧ Below B w0 w1 ∧ w1.heap.size = w.heap.size ∧ (∀ j, j ≠ k → w1.heap[j]? = w.heap[j]?) :=
  ⟨_, fun ty => Lib.run_next_any_at w k s pos ty hk h, Lib.iterAt_heap w k s pos _ hk, Lib.below_iterAt hB hBk s _, Lib.iterAt_size w k s _, fun j hj => Lib.iterAt_other w k j s _ hj⟩
end Go.Proofs.YtjpnbkdhmjgdgaaDoor

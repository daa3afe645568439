/- Package field: Get. Package code: number, count. -/
import Derived.Test.YtjpnbkdhmjgdgaaDoorYA
import Derived.Test.YtjpnbkdhmjgdgaaDoorY8
namespace Go.Proofs.YtjpnbkdhmjgdgaaDoor
open Go Go.RowKit Go.Shelf

def getRes (s : ByteArray) : NumR → Value
  | .got n r => .tuple #[.int .u64 n, .string ⟨r.toArray⟩, .int .i64 0]
  | .more => .tuple #[.int .u64 0, .string s, .int .i64 20]
  | .bad => .tuple #[.int .u64 0, .string s, .int .i64 21]
set_option maxRecDepth 100000 in
set_option maxHeartbeats 4000000 in
theorem Get_any (s : ByteArray) (fm ff cm cc : Addr) (w : World) (hl : s.size < 4294967281) (hE : GE fm ff cm cc w) :
    Calls Tryd.prog 45 #[.string s] w fun e w' => e = .returned (getRes s (getN s.data.toList)) ∧ Below w.heap.size w w' := by
  obtain ⟨W0, hW0, hX0, hB0, hs0⟩ := boxes1 w #[.string s] 139
  have hN := number_any w.heap.size s fm ff cm cc W0 hX0 hl (hE.below hB0)
  have HE : Hid (∀ w', Below w.heap.size w w' → GE fm ff cm cc w') := fun w' hb => hE.below hb
  have HX0 := Lib.hid hX0
  cases hg : getN s.data.toList with
  | got n r =>
    rw [hg] at hN
    clear hE hg hX0
    go_enter Tryd.func45, Tryd.ntmps45
    go_wp2_with (go_at_call 52; refine hN.mono ?_; rintro e w1 ⟨rfl, hb1⟩)
    have hW1 : w1.heap[w.heap.size]? = some (.cells #[.string ⟨r.toArray⟩] 139 (0, 0)) := (hb1.block _ (by omega)).trans (one_setCell HX0.out)
    have c1 : w1.cell? ⟨w.heap.size, 0, none⟩ = some (.string ⟨r.toArray⟩) := cell_of_cells hW1 0
    go_quiet (fail)
    go_wp2_with fail
    go_ret3
    exact ⟨rfl, below_drewN ((hB0.setCell (p := ⟨w.heap.size, 0, none⟩) (Nat.le_refl _) _).trans (hb1.mono (by omega))) _⟩
  | more =>
    rw [hg] at hN
    clear hE hg hX0
    go_enter Tryd.func45, Tryd.ntmps45
    go_wp2_with (first | (go_at_call 52; refine hN.mono ?_; rintro e w1 ⟨rfl, hb1⟩) | (go_at_call 53; refine (errno_more fm ff cm cc w1 (HE.out w1 (hB0.trans (hb1.mono (by omega))))).mono ?_; rintro e w2 ⟨rfl, hb2⟩))
    go_ret3
    exact ⟨rfl, hB0.trans ((hb1.trans (hb2.mono hb1.size)).mono (by omega))⟩
  | bad =>
    rw [hg] at hN
    clear hE hg hX0
    go_enter Tryd.func45, Tryd.ntmps45
    go_wp2_with (first | (go_at_call 52; refine hN.mono ?_; rintro e w1 ⟨rfl, hb1⟩) | (go_at_call 53; refine (errno_field fm ff cm cc w1 (HE.out w1 (hB0.trans (hb1.mono (by omega))))).mono ?_; rintro e w2 ⟨rfl, hb2⟩))
    go_ret3
    exact ⟨rfl, hB0.trans ((hb1.trans (hb2.mono hb1.size)).mono (by omega))⟩

/-- What a number's reader of package code gives. -/
def NumPost (b : Nat) (cm cc : Addr) (k : IntKind) (w : World) (g : NumR) (e : Ending) (w' : World) : Prop := match g with
  | .got n r => e = .returned (.tuple #[.int k n, .nilIface]) ∧ Below w.heap.size (w.setCell ⟨b, 0, none⟩ (.string ⟨r.toArray⟩)) w'
  | .more => e = .returned (.tuple #[.int k 0, errV cm]) ∧ Below b w w'
  | .bad => e = .returned (.tuple #[.int k 0, errV cc]) ∧ Below b w w'
/-- The block of the reader: but for what is left as it was. -/
def KeepB (b : Nat) (w w' : World) : Prop := w'.heap[b]? = w.heap[b]? ∨ ∃ s' : ByteArray, w'.heap[b]? = (w.setCell ⟨b, 0, none⟩ (.string s')).heap[b]?
theorem KeepB.of {b : Nat} {w w1 : World} {s' : ByteArray} (h : Below w.heap.size (w.setCell ⟨b, 0, none⟩ (.string s')) w1) (hb : b < w.heap.size) : KeepB b w w1 := .inr ⟨s', h.block b hb⟩
theorem KeepB.same {b : Nat} {w w1 : World} (h : Below w.heap.size w w1) (hb : b < w.heap.size) : KeepB b w w1 := .inl (h.block b hb)
set_option maxRecDepth 100000 in
set_option maxHeartbeats 4000000 in
theorem rnumber_keep (b : Nat) (c : Array Value) (t : TypeId) (s : ByteArray) (fm ff cm cc : Addr) (w : World) (hX : w.heap[b]? = some (.cells c t (0, 0))) (h0 : c[0]? = some (.string s)) (hl : s.size < 4294967281) (hE : GE fm ff cm cc w) :
    Calls Tryd.prog 32 #[.pointer (some ⟨b, 0, none⟩)] w fun e w' => NumPost b cm cc .u64 w (getN s.data.toList) e w' ∧ KeepB b w w' := by
  have hblt : b < w.heap.size := (Array.getElem?_eq_some_iff.1 hX).1
  have c0 : w.cell? ⟨b, 0, none⟩ = some (.string s) := (cell_of_cells hX 0).trans h0
  have hG := Get_any s fm ff cm cc w hl hE
  have HX := Lib.hid hX
  have HE := Lib.hid hE
  cases hg : getN s.data.toList with
  | got n r =>
    rw [hg] at hG
    unfold NumPost
    have fr := fun w1 (hb : Below w.heap.size w w1) => frozen_of_cells (known hb (Nat.le_refl _) hX) 0
    have cl := fun w1 (hb : Below w.heap.size w w1) => (cell_of_cells (known hb (Nat.le_refl _) hX) 0).trans h0
    clear hX hE hg
    go_enter Tryd.func32, Tryd.ntmps32
    go_wp2_with (go_at_call 45; refine hG.mono ?_; rintro e w1 ⟨rfl, hb1⟩; unfold getRes; have f1 := fr w1 hb1; have c1 := cl w1 hb1)
    go_ret2
    exact ⟨⟨rfl, Below.set_both hb1 _⟩, KeepB.of (Below.set_both hb1 _) hblt⟩
  | more =>
    rw [hg] at hG
    unfold NumPost
    have gc := fun w1 (hb : Below w.heap.size w w1) => (hE.below hb).ecm
    clear hX hE hg
    go_enter Tryd.func32, Tryd.ntmps32
    go_wp2_with (go_at_call 45; refine hG.mono ?_; rintro e w1 ⟨rfl, hb1⟩; unfold getRes; have f1 := gc w1 hb1)
    go_quiet (fail)
    go_wp2_with fail
    go_ret2
    exact ⟨⟨rfl, below_drewN (hb1.mono (by omega)) _⟩, KeepB.same (below_drewN hb1 _) hblt⟩
  | bad =>
    rw [hg] at hG
    unfold NumPost
    have gc := fun w1 (hb : Below w.heap.size w w1) => (hE.below hb).ecc
    clear hX hE hg
    go_enter Tryd.func32, Tryd.ntmps32
    go_wp2_with (go_at_call 45; refine hG.mono ?_; rintro e w1 ⟨rfl, hb1⟩; unfold getRes; have f1 := gc w1 hb1)
    go_quiet (fail)
    go_wp2_with fail
    go_ret2
    exact ⟨⟨rfl, below_drewN (hb1.mono (by omega)) _⟩, KeepB.same (below_drewN hb1 _) hblt⟩
theorem rnumber_any (b : Nat) (c : Array Value) (t : TypeId) (s : ByteArray) (fm ff cm cc : Addr) (w : World) (hX : w.heap[b]? = some (.cells c t (0, 0))) (h0 : c[0]? = some (.string s)) (hl : s.size < 4294967281) (hE : GE fm ff cm cc w) :
    Calls Tryd.prog 32 #[.pointer (some ⟨b, 0, none⟩)] w (NumPost b cm cc .u64 w (getN s.data.toList)) := (rnumber_keep b c t s fm ff cm cc w hX h0 hl hE).mono fun _ _ h => h.1
set_option maxRecDepth 100000 in
set_option maxHeartbeats 4000000 in
theorem rcount_keep (b : Nat) (c : Array Value) (t : TypeId) (s : ByteArray) (lim : Int) (fm ff cm cc : Addr) (w : World) (hX : w.heap[b]? = some (.cells c t (0, 0))) (h0 : c[0]? = some (.string s)) (hl : s.size < 4294967281) (hE : GE fm ff cm cc w) (hl0 : 0 ≤ lim) (hl1 : lim ≤ 1000) (hbG : 4 ≤ b) :
    Calls Tryd.prog 33 #[.pointer (some ⟨b, 0, none⟩), .int .i64 lim] w fun e w' => NumPost b cm cc .i64 w (cntG lim s.data.toList) e w' ∧ KeepB b w w' := by
  have hblt : b < w.heap.size := (Array.getElem?_eq_some_iff.1 hX).1
  have hG := rnumber_keep b c t s fm ff cm cc w hX h0 hl hE
  have hc0 : 0 < c.size := (Array.getElem?_eq_some_iff.1 h0).1
  unfold cntG
  cases hg : getN s.data.toList with
  | got n r =>
    rw [hg] at hG
    obtain ⟨⟨n0, n1⟩, -⟩ := getN_got hg
    simp only
    unfold NumPost at hG ⊢
    simp only at hG
    by_cases hn : lim < n
    · rw [if_pos hn]
      have gc := fun w1 (hb : Below w.heap.size (w.setCell ⟨b, 0, none⟩ (.string ⟨r.toArray⟩)) w1) => (hb.cell (p := ⟨1, 0, none⟩) (by show 1 < w.heap.size; omega)).trans ((World.cell?_of_block (Below.heap_setCell _ _ _ _ (by show 1 ≠ b; omega))).trans hE.ecc)
      clear hX hE hg h0
      go_enter Tryd.func33, Tryd.ntmps33
      go_wp2_with (go_at_call 32; refine hG.mono ?_; rintro e w1 ⟨⟨rfl, hb1⟩, hk⟩; have f1 := gc w1 hb1)
      go_quiet (fail)
      go_wp2_with fail
      go_ret2
      exact ⟨⟨rfl, below_drewN (((Below.refl b w).setCell (p := ⟨b, 0, none⟩) (Nat.le_refl _) _).trans (hb1.mono (by omega))) _⟩, hk⟩
    · rw [if_neg hn]
      clear hX hE hg h0
      go_enter Tryd.func33, Tryd.ntmps33
      go_wp2_with (go_at_call 32; refine hG.mono ?_; rintro e w1 ⟨⟨rfl, hb1⟩, hk⟩)
      go_ret2
      exact ⟨⟨rfl, hb1⟩, hk⟩
  | more =>
    rw [hg] at hG
    simp only
    unfold NumPost at hG ⊢
    simp only at hG
    clear hX hE hg h0
    go_enter Tryd.func33, Tryd.ntmps33
    go_wp2_with (go_at_call 32; refine hG.mono ?_; rintro e w1 ⟨⟨rfl, hb1⟩, hk⟩)
    go_ret2
    exact ⟨⟨rfl, hb1⟩, hk⟩
  | bad =>
    rw [hg] at hG
    simp only
    unfold NumPost at hG ⊢
    simp only at hG
    clear hX hE hg h0
    go_enter Tryd.func33, Tryd.ntmps33
    go_wp2_with (go_at_call 32; refine hG.mono ?_; rintro e w1 ⟨⟨rfl, hb1⟩, hk⟩)
    go_ret2
    exact ⟨⟨rfl, hb1⟩, hk⟩
theorem rcount_any (b : Nat) (c : Array Value) (t : TypeId) (s : ByteArray) (lim : Int) (fm ff cm cc : Addr) (w : World) (hX : w.heap[b]? = some (.cells c t (0, 0))) (h0 : c[0]? = some (.string s)) (hl : s.size < 4294967281) (hE : GE fm ff cm cc w) (hl0 : 0 ≤ lim) (hl1 : lim ≤ 1000) (hbG : 4 ≤ b) :
    Calls Tryd.prog 33 #[.pointer (some ⟨b, 0, none⟩), .int .i64 lim] w (NumPost b cm cc .i64 w (cntG lim s.data.toList)) := (rcount_keep b c t s lim fm ff cm cc w hX h0 hl hE hl0 hl1 hbG).mono fun _ _ h => h.1
end Go.Proofs.YtjpnbkdhmjgdgaaDoor

/- aviarylaw15.shown. -/
import Derived.Test.YtohfemdjkdjeeaaDoorC2
namespace Go.Proofs.YtohfemdjkdjeeaaDoor
open Go Go.RowKit Go.Shelf
def shS : StrK := ⟨⟨#[97, 61, 120]⟩, by decide⟩
def shG : Grants := ⟨2, [⟨1, 7, shS⟩]⟩
def shL : Lab := ⟨⟨#[97]⟩, ⟨#[120]⟩⟩
def shM : Lab := ⟨⟨#[97]⟩, ⟨#[121]⟩⟩
def shK : LabK := ⟨shL, by decide, by decide⟩
def shKM : LabK := ⟨shM, by decide, by decide⟩
theorem sh1 : issueS ⟨1, []⟩ 7 shS = (shG, 1, 0) := by kernel_rfl
theorem sh2 : revokeS shG 1 = (⟨2, []⟩, 0) := by kernel_rfl
theorem sh3 : mayS shG 7 [shL] = true := by kernel_rfl
theorem sh4 : mayS shG 8 [shL] = false := by kernel_rfl
theorem sh5 : mayS shG 7 [shM] = false := by kernel_rfl
theorem sh6 : mayS ⟨2, []⟩ 7 [shL] = false := by kernel_rfl

theorem labs_new (w : World) (x : Lab) {W : World} (h : W.heap[w.heap.size]? = some (.cells #[.string x.name, .string x.value] 43 (0, 0))) : Labs W.heap.size W (.slice (some ⟨w.heap.size, 0, none⟩) 1 1) [x] := by
  refine .inr ⟨w.heap.size, 0, 1, rfl, (Array.getElem?_eq_some_iff.1 h).1, fun i hi => ?_⟩
  rw [cell_of_cells h, Nat.zero_add]
  simp [Lab.enc]

/-- A call's world, and one block more: what was known is known. -/
theorem grow_keep {w w1 w2 : World} {b : Nat} {o : Obj} {sv : Value} {l : List Gr} {cs : Array Value} {t : TypeId} (hB1 : Below w.heap.size w w1) (hb2 : Below w1.heap.size w1 w2) (hX1 : w1.heap[b]? = some o) (hs1 : b < w1.heap.size) (hg2 : Grs w2.heap.size w2 sv l) :
    ∃ W2, w2.alloc (.cells cs t) = W2 ∧ Below w.heap.size w W2 ∧ W2.heap[b]? = some o ∧ W2.heap[w2.heap.size]? = some (.cells cs t (0, 0)) ∧ w2.heap.size < W2.heap.size ∧ Grs W2.heap.size W2 sv l ∧ Below w1.heap.size w1 W2 := by
  have hb : Below w2.heap.size w2 (w2.alloc (.cells cs t)) := (Below.refl _ w2).alloc (Nat.le_refl _) _
  exact ⟨_, rfl, (hB1.trans (hb2.mono hB1.size)).trans (hb.mono (Nat.le_trans hB1.size hb2.size)), (hb.block _ (Nat.lt_of_lt_of_le hs1 hb2.size)).trans ((hb2.block _ hs1).trans hX1), World.alloc_heap_new _ _, by simp, (SlAt.below hb hg2).mono hb.size, hb2.trans (hb.mono hb2.size)⟩

/-- What shown knows behind its two calls. -/
structure ShAt (w : World) (bg bh : Nat) (a2 : Option Addr) (len2 cap2 : Nat) (a3 : Option Addr) (len3 cap3 : Nat) (W : World) : Prop where
  below : Below w.heap.size w W
  hX : W.heap[bg]? = some (.cells #[.int .u64 shG.next, .slice a2 len2 cap2] 25 (0, 0))
  hZ : W.heap[bh]? = some (.cells #[.int .u64 2, .slice a3 len3 cap3] 25 (0, 0))
  hY : W.heap[w.heap.size]? = some (.cells #[.string ⟨#[97]⟩, .string ⟨#[120]⟩] 43 (0, 0))
  hg : Grs W.heap.size W (.slice a2 len2 cap2) shG.l
  hh : Grs W.heap.size W (.slice a3 len3 cap3) []
theorem ShAt.go {w : World} {bg bh : Nat} {a2 : Option Addr} {len2 cap2 : Nat} {a3 : Option Addr} {len3 cap3 : Nat} {W W' : World} (h : ShAt w bg bh a2 len2 cap2 a3 len3 cap3 W) (hb : Below W.heap.size W W') : ShAt w bg bh a2 len2 cap2 a3 len3 cap3 W' :=
  ⟨h.below.trans (hb.mono h.below.size), (hb.block _ (Array.getElem?_eq_some_iff.1 h.hX).1).trans h.hX, (hb.block _ (Array.getElem?_eq_some_iff.1 h.hZ).1).trans h.hZ, (hb.block _ (Array.getElem?_eq_some_iff.1 h.hY).1).trans h.hY, (SlAt.below hb h.hg).mono hb.size, (SlAt.below hb h.hh).mono hb.size⟩

set_option maxRecDepth 100000 in
set_option maxHeartbeats 2000000 in
theorem shown15_any (w : World) (hG : GW w) : Calls Tryd.prog 5 #[] w fun e w' => e = .returned (.bool true) ∧ Below w.heap.size w w' := by
  obtain ⟨W0, hW0⟩ : ∃ W0, w.alloc (.cells #[.string ⟨#[97]⟩, .string ⟨#[120]⟩] 43) = W0 := ⟨_, rfl⟩
  have hB0 : Below w.heap.size w W0 := by rw [← hW0]; exact (Below.refl _ w).alloc (Nat.le_refl _) _
  have hX0 : W0.heap[w.heap.size]? = some (.cells #[.string ⟨#[97]⟩, .string ⟨#[120]⟩] 43 (0, 0)) := by rw [← hW0]; exact World.alloc_heap_new w _
  have hs0 : w.heap.size < W0.heap.size := by rw [← hW0]; simp
  have hN := grant_New_any W0
  go_enter Tryd.func5, Tryd.ntmps5
  go_wp2_with fail
  refine hN.mono ?_
  rintro e w1 ⟨rfl, hb1⟩
  clear hW0 hN
  have hX1 := (hb1.block _ hs0).trans hX0
  have hB1 : Below w.heap.size w w1 := hB0.trans (hb1.mono (by omega))
  have hs1 : w.heap.size < w1.heap.size := Nat.lt_of_lt_of_le hs0 hb1.size
  clear hX0 hB0 hs0 hb1
  have hI := Issue_any ⟨1, []⟩ none 0 0 7 shS w1 (.inl ⟨rfl, rfl, rfl⟩) (hG.below hB1) ⟨by decide, by decide⟩
  rw [sh1] at hI
  go_wp2_with fail
  refine hI.mono ?_
  rintro e w2 ⟨v2, rfl, ⟨a2, len2, cap2, rfl, hg2, -⟩, hb2⟩
  clear hI
  obtain ⟨W2, hW2, hB2, hX2, hZ2, hs2, hg2', hB2'⟩ := grow_keep (cs := #[.int .u64 shG.next, .slice a2 len2 cap2]) (t := 25) hB1 hb2 hX1 hs1 hg2
  have c0 := cell_of_cells hZ2 0
  have c1 := cell_of_cells hZ2 1
  simp at c0 c1
  have hR := Revoke_any shG a2 len2 cap2 1 W2 hg2' (hG.below hB2)
  rw [sh2] at hR
  clear hb2 hg2 hX1 hB1 hs1
  go_wp2_with fail
  refine hR.mono ?_
  rintro e w3 ⟨v3, rfl, ⟨a3, len3, cap3, rfl, hg3, -⟩, hb3⟩
  clear hR hW2 c0 c1
  obtain ⟨W3, hW3, hB3, hX3, hZ3, hs3, hg3', hB3'⟩ := grow_keep (cs := #[.int .u64 2, .slice a3 len3 cap3]) (t := 25) hB2 hb3 hZ2 hs2 hg3
  have hY3 : W3.heap[w.heap.size]? = some (.cells #[.string ⟨#[97]⟩, .string ⟨#[120]⟩] 43 (0, 0)) := (hB3'.block _ (Array.getElem?_eq_some_iff.1 hX2).1).trans hX2
  have hg : Grs W3.heap.size W3 (.slice a2 len2 cap2) shG.l := (SlAt.below hB3' hg2').mono hB3'.size
  have hA3 : ShAt w w2.heap.size w3.heap.size a2 len2 cap2 a3 len3 cap3 W3 := ⟨hB3, hX3, hZ3, hY3, hg, hg3'⟩
  clear hb3 hg3 hB2 hX2 hZ2 hs2 hg2' hB2' hB3 hX3 hZ3 hs3 hg3' hB3' hY3 hg
  have c0 := cell_of_cells hA3.hX 0
  have c1 := cell_of_cells hA3.hX 1
  simp at c0 c1
  have hM1 := May_any shG a2 len2 cap2 7 (some ⟨w.heap.size, 0, none⟩) 1 [shK] W3 hA3.hg (labs_new w shL hA3.hY) (hG.below hA3.below) (by decide)
  have e1 : mayS shG 7 ([shK].map (·.1)) = true := sh3
  rw [e1] at hM1
  go_wp2_with fail
  refine hM1.mono ?_
  rintro e w4 ⟨rfl, hb4⟩
  clear hW3 hM1 c0 c1 e1
  have hA4 := hA3.go hb4
  clear hb4 hA3
  have c0 := cell_of_cells hA4.hX 0
  have c1 := cell_of_cells hA4.hX 1
  simp at c0 c1
  have hM2 := May_any shG a2 len2 cap2 8 (some ⟨w.heap.size, 0, none⟩) 1 [shK] w4 hA4.hg (labs_new w shL hA4.hY) (hG.below hA4.below) (by decide)
  have e1 : mayS shG 8 ([shK].map (·.1)) = false := sh4
  rw [e1] at hM2
  go_wp2_with fail
  refine hM2.mono ?_
  rintro e w5 ⟨rfl, hb5⟩
  clear hM2 c0 c1 e1
  have hA5 := hA4.go hb5
  clear hb5 hA4
  have c0 := cell_of_cells hA5.hX 0
  have c1 := cell_of_cells hA5.hX 1
  simp at c0 c1
  obtain ⟨W6, hW6⟩ : ∃ W6, w5.alloc (.cells #[.string ⟨#[97]⟩, .string ⟨#[121]⟩] 43) = W6 := ⟨_, rfl⟩
  have hA6 : ShAt w w2.heap.size w3.heap.size a2 len2 cap2 a3 len3 cap3 W6 := by rw [← hW6]; exact hA5.go ((Below.refl _ _).alloc (Nat.le_refl _) _)
  have hV6 : W6.heap[w5.heap.size]? = some (.cells #[.string ⟨#[97]⟩, .string ⟨#[121]⟩] 43 (0, 0)) := by rw [← hW6]; exact World.alloc_heap_new w5 _
  have hM3 := May_any shG a2 len2 cap2 7 (some ⟨w5.heap.size, 0, none⟩) 1 [shKM] W6 hA6.hg (labs_new w5 shM hV6) (hG.below hA6.below) (by decide)
  have e1 : mayS shG 7 ([shKM].map (·.1)) = false := sh5
  rw [e1] at hM3
  go_wp2_with fail
  refine hM3.mono ?_
  rintro e w7 ⟨rfl, hb7⟩
  clear hM3 c0 c1 e1 hW6
  have hA7 := hA6.go hb7
  clear hb7 hA6 hA5
  have c0 := cell_of_cells hA7.hZ 0
  have c1 := cell_of_cells hA7.hZ 1
  simp at c0 c1
  have hM4 := May_any ⟨2, []⟩ a3 len3 cap3 7 (some ⟨w.heap.size, 0, none⟩) 1 [shK] w7 hA7.hh (labs_new w shL hA7.hY) (hG.below hA7.below) (by decide)
  have e1 : mayS ⟨2, []⟩ 7 ([shK].map (·.1)) = false := sh6
  rw [e1] at hM4
  go_wp2_with fail
  refine hM4.mono ?_
  rintro e w8 ⟨rfl, hb8⟩
  have hA8 := hA7.go hb8
  clear hM4 c0 c1 e1 hb8 hA7
  go_wp2_with fail
  go_ret
  exact ⟨rfl, hA8.below⟩
end Go.Proofs.YtohfemdjkdjeeaaDoor

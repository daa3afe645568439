/- Package grant: May. -/
import Derived.Test.YtohfemdjkdjeeaaDoorG2
import Derived.Test.YtohfemdjkdjeeaaDoorA4
namespace Go.Proofs.YtohfemdjkdjeeaaDoor
open Go Go.RowKit Go.Shelf

def mayS (g : Grants) (to : Int) (ls : List Lab) : Bool := grRight g && g.l.any (mayOne to ls)
theorem grRight_len {g : Grants} (h : grRight g = true) : g.l.length ≤ 10 ∧ 1 ≤ g.next := by
  simp only [grRight, Bool.and_eq_true, decide_eq_true_eq, Bool.not_eq_true', decide_eq_false_iff_not] at h
  exact ⟨h.1.2, by omega⟩

set_option maxRecDepth 100000 in
set_option maxHeartbeats 1000000 in
theorem May_any (g : Grants) (a : Option Addr) (len cap : Nat) (to : Int) (a0 : Option Addr) (lcap : Nat) (ls : List LabK) (w : World) (hL : Grs w.heap.size w (.slice a len cap) g.l) (hLs : Labs w.heap.size w (.slice a0 ls.length lcap) (ls.map (·.1))) (hG : GW w) (h3 : ls.length < 4294967281) :
    Calls Tryd.prog 12 #[.agg #[.int .u64 g.next, .slice a len cap], .int .u64 to, .slice a0 ls.length lcap] w fun e w' => e = .returned (.bool (mayS g to (ls.map (·.1)))) ∧ Below w.heap.size w w' := by
  have hB1 : Below w.heap.size w (w.alloc (.cells #[.int .u64 g.next, .slice a len cap] 25)) := (Below.refl _ w).alloc (Nat.le_refl _) _
  have hX := World.alloc_heap_new w (.cells #[.int .u64 g.next, .slice a len cap] 25)
  obtain ⟨W0, hW0, b1, b2, hB2, hs2⟩ := box2 (w.alloc (.cells #[.int .u64 g.next, .slice a len cap] 25)) (.int .u64 to) 22 (.slice a0 ls.length lcap) 26
  rw [World.size_alloc] at b1 b2 hs2 hB2
  have hB0 : Below w.heap.size w W0 := hB1.trans (hB2.mono (by omega))
  have hX0 := (hB2.block w.heap.size (by omega)).trans hX
  have c0 := cell_of_cells hX0 0
  have c1 := cell_of_cells hX0 1
  have hR := grant_Right_any g a len cap W0 ((SlAt.below hB0 hL).mono hB0.size) (hG.below hB0)
  simp at c0 c1
  clear hB1 hX hB2 hX0
  go_enter Tryd.func12, Tryd.ntmps12
  go_wp2_with fail
  refine hR.mono ?_
  rintro e w1 ⟨rfl, hb1⟩
  clear hW0 hR
  have d1 := (hb1.cell (p := ⟨w.heap.size, 1, none⟩) (by show w.heap.size < _; omega)).trans c1
  have e1 := bBoxed hb1 b1.lt b1
  have e2 := bBoxed hb1 b2.lt b2
  have hB1 : Below w.heap.size w w1 := hB0.trans (hb1.mono (by omega))
  have hz1 := hb1.size
  cases hr : grRight g with
  | false =>
    have HR := Lib.hid hr
    clear hr
    go_wp2_with fail
    go_ret
    exact ⟨by simp [mayS, HR.out], hB1⟩
  | true =>
    have HR := Lib.hid hr
    have hlen10 := (grRight_len hr).1
    have hp : PredGr 21 #[.pointer (some ⟨w.heap.size + 1, 0, none⟩), .pointer (some ⟨w.heap.size + 1 + 1, 0, none⟩)] (mayOne to (ls.map (·.1))) w1 g.l := by
      intro x _ W hW
      have hB2 : Below w.heap.size w W := hB1.trans (hW.mono hB1.size)
      have hL2 : Labs W.heap.size W (.slice a0 ls.length lcap) (ls.map (·.1)) := (SlAt.below hB2 hLs).mono hB2.size
      exact may1_any x to (w.heap.size + 1) (w.heap.size + 1 + 1) a0 lcap ls W (bBoxed hW e1.lt e1) (bBoxed hW e2.lt e2) hL2 (hG.below hB2) h3
    have hll : g.l.length < 4294967281 := by omega
    have hL1 : Grs w1.heap.size w1 (.slice a len cap) g.l := (SlAt.below hB1 hL).mono hB1.size
    have hen : ∀ args w, (callFunc 21 args).run Tryd.prog w = .ok (.enter 21 args) w := enters_of Tryd.func21 (by kernel_rfl) rfl
    have hcf := containsFunc_gr a len cap g.l _ _ _ w1 hL1 hll hen hp
    have HC := Lib.hid hcf
    clear hp hen hcf
    clear hr
    go_wp2_with (go_at_call 20; refine HC.out.mono ?_; rintro e w4 ⟨rfl, hb4⟩)
    go_ret
    have h9 : mayS g to (ls.map (·.1)) = g.l.any (mayOne to (ls.map (·.1))) := by simp only [mayS, HR.out, Bool.true_and]
    exact ⟨by rw [h9]; rfl, hB1.trans (hb4.mono hB1.size)⟩

end Go.Proofs.YtohfemdjkdjeeaaDoor

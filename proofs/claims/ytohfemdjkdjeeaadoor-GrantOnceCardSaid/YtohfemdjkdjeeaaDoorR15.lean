/- Layer 15's laws: what their rows have in common: the arguments opened, the tables. -/
import Derived.Test.YtohfemdjkdjeeaaDoorCards
import Derived.Test.YtohfemdjkdjeeaaDoorTie
import Derived.Test.YtohfemdjkdjeeaaDoorC1
import Derived.Test.YtohfemdjkdjeeaaDoorR0
import Derived.Lib.LaidTab
import Derived.Lib.LaidU8T
import Derived.Shelf.Vars
import Derived.ChangeMaps5
namespace Go.Proofs.YtohfemdjkdjeeaaDoor
open Go Go.ChangeShapes Go.WideShapes Go.ChangeAt Go.RowKit Go.Lib Go.Deep Go.Shelf

theorem own : ownKnob Tryd.prog.godebug = none := by kernel_rfl
theorem laidOut : laidOutB Tryd.prog = true := by kernel_rfl
theorem undBool : Tryd.prog.underlying 4 = some .bool := by kernel_rfl
theorem undU64 : Tryd.prog.underlying 22 = some (.int .u64) := by kernel_rfl
theorem undStr : Tryd.prog.underlying 9 = some .string := by kernel_rfl

/-! ### the tables, and MaxLen -/
def ren : Ren := ⟨fun x => x, fun | 5 => 5 | 119 => 100 | 138 => 102 | 139 => 103 | n => n, fun | 3 => 1 | 4 => 2 | n => n⟩
theorem u8types : U8Types Tryd.prog ren := ⟨by kernel_rfl, by kernel_rfl, by kernel_rfl, by kernel_rfl⟩
theorem u8extra : U8Extra Tryd.prog ren := ⟨by kernel_rfl, by kernel_rfl, by kernel_rfl, by kernel_rfl, by kernel_rfl, by kernel_rfl, by kernel_rfl⟩
theorem firstIs : Rows.laid_unicode_utf8_first = firstData := by kernel_rfl
theorem acceptIs : (Rows.laid_unicode_utf8_acceptRanges : DataW Unit) = acceptData := by kernel_rfl
def laidList : List (String × DataW Unit) := [("unicode/utf8.acceptRanges", Rows.laid_unicode_utf8_acceptRanges), ("unicode/utf8.first", Rows.laid_unicode_utf8_first)]
theorem gw_of {W : World} (hL : laidMetH Tryd.prog laidList W) (hS : W.ShapedOpen Tryd.prog) : GW W := by
  have hL' : laidMet Tryd.prog laidList W := hL
  obtain ⟨ps, hv, _⟩ := hL'
  have h3 := LaidVars_reads hv "unicode/utf8.first" Rows.laid_unicode_utf8_first (by unfold laidList; simp)
  have h4 := LaidVars_reads hv "unicode/utf8.acceptRanges" Rows.laid_unicode_utf8_acceptRanges (by unfold laidList; simp)
  rw [firstIs] at h3
  rw [acceptIs] at h4
  refine ⟨utf8Tabs_of_readsT u8types u8extra h3 h4, ?_, ?_⟩
  · exact cell_of_shapedOpen_int hS (g := 0) (t := 3) (zero := #[.int .i64 0]) (of_decide_eq_true (by kernel_rfl)) (by kernel_rfl) (by kernel_rfl) (by kernel_rfl) (by kernel_rfl) (by kernel_rfl)
  · have hT := utf8Tabs_of_readsT u8types u8extra h3 h4
    exact World.block_lt_of_cell? W _ (hT.2 0 (by decide)).1

section
variable {H : Type} {enc : TypeId × Value → H} {w : World} {base : Nat} {spare : Nat → Bool} {held : Bool}
theorem lab_elem (n : Nat) (cs : List Value) (x : DataW H × List MemPlace) (h : DataW.trod enc Tryd.prog w base spare held n 43 cs = some x) : ∃ y : Lab, cs = y.enc := by
  obtain ⟨hl, m, hf⟩ := struct_cells Tryd.underlying43 (by kernel_rfl) (by kernel_rfl) h
  obtain ⟨v0, y0, e0, h0⟩ := hf 0 _ rfl
  obtain ⟨v1, y1, e1, h1⟩ := hf 1 _ rfl
  obtain ⟨s0, c0, -, -⟩ := DataW.trod_string undStr h0
  obtain ⟨s1, c1, -, -⟩ := DataW.trod_string undStr h1
  match cs, hl with
  | [a, b], _ =>
    simp only [List.getElem?_cons_zero, List.getElem?_cons_succ, Option.some.injEq, List.cons.injEq, and_true] at e0 e1 c0 c1
    exact ⟨⟨s0, s1⟩, by rw [e0, e1, c0, c1]; rfl⟩
theorem grant_elem (n : Nat) (cs : List Value) (x : DataW H × List MemPlace) (h : DataW.trod enc Tryd.prog w base spare held n 46 cs = some x) : ∃ y : RGr, cs = y.enc := by
  obtain ⟨hl, m, hf⟩ := struct_cells Tryd.underlying46 (by kernel_rfl) (by kernel_rfl) h
  obtain ⟨v0, y0, e0, h0⟩ := hf 0 _ rfl
  obtain ⟨v1, y1, e1, h1⟩ := hf 1 _ rfl
  obtain ⟨v2, y2, e2, h2⟩ := hf 2 _ rfl
  obtain ⟨s0, c0, -, -⟩ := DataW.trod_int undU64 h0
  obtain ⟨s1, c1, -, -⟩ := DataW.trod_int undU64 h1
  obtain ⟨s2, c2, -, -⟩ := DataW.trod_string undStr h2
  match cs, hl with
  | [a, b, c], _ =>
    simp only [List.getElem?_cons_zero, List.getElem?_cons_succ, Option.some.injEq, List.cons.injEq, and_true] at e0 e1 e2 c0 c1 c2
    exact ⟨⟨s0, s1, s2⟩, by rw [e0, e1, e2, c0, c1, c2]; rfl⟩
set_option maxRecDepth 100000 in
theorem open_labs {r : Reach} {b0 : Nat} {v : Value} {d : DataW H} {p : List MemPlace} (hv : Value.okWide Tryd.prog w r b0 26 v) (h : DataW.Trod enc Tryd.prog w base spare held 26 v d p) :
    ∃ a len cap l, v = .slice a len cap ∧ Labs w.heap.size w (.slice a len cap) l := by
  obtain ⟨a, len, cap, rfl⟩ := okWide_slice Tryd.underlying26 hv
  obtain ⟨fuel, hf⟩ := h
  have hc : Cell.okWide Tryd.prog w r b0 26 (.slice a len cap) := by simpa only [Value.okWide, Tryd.underlying26] using hv
  obtain ⟨l, hl⟩ := slAt_of_trod (encA := Lab.enc) (k := 2) (fun _ => rfl) Tryd.underlying26 (by kernel_rfl) lab_elem (fun a' e => slice_has (a := a') Tryd.underlying26 (by rw [← e]; exact hc)) hf
  exact ⟨a, len, cap, l, rfl, hl⟩
set_option maxRecDepth 100000 in
theorem open_grants {r : Reach} {b0 : Nat} {v : Value} {d : DataW H} {p : List MemPlace} (hv : Value.okWide Tryd.prog w r b0 25 v) (h : DataW.Trod enc Tryd.prog w base spare held 25 v d p) :
    ∃ next a len cap l, v = .agg #[.int .u64 next, .slice a len cap] ∧ U64 next ∧ RGrs w.heap.size w (.slice a len cap) l := by
  obtain ⟨v0, v1, y0, y1, n, rfl, -, -, h0, h1⟩ := Joins.open_agg2 Tryd.underlying25 (by kernel_rfl) (by kernel_rfl) hv h
  obtain ⟨s0, c0, -, w0⟩ := DataW.trod_int undU64 h0
  simp only [List.cons.injEq, and_true] at c0
  subst c0
  obtain ⟨ts, hts, hcs⟩ := agg_cells Tryd.underlying25 hv
  have hts2 : Tryd.prog.cellTypes Tryd.prog.depth 25 = some [22, 23] := by kernel_rfl
  obtain rfl := Option.some.inj (hts.symm.trans hts2)
  obtain ⟨u, hu, hc⟩ := hcs 1 v1 rfl
  obtain rfl : u = 23 := by simpa using hu.symm
  have hv1 : Value.okWide Tryd.prog w r b0 23 v1 := by simpa only [Value.okWide, Tryd.underlying23] using hc
  obtain ⟨a, len, cap, rfl⟩ := okWide_slice Tryd.underlying23 hv1
  obtain ⟨l, hl⟩ := slAt_of_trod (encA := RGr.enc) (k := 3) (fun _ => rfl) Tryd.underlying23 (by kernel_rfl) grant_elem (fun a' e => slice_has (a := a') Tryd.underlying23 (by rw [← e]; exact hc)) h1
  refine ⟨s0, a, len, cap, l, rfl, ?_, hl⟩
  simp only [Lit.wf, IntKind.min, IntKind.max, IntKind.signed, IntKind.bits, Bool.and_eq_true] at w0
  exact ⟨by simpa using w0.1, by have := w0.2; simp at this; omega⟩
end
end Go.Proofs.YtohfemdjkdjeeaaDoor

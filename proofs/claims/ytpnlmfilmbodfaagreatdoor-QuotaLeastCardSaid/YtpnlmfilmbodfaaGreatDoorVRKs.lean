/- What rows have in common: series opened, the tables of unicode/utf8. Printed by gen_rz.py. -/
import Derived.Test.YtpnlmfilmbodfaaGreatDoorVLI
import Derived.Test.YtpnlmfilmbodfaaGreatDoorVP1
import Derived.Lib.LaidTab
import Derived.Lib.LaidU8T
namespace Go.Proofs.YtpnlmfilmbodfaaGreatDoor
open Go Go.ChangeShapes Go.WideShapes Go.ChangeAt Go.RowKit Go.Lib Go.Deep Go.Shelf
def ren : Ren := ⟨fun x => x, fun | 5 => 5 | 119 => 339 | 138 => 341 | 139 => 342 | n => n, fun | 3 => 6 | 4 => 7 | n => n⟩
theorem u8types : U8Types Tryz.prog ren := ⟨by kernel_rfl, by kernel_rfl, by kernel_rfl, by kernel_rfl⟩
theorem u8extra : U8Extra Tryz.prog ren := ⟨by kernel_rfl, by kernel_rfl, by kernel_rfl, by kernel_rfl, by kernel_rfl, by kernel_rfl, by kernel_rfl⟩
theorem firstIs : Rows.laid_unicode_utf8_first = firstData := by kernel_rfl
theorem acceptIs : (Rows.laid_unicode_utf8_acceptRanges : DataW Unit) = acceptData := by kernel_rfl
def laidU : List (String × DataW Unit) := [("unicode/utf8.acceptRanges", Rows.laid_unicode_utf8_acceptRanges), ("unicode/utf8.first", Rows.laid_unicode_utf8_first)]
theorem gw_of {W : World} (hL' : laidMet Tryz.prog laidU W) (hS : W.ShapedOpen Tryz.prog) : GW W := by
  obtain ⟨ps, hv, _⟩ := hL'
  have h3 := LaidVars_reads hv "unicode/utf8.first" Rows.laid_unicode_utf8_first (by unfold laidU; simp)
  have h4 := LaidVars_reads hv "unicode/utf8.acceptRanges" Rows.laid_unicode_utf8_acceptRanges (by unfold laidU; simp)
  rw [firstIs] at h3
  rw [acceptIs] at h4
  refine ⟨utf8Tabs_of_readsT u8types u8extra h3 h4, ?_, ?_⟩
  · exact cell_of_shapedOpen_int hS (g := 5) (t := 3) (zero := #[.int .i64 0]) (of_decide_eq_true (by kernel_rfl)) (by kernel_rfl) (by kernel_rfl) (by kernel_rfl) (by kernel_rfl) (by kernel_rfl)
  · have hT := utf8Tabs_of_readsT u8types u8extra h3 h4
    exact World.block_lt_of_cell? W _ (hT.2 0 (by decide)).1
section
variable {H : Type} {enc : TypeId × Value → H} {w : World} {base : Nat} {held : Bool}
theorem lab_elem (n : Nat) (cs : List Value) (x : DataW H × List MemPlace) (h : DataW.trod enc Tryz.prog w base (fun _ => true) held n 148 cs = some x) : ∃ y : Lab, cs = y.enc := by
  obtain ⟨hl, m, hf⟩ := struct_cells Tryz.underlying148 (by kernel_rfl) (by kernel_rfl) h
  obtain ⟨v0, y0, e0, h0⟩ := hf 0 _ rfl
  obtain ⟨v1, y1, e1, h1⟩ := hf 1 _ rfl
  obtain ⟨s0, c0, -, -⟩ := DataW.trod_string undStr h0
  obtain ⟨s1, c1, -, -⟩ := DataW.trod_string undStr h1
  match cs, hl with
  | [a, b], _ =>
    simp only [List.getElem?_cons_zero, List.getElem?_cons_succ, Option.some.injEq, List.cons.injEq, and_true] at e0 e1 c0 c1
    exact ⟨⟨s0, s1⟩, by rw [e0, e1, c0, c1]; rfl⟩
theorem lab_elem' (n : Nat) (cs : List Value) (x : DataW H × List MemPlace) (h : DataW.trod enc Tryz.prog w base (fun _ => true) held n 148 cs = some x) : ∃ y : Lab, cs = y.enc ∧ True := by
  obtain ⟨y, h⟩ := lab_elem n cs x h
  exact ⟨y, h, trivial⟩
set_option maxRecDepth 100000 in
theorem ser_elem (n : Nat) (cs : List Value) (x : DataW H × List MemPlace) (h : DataW.trod enc Tryz.prog w base (fun _ => true) held n 64 cs = some x) : ∃ e : Ser × SerP, cs = serEnc e ∧ (e.2.At w.heap.size w e.1 ∧ e.1.wn) := by
  obtain ⟨hl, m, hf⟩ := fields_of Tryz.underlying64 h
  replace hl : cs.length = 12 := hl.trans (by kernel_rfl)
  obtain ⟨y0, h0⟩ := hf 0 _ rfl
  obtain ⟨y1, h1⟩ := hf 1 _ rfl
  obtain ⟨y2, h2⟩ := hf 2 _ rfl
  match cs, hl with
  | [v0, v1, v2, v3, v4, v5, v6, v7, v8, v9, v10, v11], _ =>
    change DataW.trod enc Tryz.prog w base _ held m 62 (([v0, v1, v2, v3, v4, v5, v6, v7, v8, v9, v10, v11].drop 0).take (Tryz.prog.cellsOf 62)) = some y0 at h0
    change DataW.trod enc Tryz.prog w base _ held m 33 (([v0, v1, v2, v3, v4, v5, v6, v7, v8, v9, v10, v11].drop 1).take (Tryz.prog.cellsOf 33)) = some y1 at h1
    change DataW.trod enc Tryz.prog w base _ held m 43 (([v0, v1, v2, v3, v4, v5, v6, v7, v8, v9, v10, v11].drop 11).take (Tryz.prog.cellsOf 43)) = some y2 at h2
    rw [show Tryz.prog.cellsOf 62 = 1 by kernel_rfl] at h0
    rw [show Tryz.prog.cellsOf 33 = 10 by kernel_rfl] at h1
    rw [show Tryz.prog.cellsOf 43 = 1 by kernel_rfl] at h2
    simp only [List.drop_zero, List.drop_succ_cons, List.take_succ_cons, List.take_zero] at h0 h1 h2
    obtain ⟨la, ll, lc, l, k0, S0, -⟩ := slC_open (k := 2) (encA := Lab.enc) (by omega) Tryz.underlying62 (by kernel_rfl) lab_elem' h0
    obtain ⟨y, s, e1, S1, fit⟩ := sk_elem _ _ _ h1
    obtain ⟨s2, c2, -, w2⟩ := DataW.trod_int undU64 h2
    simp only [List.cons.injEq, and_true] at e1 c2
    obtain ⟨q1, q2, q3, q4, q5, q6, q7, q8, q9, q10⟩ := e1
    refine ⟨(⟨l, y, s2⟩, ⟨la, ll, lc, s⟩), ?_, ⟨S0, S1⟩, fit, wf_u64 w2⟩
    rw [k0, q1, q2, q3, q4, q5, q6, q7, q8, q9, q10, c2]; rfl
set_option maxRecDepth 100000 in
theorem open_sers {r : Reach} {b0 : Nat} {v : Value} {d : DataW H} {p : List MemPlace} (hv : Value.okWide Tryz.prog w r b0 57 v) (h : DataW.Trod enc Tryz.prog w base (fun _ => true) held 57 v d p) :
    ∃ a len cap l, v = .slice a len cap ∧ Tab w.heap.size w a len cap l ∧ ∀ x ∈ l.map (·.1), Ser.wn x := by
  obtain ⟨a, len, cap, rfl⟩ := okWide_slice und_table hv
  obtain ⟨fuel, hf⟩ := h
  obtain ⟨a', len', cap', l, e, S, U⟩ := slC_open (k := 12) (encA := serEnc) (by omega) und_table (by kernel_rfl) ser_elem hf
  injection e with e1 e2 e3
  subst e1 e2 e3
  refine ⟨a, len, cap, l, rfl, ⟨S, fun e he => (U e he).1⟩, fun x hx => ?_⟩
  obtain ⟨e, he, rfl⟩ := List.mem_map.1 hx
  exact (U e he).2
end
def laidQ : List (String × DataW Unit) := [("unicode/utf8.acceptRanges", Rows.laid_unicode_utf8_acceptRanges), eT, ("unicode/utf8.first", Rows.laid_unicode_utf8_first)]
theorem metQ {W : World} (h : laidMetH Tryz.prog laidQ W) : laidMet Tryz.prog laidU W ∧ handlesMet Tryz.prog [eT] W := h
noncomputable def laidWorldQ (os : Os) : World :=
  let h0 := (World.holding Tryz.prog os ⟨#[], #[], []⟩)
  { h0 with heap := ((h0.heap.modify 2 typeCell).modify 6 fun
      | .cells _ t frozen => .cells (firstTab.map (Value.int .u8)).toArray t frozen
      | o => o).modify 7 fun
      | .cells _ t frozen => .cells ((List.range 16).flatMap fun i => [Value.int .u8 (accLo i), Value.int .u8 (accHi i)]).toArray t frozen
      | o => o }
theorem laid_metQ (os : Os) (args : Array Value) : laidMetH Tryz.prog laidQ ((laidWorldQ os).forCall (fun _ _ => 0) ⟨#[], args, []⟩).memory :=
  laidMetH_of_parts (show laidMet Tryz.prog laidU _ from laidMet_of_run' 8 (by kernel_rfl) (by kernel_rfl)) (by kernel_rfl)
end Go.Proofs.YtpnlmfilmbodfaaGreatDoor

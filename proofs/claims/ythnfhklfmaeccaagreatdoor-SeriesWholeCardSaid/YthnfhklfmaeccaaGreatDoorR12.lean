/- Layer 12's laws: what their rows have in common: the arguments opened, the tables. -/
import Derived.Test.YthnfhklfmaeccaaGreatDoorCards
import Derived.Test.YthnfhklfmaeccaaGreatDoorTie
import Derived.Test.YthnfhklfmaeccaaGreatDoorT8
import Derived.Test.YthnfhklfmaeccaaGreatDoorR0
import Derived.Lib.LaidTab
import Derived.Lib.LaidU8T
import Derived.Shelf.Vars
import Derived.ChangeMaps5
namespace Go.Proofs.YthnfhklfmaeccaaGreatDoor
open Go Go.ChangeShapes Go.WideShapes Go.ChangeAt Go.RowKit Go.Lib Go.Deep Go.Shelf

theorem own : ownKnob Tryz.prog.godebug = none := by kernel_rfl
theorem laidOut : laidOutB Tryz.prog = true := by kernel_rfl
theorem undBool : Tryz.prog.underlying 4 = some .bool := by kernel_rfl
theorem undU64 : Tryz.prog.underlying 34 = some (.int .u64) := by kernel_rfl
theorem undStr : Tryz.prog.underlying 9 = some .string := by kernel_rfl

/-! ### the tables, and MaxLen -/
def ren : Ren := ⟨fun x => x, fun | 5 => 5 | 119 => 179 | 138 => 181 | 139 => 182 | n => n, fun | 3 => 1 | 4 => 2 | n => n⟩
theorem u8types : U8Types Tryz.prog ren := ⟨by kernel_rfl, by kernel_rfl, by kernel_rfl, by kernel_rfl⟩
theorem u8extra : U8Extra Tryz.prog ren := ⟨by kernel_rfl, by kernel_rfl, by kernel_rfl, by kernel_rfl, by kernel_rfl, by kernel_rfl, by kernel_rfl⟩
theorem firstIs : Rows.laid_unicode_utf8_first = firstData := by kernel_rfl
theorem acceptIs : (Rows.laid_unicode_utf8_acceptRanges : DataW Unit) = acceptData := by kernel_rfl
def laidList : List (String × DataW Unit) := [("unicode/utf8.acceptRanges", Rows.laid_unicode_utf8_acceptRanges), ("unicode/utf8.first", Rows.laid_unicode_utf8_first)]
theorem gw_of {W : World} (hL : laidMetH Tryz.prog laidList W) (hS : W.ShapedOpen Tryz.prog) : GW W := by
  have hL' : laidMet Tryz.prog laidList W := hL
  obtain ⟨ps, hv, _⟩ := hL'
  have h3 := LaidVars_reads hv "unicode/utf8.first" Rows.laid_unicode_utf8_first (by unfold laidList; simp)
  have h4 := LaidVars_reads hv "unicode/utf8.acceptRanges" Rows.laid_unicode_utf8_acceptRanges (by unfold laidList; simp)
  rw [firstIs] at h3
  rw [acceptIs] at h4
  refine ⟨utf8Tabs_of_readsT u8types u8extra h3 h4, ?_, ?_⟩
  · exact cell_of_shapedOpen_int hS (g := 0) (t := 3) (zero := #[.int .i64 0]) (of_decide_eq_true (by kernel_rfl)) (by kernel_rfl) (by kernel_rfl) (by kernel_rfl) (by kernel_rfl) (by kernel_rfl)
  · have hT := utf8Tabs_of_readsT u8types u8extra h3 h4
    exact World.block_lt_of_cell? W _ (hT.2 0 (by decide)).1

theorem undInt : Tryz.prog.underlying 3 = some (.int .i64) := by kernel_rfl
section
variable {H : Type} {enc : TypeId × Value → H} {w : World} {base : Nat} {held : Bool}
theorem lab_elem (n : Nat) (cs : List Value) (x : DataW H × List MemPlace) (h : DataW.trod enc Tryz.prog w base (fun _ => true) held n 32 cs = some x) : ∃ y : Lab, cs = y.enc := by
  obtain ⟨hl, m, hf⟩ := struct_cells Tryz.underlying32 (by kernel_rfl) (by kernel_rfl) h
  obtain ⟨v0, y0, e0, h0⟩ := hf 0 _ rfl
  obtain ⟨v1, y1, e1, h1⟩ := hf 1 _ rfl
  obtain ⟨s0, c0, -, -⟩ := DataW.trod_string undStr h0
  obtain ⟨s1, c1, -, -⟩ := DataW.trod_string undStr h1
  match cs, hl with
  | [a, b], _ =>
    simp only [List.getElem?_cons_zero, List.getElem?_cons_succ, Option.some.injEq, List.cons.injEq, and_true] at e0 e1 c0 c1
    exact ⟨⟨s0, s1⟩, by rw [e0, e1, c0, c1]; rfl⟩
theorem fields_of {P : Program} {t : TypeId} {fs : Array Field} {fuel : Nat} {cs : List Value} {x : DataW H × List MemPlace} (ht : P.underlying t = some (.struct fs)) (h : DataW.trod enc P w base (fun _ => true) held fuel t cs = some x) :
    cs.length = P.cellsOf t ∧ ∃ n, ∀ (i : Nat) (f : Field), fs[i]? = some f → ∃ y, DataW.trod enc P w base (fun _ => true) held n f.type ((cs.drop f.offset).take (P.cellsOf f.type)) = some y := by
  obtain ⟨xs, n, _, _, hl, hx, hf⟩ := DataW.trod_struct ht h
  refine ⟨hl, n, fun i f hi => ?_⟩
  have h1 := hf i f hi
  have h2 := (Array.getElem?_eq_some_iff.1 hi).1
  rw [List.getElem?_eq_getElem (by omega)] at h1
  exact ⟨_, h1⟩
theorem SlC.map {α β : Type} {encA : β → List Value} {k n : Nat} {a : Option Addr} {len cap : Nat} {f : α → β} {l : List α} (h : SlC (fun x => encA (f x)) k n w a len cap l) : SlC encA k n w a len cap (l.map f) :=
  ⟨⟨by rw [List.length_map]; exact h.1.1, fun j x hx => by rw [List.getElem?_map] at hx; obtain ⟨y, hy, rfl⟩ := Option.map_eq_some_iff.1 hx; exact h.1.2 j y hy⟩, h.2⟩
/-- A slice whose elements are read, and what is known of each. -/
theorem slC_open {P : Program} {α : Type} {t e : TypeId} {k : Nat} {encA : α → List Value} {Q : α → Prop} (hk : 0 < k) (ht : P.underlying t = some (.slice e)) (hc : P.cellsOf e = k)
    (hel : ∀ n cs x, DataW.trod enc P w base (fun _ => true) held n e cs = some x → ∃ y, cs = encA y ∧ Q y) {fuel : Nat} {v : Value} {x : DataW H × List MemPlace}
    (h : DataW.trod enc P w base (fun _ => true) held fuel t [v] = some x) : ∃ a len cap l, v = .slice a len cap ∧ SlC encA k w.heap.size w a len cap l ∧ ∀ y ∈ l, Q y := by
  obtain ⟨a, len, cap, rfl⟩ : ∃ a len cap, v = .slice a len cap := by
    rcases open_slice ht h with ⟨h0, _⟩ | ⟨a', len', cap', m, n, D, Pl, hcs, -⟩
    · simp only [List.cons.injEq, and_true] at h0; exact ⟨_, _, _, h0⟩
    · simp only [List.cons.injEq, and_true] at hcs; exact ⟨_, _, _, hcs⟩
  obtain ⟨l, hl⟩ := slC_of_trod (encA := fun y : { y // Q y } => encA y.1) hk ht hc (fun n cs x hx => by obtain ⟨y, h1, h2⟩ := hel n cs x hx; exact ⟨⟨y, h2⟩, h1⟩) h
  refine ⟨a, len, cap, l.map (·.1), rfl, hl.map, fun y hy => ?_⟩
  obtain ⟨z, _, rfl⟩ := List.mem_map.1 hy
  exact z.2
theorem wf_u64 {n : Int} (w0 : (Lit.int .u64 n).wf = true) : U64 n := by
  simp only [Lit.wf, IntKind.min, IntKind.max, IntKind.signed, IntKind.bits, Bool.and_eq_true] at w0
  exact ⟨by simpa using w0.1, by have := w0.2; simp at this; omega⟩
theorem wf_i64 {n : Int} (w0 : (Lit.int .i64 n).wf = true) : I64 n := by
  simp only [Lit.wf, IntKind.min, IntKind.max, IntKind.signed, IntKind.bits, Bool.and_eq_true] at w0
  exact ⟨by have := w0.1; simp at this; omega, by have := w0.2; simp at this; omega⟩
theorem u64_elem (n : Nat) (cs : List Value) (x : DataW H × List MemPlace) (h : DataW.trod enc Tryz.prog w base (fun _ => true) held n 34 cs = some x) : ∃ y : Int, cs = encU y ∧ U64 y := by
  obtain ⟨s0, c0, -, w0⟩ := DataW.trod_int undU64 h
  exact ⟨s0, c0, wf_u64 w0⟩
theorem bin_elem (n : Nat) (cs : List Value) (x : DataW H × List MemPlace) (h : DataW.trod enc Tryz.prog w base (fun _ => true) held n 81 cs = some x) : ∃ y : Int × Int, cs = encB y ∧ (I64 y.1 ∧ U64 y.2) := by
  obtain ⟨hl, m, hf⟩ := struct_cells Tryz.underlying81 (by kernel_rfl) (by kernel_rfl) h
  obtain ⟨v0, y0, e0, h0⟩ := hf 0 _ rfl
  obtain ⟨v1, y1, e1, h1⟩ := hf 1 _ rfl
  obtain ⟨s0, c0, -, w0⟩ := DataW.trod_int undInt h0
  obtain ⟨s1, c1, -, w1⟩ := DataW.trod_int undU64 h1
  match cs, hl with
  | [a, b], _ =>
    simp only [List.getElem?_cons_zero, List.getElem?_cons_succ, Option.some.injEq, List.cons.injEq, and_true] at e0 e1 c0 c1
    exact ⟨(s0, s1), by rw [e0, e1, c0, c1]; rfl, wf_i64 w0, wf_u64 w1⟩
theorem lab_elem' (n : Nat) (cs : List Value) (x : DataW H × List MemPlace) (h : DataW.trod enc Tryz.prog w base (fun _ => true) held n 32 cs = some x) : ∃ y : Lab, cs = y.enc ∧ True := by
  obtain ⟨y, h⟩ := lab_elem n cs x h
  exact ⟨y, h, trivial⟩
set_option maxRecDepth 100000 in
/-- The ten cells of a sketch. -/
theorem sk_elem (n : Nat) (cs : List Value) (x : DataW H × List MemPlace) (h : DataW.trod enc Tryz.prog w base (fun _ => true) held n 46 cs = some x) : ∃ (y : Sk) (s : SS), cs = [.int .i64 y.kind, .int .i64 y.level, .slice s.ea s.el s.ec, .int .i64 y.hb, .string y.hr, .int .i64 y.cr, .int .i64 y.cc, .slice s.ca s.cl s.cc, .int .i64 y.gf, .slice s.ga s.gl s.gc] ∧ s.At w.heap.size w y ∧ y.fit ∧ U64s y.e ∧ U64s y.cl := by
  obtain ⟨hl, m, hf⟩ := fields_of Tryz.underlying46 h
  replace hl : cs.length = 10 := hl.trans (by kernel_rfl)
  obtain ⟨y0, h0⟩ := hf 0 _ rfl
  obtain ⟨y1, h1⟩ := hf 1 _ rfl
  obtain ⟨y2, h2⟩ := hf 2 _ rfl
  obtain ⟨y3, h3⟩ := hf 3 _ rfl
  obtain ⟨y4, h4⟩ := hf 4 _ rfl
  obtain ⟨y5, h5⟩ := hf 5 _ rfl
  match cs, hl with
  | [v1, v2, v3, v4, v5, v6, v7, v8, v9, v10], _ =>
    change DataW.trod enc Tryz.prog w base _ held m 3 (([v1, v2, v3, v4, v5, v6, v7, v8, v9, v10].drop 0).take (Tryz.prog.cellsOf 3)) = some y0 at h0
    change DataW.trod enc Tryz.prog w base _ held m 3 (([v1, v2, v3, v4, v5, v6, v7, v8, v9, v10].drop 1).take (Tryz.prog.cellsOf 3)) = some y1 at h1
    change DataW.trod enc Tryz.prog w base _ held m 37 (([v1, v2, v3, v4, v5, v6, v7, v8, v9, v10].drop 2).take (Tryz.prog.cellsOf 37)) = some y2 at h2
    change DataW.trod enc Tryz.prog w base _ held m 39 (([v1, v2, v3, v4, v5, v6, v7, v8, v9, v10].drop 3).take (Tryz.prog.cellsOf 39)) = some y3 at h3
    change DataW.trod enc Tryz.prog w base _ held m 41 (([v1, v2, v3, v4, v5, v6, v7, v8, v9, v10].drop 5).take (Tryz.prog.cellsOf 41)) = some y4 at h4
    change DataW.trod enc Tryz.prog w base _ held m 44 (([v1, v2, v3, v4, v5, v6, v7, v8, v9, v10].drop 8).take (Tryz.prog.cellsOf 44)) = some y5 at h5
    rw [show Tryz.prog.cellsOf 3 = 1 by kernel_rfl] at h0 h1
    rw [show Tryz.prog.cellsOf 37 = 1 by kernel_rfl] at h2
    rw [show Tryz.prog.cellsOf 39 = 2 by kernel_rfl] at h3
    rw [show Tryz.prog.cellsOf 41 = 3 by kernel_rfl] at h4
    rw [show Tryz.prog.cellsOf 44 = 2 by kernel_rfl] at h5
    simp only [List.drop_zero, List.drop_succ_cons, List.take_succ_cons, List.take_zero] at h0 h1 h2 h3 h4 h5
    obtain ⟨s0, c0, -, -⟩ := DataW.trod_int undInt h0
    obtain ⟨s1, c1, -, -⟩ := DataW.trod_int undInt h1
    obtain ⟨-, m2, f2⟩ := struct_cells Tryz.underlying37 (by kernel_rfl) (by kernel_rfl) h2
    obtain ⟨-, m3, f3⟩ := struct_cells Tryz.underlying39 (by kernel_rfl) (by kernel_rfl) h3
    obtain ⟨-, m4, f4⟩ := struct_cells Tryz.underlying41 (by kernel_rfl) (by kernel_rfl) h4
    obtain ⟨-, m5, f5⟩ := struct_cells Tryz.underlying44 (by kernel_rfl) (by kernel_rfl) h5
    obtain ⟨u2, z2, e2, g2⟩ := f2 0 _ rfl
    obtain ⟨u3, z3, e3, g3⟩ := f3 0 _ rfl
    obtain ⟨u4, z4, e4, g4⟩ := f3 1 _ rfl
    obtain ⟨u5, z5, e5, g5⟩ := f4 0 _ rfl
    obtain ⟨u6, z6, e6, g6⟩ := f4 1 _ rfl
    obtain ⟨u7, z7, e7, g7⟩ := f4 2 _ rfl
    obtain ⟨u8, z8, e8, g8⟩ := f5 0 _ rfl
    obtain ⟨u9, z9, e9, g9⟩ := f5 1 _ rfl
    obtain ⟨ea, el, ec, le, k2, S2, U2⟩ := slC_open (k := 1) (encA := encU) (by omega) Tryz.underlying35 (by kernel_rfl) u64_elem g2
    obtain ⟨s3, c3, -, -⟩ := DataW.trod_int undInt g3
    obtain ⟨s4, c4, -, -⟩ := DataW.trod_string undStr g4
    obtain ⟨s5, c5, -, -⟩ := DataW.trod_int undInt g5
    obtain ⟨s6, c6, -, -⟩ := DataW.trod_int undInt g6
    obtain ⟨ca, cl, cc, lc, k7, S7, U7⟩ := slC_open (k := 1) (encA := encU) (by omega) Tryz.underlying35 (by kernel_rfl) u64_elem g7
    obtain ⟨s8, c8, -, -⟩ := DataW.trod_int undInt g8
    obtain ⟨ga, gl, gc, lg, k9, S9, U9⟩ := slC_open (k := 2) (encA := encB) (by omega) Tryz.underlying42 (by kernel_rfl) bin_elem g9
    simp only [List.getElem?_cons_zero, List.getElem?_cons_succ, Option.some.injEq, List.cons.injEq, and_true] at e2 e3 e4 e5 e6 e7 e8 e9 c0 c1 c3 c4 c5 c6 c8
    refine ⟨⟨s0, s1, le, s3, s4, s5, s6, lc, s8, lg⟩, ⟨ea, el, ec, ca, cl, cc, ga, gl, gc⟩, ?_, ⟨S2, S7, S9⟩, fun b hb => (U9 b hb).1.2, U2, U7⟩
    rw [c0, c1, e2, k2, e3, c3, e4, c4, e5, c5, e6, c6, e7, k7, e8, c8, e9, k9]
set_option maxRecDepth 100000 in
/-- The twelve cells of a series. -/
theorem ser_elem (n : Nat) (cs : List Value) (x : DataW H × List MemPlace) (h : DataW.trod enc Tryz.prog w base (fun _ => true) held n 48 cs = some x) : ∃ e : Ser × SerP, cs = serEnc e ∧ (e.2.At w.heap.size w e.1 ∧ e.1.wf) := by
  obtain ⟨hl, m, hf⟩ := fields_of Tryz.underlying48 h
  replace hl : cs.length = 12 := hl.trans (by kernel_rfl)
  obtain ⟨y0, h0⟩ := hf 0 _ rfl
  obtain ⟨y1, h1⟩ := hf 1 _ rfl
  obtain ⟨y2, h2⟩ := hf 2 _ rfl
  match cs, hl with
  | [v0, v1, v2, v3, v4, v5, v6, v7, v8, v9, v10, v11], _ =>
    change DataW.trod enc Tryz.prog w base _ held m 33 (([v0, v1, v2, v3, v4, v5, v6, v7, v8, v9, v10, v11].drop 0).take (Tryz.prog.cellsOf 33)) = some y0 at h0
    change DataW.trod enc Tryz.prog w base _ held m 46 (([v0, v1, v2, v3, v4, v5, v6, v7, v8, v9, v10, v11].drop 1).take (Tryz.prog.cellsOf 46)) = some y1 at h1
    change DataW.trod enc Tryz.prog w base _ held m 34 (([v0, v1, v2, v3, v4, v5, v6, v7, v8, v9, v10, v11].drop 11).take (Tryz.prog.cellsOf 34)) = some y2 at h2
    rw [show Tryz.prog.cellsOf 33 = 1 by kernel_rfl] at h0
    rw [show Tryz.prog.cellsOf 46 = 10 by kernel_rfl] at h1
    rw [show Tryz.prog.cellsOf 34 = 1 by kernel_rfl] at h2
    simp only [List.drop_zero, List.drop_succ_cons, List.take_succ_cons, List.take_zero] at h0 h1 h2
    obtain ⟨la, ll, lc, l, k0, S0, -⟩ := slC_open (k := 2) (encA := Lab.enc) (by omega) Tryz.underlying33 (by kernel_rfl) lab_elem' h0
    obtain ⟨y, s, e1, S1, fit, -, -⟩ := sk_elem _ _ _ h1
    obtain ⟨s2, c2, -, w2⟩ := DataW.trod_int undU64 h2
    simp only [List.cons.injEq, and_true] at e1 c2
    obtain ⟨q1, q2, q3, q4, q5, q6, q7, q8, q9, q10⟩ := e1
    refine ⟨(⟨l, y, s2⟩, ⟨la, ll, lc, s⟩), ?_, ⟨S0, S1⟩, fit, wf_u64 w2⟩
    rw [k0, q1, q2, q3, q4, q5, q6, q7, q8, q9, q10, c2]; rfl
set_option maxRecDepth 100000 in
theorem open_sers {r : Reach} {b0 : Nat} {v : Value} {d : DataW H} {p : List MemPlace} (hv : Value.okWide Tryz.prog w r b0 22 v) (h : DataW.Trod enc Tryz.prog w base (fun _ => true) held 22 v d p) :
    ∃ a len cap l, v = .slice a len cap ∧ Tab w.heap.size w a len cap l ∧ ∀ x ∈ l.map (·.1), Ser.wf x := by
  obtain ⟨a, len, cap, rfl⟩ := okWide_slice und_table hv
  obtain ⟨fuel, hf⟩ := h
  obtain ⟨a', len', cap', l, e, S, U⟩ := slC_open (k := 12) (encA := serEnc) (by omega) und_table (by kernel_rfl) ser_elem hf
  injection e with e1 e2 e3
  subst e1 e2 e3
  refine ⟨a, len, cap, l, rfl, ⟨S, fun e he => (U e he).1⟩, fun x hx => ?_⟩
  obtain ⟨e, he, rfl⟩ := List.mem_map.1 hx
  exact (U e he).2
set_option maxRecDepth 100000 in
theorem open_ser {r : Reach} {b0 : Nat} {v : Value} {d : DataW H} {p : List MemPlace} (hv : Value.okWide Tryz.prog w r b0 48 v) (h : DataW.Trod enc Tryz.prog w base (fun _ => true) held 48 v d p) :
    ∃ x p, v = .agg (serVals x p).toArray ∧ p.At w.heap.size w x ∧ x.wf := by
  obtain ⟨cs, rfl, -⟩ := okWide_struct und_series hv
  obtain ⟨fuel, hf⟩ := h
  obtain ⟨e, h1, h2, h3⟩ := ser_elem _ _ _ hf
  refine ⟨e.1, e.2, ?_, h2, h3⟩
  have h1' : cs.toList = serEnc e := h1
  rw [← Array.toArray_toList (xs := cs), h1']; rfl
end
end Go.Proofs.YthnfhklfmaeccaaGreatDoor

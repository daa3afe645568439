/- Layer 11's laws: what their rows have in common: the arguments opened, the sentinels. -/
import Derived.Test.YtjpnbkdhmjgdgaaDoorCards
import Derived.Test.YtjpnbkdhmjgdgaaDoorTie
import Derived.Test.YtjpnbkdhmjgdgaaDoorYL
import Derived.Test.YtjpnbkdhmjgdgaaDoorR0
import Derived.Stop.LaidTwo
import Derived.Shelf.Vars
import Derived.ChangeMaps5
namespace Go.Proofs.YtjpnbkdhmjgdgaaDoor
open Go Go.ChangeShapes Go.WideShapes Go.ChangeAt Go.RowKit Go.Lib Go.Deep Go.Shelf

theorem own : ownKnob Tryd.prog.godebug = none := by kernel_rfl
theorem laidOut : laidOutB Tryd.prog = true := by kernel_rfl
theorem undBool : Tryd.prog.underlying 4 = some .bool := by kernel_rfl
theorem undU64 : Tryd.prog.underlying 46 = some (.int .u64) := by kernel_rfl
theorem undStr : Tryd.prog.underlying 9 = some .string := by kernel_rfl
theorem undInt : Tryd.prog.underlying 3 = some (.int .i64) := by kernel_rfl

/-! ### the sentinels -/
def laidList : List (String × DataW Unit) := [("aviary/field.errMore", Rows.laid_aviary_field_errMore), ("aviary/field.errField", Rows.laid_aviary_field_errField), ("aviary/code.errMore", Rows.laid_aviary_code_errMore), ("aviary/code.errCode", Rows.laid_aviary_code_errCode)]
theorem star : "*" ++ "errors.errorString" = "*errors.errorString" := by decide
theorem rowErr (u : TypeId) (h : Tryd.prog.typeName? 3 u = some "*errors.errorString") : u = 155 :=
  typeName_ptr_named (nm := "errors.errorString") (by rw [star]; kernel_rfl) (by kernel_rfl) (by decide) u (by rw [star]; exact h)
theorem gA : Tryd.prog.globalNamed "aviary/field.errMore" = some 2 := by kernel_rfl
theorem gB : Tryd.prog.globalNamed "aviary/field.errField" = some 3 := by kernel_rfl
theorem gC : Tryd.prog.globalNamed "aviary/code.errMore" = some 0 := by kernel_rfl
theorem gD : Tryd.prog.globalNamed "aviary/code.errCode" = some 1 := by kernel_rfl
theorem ge_of {W : World} (hL : laidMetH Tryd.prog laidList W) : ∃ fm ff cm cc, GE fm ff cm cc W := by
  have hL' : laidMet Tryd.prog laidList W := hL
  have hL2 : laidMet Tryd.prog (("aviary/code.errMore", Rows.laid_aviary_code_errMore) :: ("aviary/code.errCode", Rows.laid_aviary_code_errCode) :: []) W := hL'.tail.tail
  obtain ⟨a0, a1, s0, s1, c0, c1, t0, t1, hv0, hv1, -, -, -, -, -, -, hne, hb0, hb1⟩ := laid_sentinels2 hL' gA (by kernel_rfl : (Tryd.prog.globals[2]?).map (·.type) = some 61) gB (by kernel_rfl) Tryd.underlying61 rowErr Tryd.underlying155 Tryd.underlying182 rfl rfl undStr (by kernel_rfl) (by kernel_rfl)
  obtain ⟨b0, b1, r0, r1, d0, d1, u0, u1, hw0, hw1, -, -, -, -, -, -, hne2, hd0, hd1⟩ := laid_sentinels2 hL2 gC (by kernel_rfl : (Tryd.prog.globals[0]?).map (·.type) = some 61) gD (by kernel_rfl) Tryd.underlying61 rowErr Tryd.underlying155 Tryd.underlying182 rfl rfl undStr (by kernel_rfl) (by kernel_rfl)
  have k0 : W.cell? ⟨2, 0, none⟩ = some (errV a0) := by simpa using World.var?_cell gA hv0 0
  have k1 : W.cell? ⟨3, 0, none⟩ = some (errV a1) := by simpa using World.var?_cell gB hv1 0
  have k2 : W.cell? ⟨0, 0, none⟩ = some (errV b0) := by simpa using World.var?_cell gC hw0 0
  have k3 : W.cell? ⟨1, 0, none⟩ = some (errV b1) := by simpa using World.var?_cell gD hw1 0
  refine ⟨a0, a1, b0, b1, k0, k1, k2, k3, fun h => hne h.symm, fun h => hne2 h.symm, ⟨_, _, hb0⟩, ⟨_, _, hb1⟩, ⟨_, _, hd0⟩, ⟨_, _, hd1⟩, ?_⟩
  have h1 := World.block_lt_of_cell? W _ k0
  have h2 := World.block_lt_of_cell? W _ k1
  have h3 := World.block_lt_of_cell? W _ k2
  have h4 := World.block_lt_of_cell? W _ k3
  simp only at h1 h2 h3 h4
  omega

section
variable {H : Type} {enc : TypeId × Value → H} {w : World} {base : Nat} {held : Bool}
theorem fields_of {P : Program} {t : TypeId} {fs : Array Field} {fuel : Nat} {cs : List Value} {x : DataW H × List MemPlace} (ht : P.underlying t = some (.struct fs)) (h : DataW.trod enc P w base (fun _ => true) held fuel t cs = some x) :
    cs.length = P.cellsOf t ∧ ∃ n, ∀ (i : Nat) (f : Field), fs[i]? = some f → ∃ y, DataW.trod enc P w base (fun _ => true) held n f.type ((cs.drop f.offset).take (P.cellsOf f.type)) = some y := by
  obtain ⟨xs, n, _, _, hl, hx, hf⟩ := DataW.trod_struct ht h
  refine ⟨hl, n, fun i f hi => ?_⟩
  have h1 := hf i f hi
  have h2 := (Array.getElem?_eq_some_iff.1 hi).1
  rw [List.getElem?_eq_getElem (by omega)] at h1
  exact ⟨_, h1⟩
theorem SlC.map {α β : Type} {encA : β → List Value} {k n : Nat} {a : Option Addr} {len cap : Nat} {f : α → β} {l : List α} (h : SlC (fun x => encA (f x)) k n w a len cap l) : SlC encA k n w a len cap (l.map f) :=
  ⟨⟨by rw [List.length_map]; exact h.1.1, fun j x hx => by rw [List.getElem?_map] at hx; obtain ⟨y, hy, rfl⟩ := Option.map_eq_some_iff.1 hx; exact h.1.2 j y hy⟩, h.2⟩
/-- A slice whose elements are read, and what is known of each. -/
theorem slC_open {P : Program} {α : Type} {t e : TypeId} {k : Nat} {encA : α → List Value} {Q : α → Prop} (hk : 0 < k) (ht : P.underlying t = some (.slice e)) (hc : P.cellsOf e = k)
    (hel : ∀ n cs x, DataW.trod enc P w base (fun _ => true) held n e cs = some x → ∃ y, cs = encA y ∧ Q y) {fuel : Nat} {v : Value} {x : DataW H × List MemPlace}
    (h : DataW.trod enc P w base (fun _ => true) held fuel t [v] = some x) : ∃ a len cap l, v = .slice a len cap ∧ SlC encA k w.heap.size w a len cap l ∧ ∀ y ∈ l, Q y := by
  obtain ⟨a, len, cap, rfl⟩ : ∃ a len cap, v = .slice a len cap := by
    rcases open_slice ht h with ⟨h0, _⟩ | ⟨a', len', cap', m, n, D, Pl, hcs, -⟩
    · simp only [List.cons.injEq, and_true] at h0; exact ⟨_, _, _, h0⟩
    · simp only [List.cons.injEq, and_true] at hcs; exact ⟨_, _, _, hcs⟩
  obtain ⟨l, hl⟩ := slC_of_trod (encA := fun y : { y // Q y } => encA y.1) hk ht hc (fun n cs x hx => by obtain ⟨y, h1, h2⟩ := hel n cs x hx; exact ⟨⟨y, h2⟩, h1⟩) h
  refine ⟨a, len, cap, l.map (·.1), rfl, hl.map, fun y hy => ?_⟩
  obtain ⟨z, _, rfl⟩ := List.mem_map.1 hy
  exact z.2
theorem wf_u64 {n : Int} (w0 : (Lit.int .u64 n).wf = true) : U64 n := by
  simp only [Lit.wf, IntKind.min, IntKind.max, IntKind.signed, IntKind.bits, Bool.and_eq_true] at w0
  exact ⟨by simpa using w0.1, by have := w0.2; simp at this; omega⟩
theorem wf_i64 {n : Int} (w0 : (Lit.int .i64 n).wf = true) : I64 n := by
  simp only [Lit.wf, IntKind.min, IntKind.max, IntKind.signed, IntKind.bits, Bool.and_eq_true] at w0
  exact ⟨by have := w0.1; simp at this; omega, by have := w0.2; simp at this; omega⟩
theorem u64_elem (n : Nat) (cs : List Value) (x : DataW H × List MemPlace) (h : DataW.trod enc Tryd.prog w base (fun _ => true) held n 46 cs = some x) : ∃ y : Int, cs = encU y ∧ U64 y := by
  obtain ⟨s0, c0, -, w0⟩ := DataW.trod_int undU64 h
  exact ⟨s0, c0, wf_u64 w0⟩
theorem bin_elem (n : Nat) (cs : List Value) (x : DataW H × List MemPlace) (h : DataW.trod enc Tryd.prog w base (fun _ => true) held n 85 cs = some x) : ∃ y : Int × Int, cs = encB y ∧ (I64 y.1 ∧ U64 y.2) := by
  obtain ⟨hl, m, hf⟩ := struct_cells Tryd.underlying85 (by kernel_rfl) (by kernel_rfl) h
  obtain ⟨v0, y0, e0, h0⟩ := hf 0 _ rfl
  obtain ⟨v1, y1, e1, h1⟩ := hf 1 _ rfl
  obtain ⟨s0, c0, -, w0⟩ := DataW.trod_int undInt h0
  obtain ⟨s1, c1, -, w1⟩ := DataW.trod_int undU64 h1
  match cs, hl with
  | [a, b], _ =>
    simp only [List.getElem?_cons_zero, List.getElem?_cons_succ, Option.some.injEq, List.cons.injEq, and_true] at e0 e1 c0 c1
    exact ⟨(s0, s1), by rw [e0, e1, c0, c1]; rfl, wf_i64 w0, wf_u64 w1⟩
set_option maxRecDepth 100000 in
/-- The ten cells of a sketch. -/
theorem sk_elem (n : Nat) (cs : List Value) (x : DataW H × List MemPlace) (h : DataW.trod enc Tryd.prog w base (fun _ => true) held n 33 cs = some x) : ∃ (y : Sk) (s : SS), cs = [.int .i64 y.kind, .int .i64 y.level, .slice s.ea s.el s.ec, .int .i64 y.hb, .string y.hr, .int .i64 y.cr, .int .i64 y.cc, .slice s.ca s.cl s.cc, .int .i64 y.gf, .slice s.ga s.gl s.gc] ∧ s.At w.heap.size w y ∧ y.arg := by
  obtain ⟨hl, m, hf⟩ := fields_of Tryd.underlying33 h
  replace hl : cs.length = 10 := hl.trans (by kernel_rfl)
  obtain ⟨y0, h0⟩ := hf 0 _ rfl
  obtain ⟨y1, h1⟩ := hf 1 _ rfl
  obtain ⟨y2, h2⟩ := hf 2 _ rfl
  obtain ⟨y3, h3⟩ := hf 3 _ rfl
  obtain ⟨y4, h4⟩ := hf 4 _ rfl
  obtain ⟨y5, h5⟩ := hf 5 _ rfl
  match cs, hl with
  | [v1, v2, v3, v4, v5, v6, v7, v8, v9, v10], _ =>
    change DataW.trod enc Tryd.prog w base _ held m 3 (([v1, v2, v3, v4, v5, v6, v7, v8, v9, v10].drop 0).take (Tryd.prog.cellsOf 3)) = some y0 at h0
    change DataW.trod enc Tryd.prog w base _ held m 3 (([v1, v2, v3, v4, v5, v6, v7, v8, v9, v10].drop 1).take (Tryd.prog.cellsOf 3)) = some y1 at h1
    change DataW.trod enc Tryd.prog w base _ held m 24 (([v1, v2, v3, v4, v5, v6, v7, v8, v9, v10].drop 2).take (Tryd.prog.cellsOf 24)) = some y2 at h2
    change DataW.trod enc Tryd.prog w base _ held m 26 (([v1, v2, v3, v4, v5, v6, v7, v8, v9, v10].drop 3).take (Tryd.prog.cellsOf 26)) = some y3 at h3
    change DataW.trod enc Tryd.prog w base _ held m 28 (([v1, v2, v3, v4, v5, v6, v7, v8, v9, v10].drop 5).take (Tryd.prog.cellsOf 28)) = some y4 at h4
    change DataW.trod enc Tryd.prog w base _ held m 31 (([v1, v2, v3, v4, v5, v6, v7, v8, v9, v10].drop 8).take (Tryd.prog.cellsOf 31)) = some y5 at h5
    rw [show Tryd.prog.cellsOf 3 = 1 by kernel_rfl] at h0 h1
    rw [show Tryd.prog.cellsOf 24 = 1 by kernel_rfl] at h2
    rw [show Tryd.prog.cellsOf 26 = 2 by kernel_rfl] at h3
    rw [show Tryd.prog.cellsOf 28 = 3 by kernel_rfl] at h4
    rw [show Tryd.prog.cellsOf 31 = 2 by kernel_rfl] at h5
    simp only [List.drop_zero, List.drop_succ_cons, List.take_succ_cons, List.take_zero] at h0 h1 h2 h3 h4 h5
    obtain ⟨s0, c0, -, -⟩ := DataW.trod_int undInt h0
    obtain ⟨s1, c1, -, -⟩ := DataW.trod_int undInt h1
    obtain ⟨-, m2, f2⟩ := struct_cells Tryd.underlying24 (by kernel_rfl) (by kernel_rfl) h2
    obtain ⟨-, m3, f3⟩ := struct_cells Tryd.underlying26 (by kernel_rfl) (by kernel_rfl) h3
    obtain ⟨-, m4, f4⟩ := struct_cells Tryd.underlying28 (by kernel_rfl) (by kernel_rfl) h4
    obtain ⟨-, m5, f5⟩ := struct_cells Tryd.underlying31 (by kernel_rfl) (by kernel_rfl) h5
    obtain ⟨u2, z2, e2, g2⟩ := f2 0 _ rfl
    obtain ⟨u3, z3, e3, g3⟩ := f3 0 _ rfl
    obtain ⟨u4, z4, e4, g4⟩ := f3 1 _ rfl
    obtain ⟨u5, z5, e5, g5⟩ := f4 0 _ rfl
    obtain ⟨u6, z6, e6, g6⟩ := f4 1 _ rfl
    obtain ⟨u7, z7, e7, g7⟩ := f4 2 _ rfl
    obtain ⟨u8, z8, e8, g8⟩ := f5 0 _ rfl
    obtain ⟨u9, z9, e9, g9⟩ := f5 1 _ rfl
    obtain ⟨ea, el, ec, le, k2, S2, U2⟩ := slC_open (k := 1) (encA := encU) (by omega) Tryd.underlying22 (by kernel_rfl) u64_elem g2
    obtain ⟨s3, c3, -, -⟩ := DataW.trod_int undInt g3
    obtain ⟨s4, c4, -, -⟩ := DataW.trod_string undStr g4
    obtain ⟨s5, c5, -, -⟩ := DataW.trod_int undInt g5
    obtain ⟨s6, c6, -, -⟩ := DataW.trod_int undInt g6
    obtain ⟨ca, cl, cc, lc, k7, S7, U7⟩ := slC_open (k := 1) (encA := encU) (by omega) Tryd.underlying22 (by kernel_rfl) u64_elem g7
    obtain ⟨s8, c8, -, -⟩ := DataW.trod_int undInt g8
    obtain ⟨ga, gl, gc, lg, k9, S9, U9⟩ := slC_open (k := 2) (encA := encB) (by omega) Tryd.underlying29 (by kernel_rfl) bin_elem g9
    simp only [List.getElem?_cons_zero, List.getElem?_cons_succ, Option.some.injEq, List.cons.injEq, and_true] at e2 e3 e4 e5 e6 e7 e8 e9 c0 c1 c3 c4 c5 c6 c8
    refine ⟨⟨s0, s1, le, s3, s4, s5, s6, lc, s8, lg⟩, ⟨ea, el, ec, ca, cl, cc, ga, gl, gc⟩, ?_, ⟨S2, S7, S9⟩, ⟨U2, U7, U9⟩⟩
    rw [c0, c1, e2, k2, e3, c3, e4, c4, e5, c5, e6, c6, e7, k7, e8, c8, e9, k9]
theorem und_sk : ∃ fs, Tryd.prog.underlying 33 = some (.struct fs) := ⟨_, Tryd.underlying33⟩
set_option maxRecDepth 100000 in
theorem open_sk {r : Reach} {b0 : Nat} {v : Value} {d : DataW H} {p : List MemPlace} (hv : Value.okWide Tryd.prog w r b0 33 v) (h : DataW.Trod enc Tryd.prog w base (fun _ => true) held 33 v d p) :
    ∃ (x : Sk) (s : SS), v = .agg #[.int .i64 x.kind, .int .i64 x.level, .slice s.ea s.el s.ec, .int .i64 x.hb, .string x.hr, .int .i64 x.cr, .int .i64 x.cc, .slice s.ca s.cl s.cc, .int .i64 x.gf, .slice s.ga s.gl s.gc] ∧ s.At w.heap.size w x ∧ x.arg := by
  obtain ⟨cs, rfl, -⟩ := okWide_struct Tryd.underlying33 hv
  obtain ⟨fuel, hf⟩ := h
  obtain ⟨x, s, h1, h2, h3⟩ := sk_elem _ _ _ hf
  refine ⟨x, s, ?_, h2, h3⟩
  have h1' : cs.toList = [.int .i64 x.kind, .int .i64 x.level, .slice s.ea s.el s.ec, .int .i64 x.hb, .string x.hr, .int .i64 x.cr, .int .i64 x.cc, .slice s.ca s.cl s.cc, .int .i64 x.gf, .slice s.ga s.gl s.gc] := h1
  rw [← Array.toArray_toList (xs := cs), h1']
end

/-! ### a world for the witnesses: the four sentinels as their initialisers lay them -/
abbrev tA : ByteArray := { data := #[102, 105, 101, 108, 100, 58, 32, 98, 121, 116, 101, 115, 32, 97, 114, 101, 32, 109, 105, 115, 115, 105, 110, 103] }
abbrev tB : ByteArray := { data := #[102, 105, 101, 108, 100, 58, 32, 116, 104, 101, 115, 101, 32, 98, 121, 116, 101, 115, 32, 97, 114, 101, 32, 110, 111, 110, 101] }
abbrev tC : ByteArray := { data := #[98, 121, 116, 101, 115, 32, 97, 114, 101, 32, 109, 105, 115, 115, 105, 110, 103] }
abbrev tD : ByteArray := { data := #[116, 104, 101, 115, 101, 32, 97, 114, 101, 32, 110, 111, 32, 115, 107, 101, 116, 99, 104, 39, 115, 32, 98, 121, 116, 101, 115] }
noncomputable def low : Nat := (World.holding Tryd.prog default ⟨#[], #[], []⟩).heap.size
noncomputable def laidWorld (os : Os) : World :=
  let w0 := World.holding Tryd.prog os ⟨#[.cells #[.string tA] 182, .cells #[.string tB] 182, .cells #[.string tC] 182, .cells #[.string tD] 182], #[], []⟩
  { w0 with heap := (((w0.heap.modify 2 fun
      | .cells _ t frozen => .cells #[errV ⟨low, 0, none⟩] t frozen
      | o => o).modify 3 fun
      | .cells _ t frozen => .cells #[errV ⟨low + 1, 0, none⟩] t frozen
      | o => o).modify 0 fun
      | .cells _ t frozen => .cells #[errV ⟨low + 2, 0, none⟩] t frozen
      | o => o).modify 1 fun
      | .cells _ t frozen => .cells #[errV ⟨low + 3, 0, none⟩] t frozen
      | o => o }
theorem laid_met (os : Os) (args : Array Value) : laidMet Tryd.prog laidList ((laidWorld os).forCall (fun _ _ => 0) ⟨#[], args, []⟩).memory :=
  laidMet_of_run (ps := [.cell 2 0, .cell low 0, .cell 3 0, .cell (low + 1) 0, .cell 0 0, .cell (low + 2) 0, .cell 1 0, .cell (low + 3) 0]) 8 (by kernel_rfl) (by kernel_rfl) (by kernel_rfl)
end Go.Proofs.YtjpnbkdhmjgdgaaDoor

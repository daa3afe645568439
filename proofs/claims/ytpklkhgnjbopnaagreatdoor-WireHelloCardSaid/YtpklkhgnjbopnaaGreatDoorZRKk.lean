/- What rows have in common: requests and replies opened, the two sentinels of field, beside the tables of unicode/utf8. What rows have in common: a key opened, beside series and items. -/
import Derived.Lib.LaidTab
import Derived.Lib.LaidU8T
import Derived.Stop.LaidTwo
import Derived.Test.YtpklkhgnjbopnaaGreatDoorZWsh
namespace Go.Proofs.YtpklkhgnjbopnaaGreatDoor
open Go Go.ChangeShapes Go.WideShapes Go.ChangeAt Go.RowKit Go.Lib Go.Deep Go.Shelf
def laidV : List (String × DataW Unit) := [("unicode/utf8.acceptRanges", Rows.laid_unicode_utf8_acceptRanges), ("aviary/field.errMore", Rows.laid_aviary_field_errMore), ("aviary/field.errField", Rows.laid_aviary_field_errField), ("unicode/utf8.first", Rows.laid_unicode_utf8_first)]
theorem starX : "*" ++ "errors.errorString" = "*errors.errorString" := by decide
theorem rowErrX (u : TypeId) (h : Tryz.prog.typeName? 3 u = some "*errors.errorString") : u = 532 :=
 typeName_ptr_named (nm := "errors.errorString") (by rw [starX]; kernel_rfl) (by kernel_rfl) (by decide) u (by rw [starX]; exact h)
theorem gAX : Tryz.prog.globalNamed "aviary/field.errMore" = some 1 := by kernel_rfl
theorem gBX : Tryz.prog.globalNamed "aviary/field.errField" = some 2 := by kernel_rfl
theorem gf_of {W : World} (hL : laidMet Tryz.prog laidV W) (hS : W.ShapedOpen Tryz.prog) : ∃ fm ff, GF fm ff W := by
 have hL' : laidMet Tryz.prog (("aviary/field.errMore", Rows.laid_aviary_field_errMore) :: ("aviary/field.errField", Rows.laid_aviary_field_errField) :: ("unicode/utf8.first", Rows.laid_unicode_utf8_first) :: []) W := hL.tail
 obtain ⟨a0, a1, s0, s1, c0, c1, t0, t1, hv0, hv1, -, -, -, -, -, -, hne, hb0, hb1⟩ := laid_sentinels2 hL' gAX (by kernel_rfl : (Tryz.prog.globals[1]?).map (·.type) = some 88) gBX (by kernel_rfl) Tryz.underlying88 rowErrX Tryz.underlying532 Tryz.underlying630 rfl rfl undStr (by kernel_rfl) (by kernel_rfl)
 have k0 : W.cell? ⟨1, 0, none⟩ = some (errV a0) := by simpa using World.var?_cell gAX hv0 0
 have k1 : W.cell? ⟨2, 0, none⟩ = some (errV a1) := by simpa using World.var?_cell gBX hv1 0
 exact ⟨a0, a1, k0, k1, fun h => hne h.symm, ⟨_, _, hb0⟩, ⟨_, _, hb1⟩, size_of hS⟩
theorem fr_gt {W : World} (h : GT W) : Fr.GT W := h
def laidX : List (String × DataW Unit) := [("unicode/utf8.acceptRanges", Rows.laid_unicode_utf8_acceptRanges), eT, ("aviary/field.errMore", Rows.laid_aviary_field_errMore), ("aviary/field.errField", Rows.laid_aviary_field_errField), ("unicode/utf8.first", Rows.laid_unicode_utf8_first)]
theorem metX {W : World} (h : laidMetH Tryz.prog laidX W) : laidMet Tryz.prog laidV W ∧ handlesMet Tryz.prog [eT] W := h
abbrev tAX : ByteArray := { data := #[102, 105, 101, 108, 100, 58, 32, 98, 121, 116, 101, 115, 32, 97, 114, 101, 32, 109, 105, 115, 115, 105, 110, 103] }
abbrev tBX : ByteArray := { data := #[102, 105, 101, 108, 100, 58, 32, 116, 104, 101, 115, 101, 32, 98, 121, 116, 101, 115, 32, 97, 114, 101, 32, 110, 111, 110, 101] }
noncomputable def lowX : Nat := (World.holding Tryz.prog default ⟨#[], #[], []⟩).heap.size
noncomputable def laidWorldX (os : Os) : World :=
 let w0 := World.holding Tryz.prog os ⟨#[.cells #[.string tAX] 630, .cells #[.string tBX] 630], #[], []⟩
 { w0 with heap := ((((w0.heap.modify 0 typeCell).modify 1 fun
   | .cells _ t frozen => .cells #[errV ⟨lowX, 0, none⟩] t frozen
   | o => o).modify 2 fun
   | .cells _ t frozen => .cells #[errV ⟨lowX + 1, 0, none⟩] t frozen
   | o => o).modify 4 fun
   | .cells _ t frozen => .cells (firstTab.map (Value.int .u8)).toArray t frozen
   | o => o).modify 5 fun
   | .cells _ t frozen => .cells ((List.range 16).flatMap fun i => [Value.int .u8 (accLo i), Value.int .u8 (accHi i)]).toArray t frozen
   | o => o }
theorem laid_metX (os : Os) (args : Array Value) : laidMetH Tryz.prog laidX ((laidWorldX os).forCall (fun _ _ => 0) ⟨#[], args, []⟩).memory :=
 laidMetH_of_parts (show laidMet Tryz.prog laidV _ from laidMet_of_run' 8 (by kernel_rfl) (by kernel_rfl)) (by kernel_rfl)
end Go.Proofs.YtpklkhgnjbopnaaGreatDoor
namespace Go.Proofs.YtpklkhgnjbopnaaGreatDoor
open Go Go.ChangeShapes Go.WideShapes Go.ChangeAt Go.RowKit Go.Lib Go.Deep Go.Shelf
section
variable {H : Type} {enc : TypeId × Value → H} {w : World} {base : Nat} {held : Bool}
set_option maxRecDepth 100000 in
theorem key_elem (n : Nat) (cs : List Value) (x : DataW H × List MemPlace) (h : DataW.trod enc Tryz.prog w base (fun _ => true) held n 24 cs = some x) : ∃ A B : Int, cs = [.int .u64 A, .int .u64 B] ∧ U64 A ∧ U64 B := by
 obtain ⟨hl, m, hf⟩ := struct_cells Tryz.underlying24 (by kernel_rfl) (by kernel_rfl) h
 obtain ⟨v0, y0, e0, h0⟩ := hf 0 _ rfl
 obtain ⟨v1, y1, e1, h1⟩ := hf 1 _ rfl
 obtain ⟨s0, c0, -, w0⟩ := DataW.trod_int undU64 h0
 obtain ⟨s1, c1, -, w1⟩ := DataW.trod_int undU64 h1
 match cs, hl with
 | [a, b], _ =>
  simp only [List.getElem?_cons_zero, List.getElem?_cons_succ, Option.some.injEq, List.cons.injEq, and_true] at e0 e1 c0 c1
  exact ⟨s0, s1, by rw [e0, e1, c0, c1], wf_u64 w0, wf_u64 w1⟩
set_option maxRecDepth 100000 in
theorem open_key {r : Reach} {b0 : Nat} {v : Value} {d : DataW H} {p : List MemPlace} (hv : Value.okWide Tryz.prog w r b0 24 v) (h : DataW.Trod enc Tryz.prog w base (fun _ => true) held 24 v d p) :
  ∃ A B : Int, v = .agg #[.int .u64 A, .int .u64 B] ∧ U64 A ∧ U64 B := by
 obtain ⟨cs, rfl, -⟩ := okWide_struct Tryz.underlying24 hv
 obtain ⟨fuel, hf⟩ := h
 obtain ⟨A, B, h1, h2⟩ := key_elem _ _ _ hf
 refine ⟨A, B, ?_, h2⟩
 have h1' : cs.toList = [.int .u64 A, .int .u64 B] := h1
 rw [← Array.toArray_toList (xs := cs), h1']
end
end Go.Proofs.YtpklkhgnjbopnaaGreatDoor

/- Law WireBack: what is put and got, as functions of the plain data. What rows have in common: requests and replies opened, the two sentinels of field, beside the tables of unicode/utf8. References: aviaryref02: what Put gives, as bytes; size, number, Get, GetText, PutText. References: aviaryref02.Get. References: aviaryref02.GetText, PutText; the reader of aviaryref20. -/
import Derived.Lib.LaidTab
import Derived.Lib.LaidU8T
import Derived.Stop.LaidTwo
import Derived.Test.YtpklkhgnjbopnaaGreatDoorVWsh
namespace Go.Proofs.YtpklkhgnjbopnaaGreatDoor
open Go Go.RowKit Go.Shelf
def zRq : Rq := ⟨0, 0, ⟨#[]⟩, ⟨#[]⟩, 0, [], 0, 0, 0, []⟩
def zRy : Ry := ⟨0, 0, [], []⟩
def prA (r : Rq) : ByteArray := if r.ok then ⟨r.B.toArray⟩ else ⟨#[]⟩
def prE (r : Rq) : Int := if r.ok then 0 else 200
def pyA (y : Ry) : ByteArray := if y.ok then ⟨y.B.toArray⟩ else ⟨#[]⟩
def pyE (y : Ry) : Int := if y.ok then 0 else 200
def grQ (l : List UInt8) : Rq := (getRq l).getD zRq
def grE (l : List UInt8) : Int := if (getRq l).isSome then 0 else 200
def gyQ (l : List UInt8) : Ry := (getRy l).getD zRy
def gyE (l : List UInt8) : Int := if (getRy l).isSome then 0 else 200
theorem u64_zero : U64 0 := ⟨by decide, by decide⟩
theorem zRq_wf : zRq.Wf := ⟨u64_zero, (fun i hi => by cases hi), u64_zero, u64_zero, u64_zero, (fun i hi => by cases hi)⟩
structure Rq.Sm (r : Rq) : Prop where
 wf : r.Wf
 l : r.labels.size ≤ 410
 s : r.scope.size ≤ 410
structure Ry.Sm (y : Ry) : Prop where
 wf : y.Wf
 t : ∀ x ∈ y.ents, x.text.size ≤ 410
theorem rq_ok_sizes {r : Rq} (h : r.ok = true) : r.labels.size ≤ 400 ∧ r.scope.size ≤ 400 ∧ r.items.length ≤ 50 ∧ r.tens.length ≤ 8 := by
 unfold Rq.ok at h
 simp only [Bool.and_eq_true, decide_eq_true_eq] at h
 obtain ⟨⟨⟨⟨⟨⟨⟨_, _⟩, _⟩, _⟩, h5⟩, h6⟩, h7⟩, h8⟩ := h
 exact ⟨h7, h8, h5, h6⟩
theorem ry_ok_sizes {y : Ry} (h : y.ok = true) : y.nots.length ≤ 100 ∧ y.ents.length ≤ 100 ∧ ∀ x ∈ y.ents, x.text.size ≤ 400 := by
 simp only [Ry.ok, Bool.and_eq_true, decide_eq_true_eq, List.all_eq_true] at h
 obtain ⟨⟨⟨⟨h1, h2⟩, h3⟩, h4⟩, h5⟩ := h
 exact ⟨h2, h3, h5⟩
theorem grQ_sm (l : List UInt8) : (grQ l).Sm := by
 unfold grQ
 cases h : getRq l with
 | none => exact ⟨zRq_wf, by decide, by decide⟩
 | some q =>
  obtain ⟨h1, h2, -⟩ := getRq_inv h
  obtain ⟨h3, h4, -, -⟩ := rq_ok_sizes h1
  exact ⟨h2, by show q.labels.size ≤ 410; omega, by show q.scope.size ≤ 410; omega⟩
theorem PutReq_fn (r : Rq) (ia : Option Addr) (ic : Nat) (ta : Option Addr) (tc : Nat) (w : World) (h : r.Sm) (hI : SlE encIt 2 w.heap.size w ia r.items.length r.items) (hT : SlE encU 1 w.heap.size w ta r.tens.length r.tens) :
  CR 19 #[.agg (rqV r ia ic ta tc)] w (.tuple #[.string (prA r), .int .i64 (prE r)]) := PutReq_any r ia ic ta tc w h.wf (by have := h.l; omega) (by have := h.s; omega) hI hT
theorem PutReply_fn (y : Ry) (na : Option Addr) (nc : Nat) (ea : Option Addr) (ec : Nat) (w : World) (h : y.Sm) (hI : SlE encI 1 w.heap.size w na y.nots.length y.nots) (hE : SlE Ent.enc 4 w.heap.size w ea y.ents.length y.ents) :
  CR 21 #[.agg (ryV y na nc ea ec)] w (.tuple #[.string (pyA y), .int .i64 (pyE y)]) := PutReply_any y na nc ea ec w h.wf.n (fun x hx => ⟨h.wf.ents x hx, by have := h.t x hx; omega⟩) hI hE
theorem GetReq_fn (s : ByteArray) (fm ff : Addr) (w : World) (hs : s.size < 4294967281) (hE : ∀ W, Below w.heap.size w W → GF fm ff W) :
  Calls Tryz.prog 23 #[.string s] w fun e w' => ∃ ia ic ta tc, e = .returned (.tuple #[.agg (rqV (grQ s.data.toList) ia ic ta tc), .int .i64 (grE s.data.toList)]) ∧ SlE encIt 2 w'.heap.size w' ia (grQ s.data.toList).items.length (grQ s.data.toList).items ∧ SlE encU 1 w'.heap.size w' ta (grQ s.data.toList).tens.length (grQ s.data.toList).tens ∧ Below w.heap.size w w' := by
 refine (GetReq_any s fm ff w hs hE).mono ?_
 rintro e w' ⟨h, hb⟩
 unfold grQ grE
 cases hg : getRq s.data.toList with
 | none =>
  rw [hg] at h
  obtain rfl : e = _ := h
  exact ⟨none, 0, none, 0, rfl, SlE.nil, SlE.nil, hb⟩
 | some q =>
  rw [hg] at h
  obtain ⟨ia, ic, ta, tc, rfl, h1, h2⟩ := h
  exact ⟨ia, ic, ta, tc, rfl, h1, h2, hb⟩
theorem GetReply_fn (s : ByteArray) (fm ff : Addr) (w : World) (hs : s.size < 4294967281) (hE : ∀ W, Below w.heap.size w W → GF fm ff W) :
  Calls Tryz.prog 25 #[.string s] w fun e w' => ∃ na nc ea ec, e = .returned (.tuple #[.agg (ryV (gyQ s.data.toList) na nc ea ec), .int .i64 (gyE s.data.toList)]) ∧ SlE encI 1 w'.heap.size w' na (gyQ s.data.toList).nots.length (gyQ s.data.toList).nots ∧ SlE Ent.enc 4 w'.heap.size w' ea (gyQ s.data.toList).ents.length (gyQ s.data.toList).ents ∧ Below w.heap.size w w' := by
 refine (GetReply_any s fm ff w hs hE).mono ?_
 rintro e w' ⟨h, hb⟩
 unfold gyQ gyE
 cases hg : getRy s.data.toList with
 | none =>
  rw [hg] at h
  obtain rfl : e = _ := h
  exact ⟨none, 0, none, 0, rfl, SlE.nil, SlE.nil, hb⟩
 | some q =>
  rw [hg] at h
  obtain ⟨na, nc, ea, ec, rfl, h1, h2⟩ := h
  exact ⟨na, nc, ea, ec, rfl, h1, h2, hb⟩
theorem fewRq_sm {r : Rq} (h : r.Wf) : (fewRq r).Sm := ⟨⟨h.now, (fun i hi => h.items i (List.mem_of_mem_take hi)), h.h, h.tnt, h.id, fun n hn => h.tens n (List.mem_of_mem_take hn)⟩, cutS_size _ _, cutS_size _ _⟩
theorem fewRy_sm {y : Ry} (h : y.Wf) : (fewRy y).Sm := by
 refine ⟨⟨h.n, fun x hx => ?_⟩, fun x hx => ?_⟩
 ·obtain ⟨z, hz, rfl⟩ := List.mem_map.1 hx
  exact h.ents z (List.mem_of_mem_take hz)
 ·obtain ⟨z, -, rfl⟩ := List.mem_map.1 hx
  exact cutS_size _ _
end Go.Proofs.YtpklkhgnjbopnaaGreatDoor
namespace Go.Proofs.YtpklkhgnjbopnaaGreatDoor
open Go Go.ChangeShapes Go.WideShapes Go.ChangeAt Go.RowKit Go.Lib Go.Deep Go.Shelf
section
variable {H : Type} {enc : TypeId × Value → H} {w : World} {base : Nat} {held : Bool}
theorem undErrno : Tryz.prog.underlying 27 = some (.int .i64) := by kernel_rfl
theorem u64_elemX (n : Nat) (cs : List Value) (x : DataW H × List MemPlace) (h : DataW.trod enc Tryz.prog w base (fun _ => true) held n 22 cs = some x) : ∃ y : Int, cs = encU y ∧ U64 y := by
 obtain ⟨s0, c0, -, w0⟩ := DataW.trod_int undU64 h
 exact ⟨s0, c0, wf_u64 w0⟩
theorem int_elemX (n : Nat) (cs : List Value) (x : DataW H × List MemPlace) (h : DataW.trod enc Tryz.prog w base (fun _ => true) held n 3 cs = some x) : ∃ y : Int, cs = encI y ∧ True := by
 obtain ⟨s0, c0, -, w0⟩ := DataW.trod_int undInt h
 exact ⟨s0, c0, trivial⟩
set_option maxRecDepth 100000 in
theorem ent_elemX (n : Nat) (cs : List Value) (x : DataW H × List MemPlace) (h : DataW.trod enc Tryz.prog w base (fun _ => true) held n 116 cs = some x) : ∃ y : Ent, cs = Ent.enc y ∧ (U64 y.seq ∧ U64 y.tm ∧ U64 y.sum) := by
 obtain ⟨hl, m, hf⟩ := struct_cells Tryz.underlying116 (by kernel_rfl) (by kernel_rfl) h
 obtain ⟨v0, y0, e0, h0⟩ := hf 0 _ rfl
 obtain ⟨v1, y1, e1, h1⟩ := hf 1 _ rfl
 obtain ⟨v2, y2, e2, h2⟩ := hf 2 _ rfl
 obtain ⟨v3, y3, e3, h3⟩ := hf 3 _ rfl
 obtain ⟨s0, c0, -, w0⟩ := DataW.trod_int undU64 h0
 obtain ⟨s1, c1, -, w1⟩ := DataW.trod_int undU64 h1
 obtain ⟨s2, c2, -, -⟩ := DataW.trod_string undStr h2
 obtain ⟨s3, c3, -, w3⟩ := DataW.trod_int undU64 h3
 match cs, hl with
 | [a, b, c, d], _ =>
  simp only [List.getElem?_cons_zero, List.getElem?_cons_succ, Option.some.injEq, List.cons.injEq, and_true] at e0 e1 e2 e3 c0 c1 c2 c3
  exact ⟨⟨s0, s1, s2, s3⟩, by rw [e0, e1, e2, e3, c0, c1, c2, c3]; rfl, wf_u64 w0, wf_u64 w1, wf_u64 w3⟩
set_option maxRecDepth 100000 in
theorem open_req {r : Reach} {b0 : Nat} {v : Value} {d : DataW H} {p : List MemPlace} (hv : Value.okWide Tryz.prog w r b0 56 v) (h : DataW.Trod enc Tryz.prog w base (fun _ => true) held 56 v d p) :
  ∃ (q : Rq) (ia : Option Addr) (ic : Nat) (ta : Option Addr) (tc : Nat), v = .agg (rqV q ia ic ta tc) ∧ q.Wf ∧ q.items.length ≤ ic ∧ q.tens.length ≤ tc ∧ SlE encIt 2 w.heap.size w ia q.items.length q.items ∧ SlE encU 1 w.heap.size w ta q.tens.length q.tens := by
 obtain ⟨cs, rfl, -⟩ := okWide_struct Tryz.underlying56 hv
 obtain ⟨fuel, hf⟩ := h
 change DataW.trod enc Tryz.prog w base (fun _ => true) held fuel 56 cs.toList = _ at hf
 obtain ⟨hl, m, hf⟩ := struct_cells Tryz.underlying56 (by kernel_rfl) (by kernel_rfl) hf
 obtain ⟨v0, y0, e0, h0⟩ := hf 0 _ rfl
 obtain ⟨v1, y1, e1, h1⟩ := hf 1 _ rfl
 obtain ⟨v2, y2, e2, h2⟩ := hf 2 _ rfl
 obtain ⟨v3, y3, e3, h3⟩ := hf 3 _ rfl
 obtain ⟨v4, y4, e4, h4⟩ := hf 4 _ rfl
 obtain ⟨v5, y5, e5, h5⟩ := hf 5 _ rfl
 obtain ⟨v6, y6, e6, h6⟩ := hf 6 _ rfl
 obtain ⟨v7, y7, e7, h7⟩ := hf 7 _ rfl
 obtain ⟨v8, y8, e8, h8⟩ := hf 8 _ rfl
 obtain ⟨v9, y9, e9, h9⟩ := hf 9 _ rfl
 obtain ⟨s0, c0, -, -⟩ := DataW.trod_int undInt h0
 obtain ⟨s1, c1, -, w1⟩ := DataW.trod_int undU64 h1
 obtain ⟨s2, c2, -, -⟩ := DataW.trod_string undStr h2
 obtain ⟨s3, c3, -, -⟩ := DataW.trod_string undStr h3
 obtain ⟨s4, c4, -, -⟩ := DataW.trod_int undInt h4
 obtain ⟨ia, il, ic, its, c5, S5, U5⟩ := slC_open (k := 2) (encA := encIt) (by omega) Tryz.underlying53 (by kernel_rfl) item_elem h5
 obtain ⟨s6, c6, -, w6⟩ := DataW.trod_int undU64 h6
 obtain ⟨s7, c7, -, w7⟩ := DataW.trod_int undU64 h7
 obtain ⟨s8, c8, -, w8⟩ := DataW.trod_int undU64 h8
 obtain ⟨ta, tl, tc, ts, c9, S9, U9⟩ := slC_open (k := 1) (encA := encU) (by omega) Tryz.underlying54 (by kernel_rfl) u64_elemX h9
 obtain rfl : il = its.length := S5.1.1
 obtain rfl : tl = ts.length := S9.1.1
 refine ⟨⟨s0, s1, s2, s3, s4, its, s6, s7, s8, ts⟩, ia, ic, ta, tc, ?_, ⟨wf_u64 w1, fun i hi => ?_, wf_u64 w6, wf_u64 w7, wf_u64 w8, fun n hn => U9 n hn⟩, S5.2.1, S9.2.1, S5.1, S9.1⟩
 ·have hl' : cs.toList.length = 10 := hl
  generalize hcs : cs.toList = l at *
  match l, hl' with
  | [a0, a1, a2, a3, a4, a5, a6, a7, a8, a9], _ =>
   simp only [List.getElem?_cons_zero, List.getElem?_cons_succ, Option.some.injEq, List.cons.injEq, and_true] at e0 e1 e2 e3 e4 e5 e6 e7 e8 e9 c0 c1 c2 c3 c4 c6 c7 c8
   rw [← Array.toArray_toList (xs := cs), hcs, e0, e1, e2, e3, e4, e5, e6, e7, e8, e9, c0, c1, c2, c3, c4, c5, c6, c7, c8, c9]
   rfl
 ·have h9 := U5 i hi
  unfold Item.ok at h9
  exact ⟨⟨by omega, by have := h9.1; omega⟩, h9.2⟩
set_option maxRecDepth 100000 in
theorem open_reply {r : Reach} {b0 : Nat} {v : Value} {d : DataW H} {p : List MemPlace} (hv : Value.okWide Tryz.prog w r b0 60 v) (h : DataW.Trod enc Tryz.prog w base (fun _ => true) held 60 v d p) :
  ∃ (q : Ry) (na : Option Addr) (nc : Nat) (ea : Option Addr) (ec : Nat), v = .agg (ryV q na nc ea ec) ∧ q.Wf ∧ q.nots.length ≤ nc ∧ SlE encI 1 w.heap.size w na q.nots.length q.nots ∧ SlE Ent.enc 4 w.heap.size w ea q.ents.length q.ents := by
 obtain ⟨cs, rfl, -⟩ := okWide_struct Tryz.underlying60 hv
 obtain ⟨fuel, hf⟩ := h
 change DataW.trod enc Tryz.prog w base (fun _ => true) held fuel 60 cs.toList = _ at hf
 obtain ⟨hl, m, hf⟩ := struct_cells Tryz.underlying60 (by kernel_rfl) (by kernel_rfl) hf
 obtain ⟨v0, y0, e0, h0⟩ := hf 0 _ rfl
 obtain ⟨v1, y1, e1, h1⟩ := hf 1 _ rfl
 obtain ⟨v2, y2, e2, h2⟩ := hf 2 _ rfl
 obtain ⟨v3, y3, e3, h3⟩ := hf 3 _ rfl
 obtain ⟨s0, c0, -, -⟩ := DataW.trod_int undErrno h0
 obtain ⟨s1, c1, -, w1⟩ := DataW.trod_int undU64 h1
 obtain ⟨na, nl, nc, ns, c2, S2, -⟩ := slC_open (k := 1) (encA := encI) (by omega) Tryz.underlying57 (by kernel_rfl) int_elemX h2
 obtain ⟨ea, el, ec, es, c3, S3, U3⟩ := slC_open (k := 4) (encA := Ent.enc) (by omega) Tryz.underlying58 (by kernel_rfl) ent_elemX h3
 obtain rfl : nl = ns.length := S2.1.1
 obtain rfl : el = es.length := S3.1.1
 refine ⟨⟨s0, s1, ns, es⟩, na, nc, ea, ec, ?_, ⟨wf_u64 w1, fun x hx => U3 x hx⟩, S2.2.1, S2.1, S3.1⟩
 have hl' : cs.toList.length = 4 := hl
 generalize hcs : cs.toList = l at *
 match l, hl' with
 | [a0, a1, a2, a3], _ =>
  simp only [List.getElem?_cons_zero, List.getElem?_cons_succ, Option.some.injEq, List.cons.injEq, and_true] at e0 e1 e2 e3 c0 c1
  rw [← Array.toArray_toList (xs := cs), hcs, e0, e1, e2, e3, c0, c1, c2, c3]
  rfl
end
def laidV : List (String × DataW Unit) := [("unicode/utf8.acceptRanges", Rows.laid_unicode_utf8_acceptRanges), ("aviary/field.errMore", Rows.laid_aviary_field_errMore), ("aviary/field.errField", Rows.laid_aviary_field_errField), ("unicode/utf8.first", Rows.laid_unicode_utf8_first)]
theorem starX : "*" ++ "errors.errorString" = "*errors.errorString" := by decide
theorem rowErrX (u : TypeId) (h : Tryz.prog.typeName? 3 u = some "*errors.errorString") : u = 532 :=
 typeName_ptr_named (nm := "errors.errorString") (by rw [starX]; kernel_rfl) (by kernel_rfl) (by decide) u (by rw [starX]; exact h)
theorem gAX : Tryz.prog.globalNamed "aviary/field.errMore" = some 1 := by kernel_rfl
theorem gBX : Tryz.prog.globalNamed "aviary/field.errField" = some 2 := by kernel_rfl
theorem gf_of {W : World} (hL : laidMet Tryz.prog laidV W) (hS : W.ShapedOpen Tryz.prog) : ∃ fm ff, GF fm ff W := by
 have hL' : laidMet Tryz.prog (("aviary/field.errMore", Rows.laid_aviary_field_errMore) :: ("aviary/field.errField", Rows.laid_aviary_field_errField) :: ("unicode/utf8.first", Rows.laid_unicode_utf8_first) :: []) W := hL.tail
 obtain ⟨a0, a1, s0, s1, c0, c1, t0, t1, hv0, hv1, -, -, -, -, -, -, hne, hb0, hb1⟩ := laid_sentinels2 hL' gAX (by kernel_rfl : (Tryz.prog.globals[1]?).map (·.type) = some 88) gBX (by kernel_rfl) Tryz.underlying88 rowErrX Tryz.underlying532 Tryz.underlying630 rfl rfl undStr (by kernel_rfl) (by kernel_rfl)
 have k0 : W.cell? ⟨1, 0, none⟩ = some (errV a0) := by simpa using World.var?_cell gAX hv0 0
 have k1 : W.cell? ⟨2, 0, none⟩ = some (errV a1) := by simpa using World.var?_cell gBX hv1 0
 exact ⟨a0, a1, k0, k1, fun h => hne h.symm, ⟨_, _, hb0⟩, ⟨_, _, hb1⟩, size_of hS⟩
theorem fr_gt {W : World} (h : GT W) : Fr.GT W := h
def laidX : List (String × DataW Unit) := [("unicode/utf8.acceptRanges", Rows.laid_unicode_utf8_acceptRanges), eT, ("aviary/field.errMore", Rows.laid_aviary_field_errMore), ("aviary/field.errField", Rows.laid_aviary_field_errField), ("unicode/utf8.first", Rows.laid_unicode_utf8_first)]
theorem metX {W : World} (h : laidMetH Tryz.prog laidX W) : laidMet Tryz.prog laidV W ∧ handlesMet Tryz.prog [eT] W := h
abbrev tAX : ByteArray := { data := #[102, 105, 101, 108, 100, 58, 32, 98, 121, 116, 101, 115, 32, 97, 114, 101, 32, 109, 105, 115, 115, 105, 110, 103] }
abbrev tBX : ByteArray := { data := #[102, 105, 101, 108, 100, 58, 32, 116, 104, 101, 115, 101, 32, 98, 121, 116, 101, 115, 32, 97, 114, 101, 32, 110, 111, 110, 101] }
noncomputable def lowX : Nat := (World.holding Tryz.prog default ⟨#[], #[], []⟩).heap.size
noncomputable def laidWorldX (os : Os) : World :=
 let w0 := World.holding Tryz.prog os ⟨#[.cells #[.string tAX] 630, .cells #[.string tBX] 630], #[], []⟩
 { w0 with heap := ((((w0.heap.modify 0 typeCell).modify 1 fun
   | .cells _ t frozen => .cells #[errV ⟨lowX, 0, none⟩] t frozen
   | o => o).modify 2 fun
   | .cells _ t frozen => .cells #[errV ⟨lowX + 1, 0, none⟩] t frozen
   | o => o).modify 4 fun
   | .cells _ t frozen => .cells (firstTab.map (Value.int .u8)).toArray t frozen
   | o => o).modify 5 fun
   | .cells _ t frozen => .cells ((List.range 16).flatMap fun i => [Value.int .u8 (accLo i), Value.int .u8 (accHi i)]).toArray t frozen
   | o => o }
theorem laid_metX (os : Os) (args : Array Value) : laidMetH Tryz.prog laidX ((laidWorldX os).forCall (fun _ _ => 0) ⟨#[], args, []⟩).memory :=
 laidMetH_of_parts (show laidMet Tryz.prog laidV _ from laidMet_of_run' 8 (by kernel_rfl) (by kernel_rfl)) (by kernel_rfl)
end Go.Proofs.YtpklkhgnjbopnaaGreatDoor
namespace Go.Proofs.YtpklkhgnjbopnaaGreatDoor
open Go Go.RowKit Go.Shelf
theorem gS_succ (n : Int) (k : Nat) : (gS n (k + 1)).data.toList = UInt8.ofNat (gB n k).toNat :: (gS n k).data.toList := by
 show (strOfNums [gB n k] ++ gS n k).data.toList = _
 rw [ByteArray.data_append, Array.toList_append, strOf_list]
 rfl
theorem gS_nil (n : Int) : (gS n 0).data.toList = [] := rfl
theorem gB_at (n : Int) (k : Nat) (c : Int) (h : ((256 ^ k : Nat) : Int) = c) : gB n k = n / c % 256 := by unfold gB; rw [h]
theorem putR_list (n : Int) (hn : U64 n) : (putR n).data.toList = numsB [n] := by
 obtain ⟨h0, h1⟩ := hn
 have b0 : ∀ m : Int, gB m 0 = m % 256 := fun m => by rw [gB_at m 0 1 rfl, Int.ediv_one]
 have b1 := gB_at n 1 256 rfl
 have b2 := gB_at n 2 65536 rfl
 have b3 := gB_at n 3 16777216 rfl
 have b4 := gB_at n 4 4294967296 rfl
 have b5 := gB_at n 5 1099511627776 rfl
 have b6 := gB_at n 6 281474976710656 rfl
 have b7 := gB_at n 7 72057594037927936 rfl
 rw [numsB_one]
 unfold putR
 by_cases c0 : n ≤ 240
 ·rw [if_pos c0, putNums_0 c0, gS_succ, gS_nil, b0, show n % 256 = n by omega]
  rfl
 rw [if_neg c0]
 by_cases c1 : n ≤ 2287
 ·rw [if_pos c1, putNums_1 ⟨by omega, c1⟩, ByteArray.data_append, Array.toList_append, gS_succ, gS_nil, gS_succ, gS_nil, b0, b0, show (241 + (n - 240) / 256) % 256 = 241 + (n - 240) / 256 by omega]
  rfl
 rw [if_neg c1]
 by_cases c2 : n ≤ 67823
 ·have e1 : gB (n - 2288) 1 = (n - 2288) / 256 % 256 := gB_at _ 1 256 rfl
  rw [if_pos c2, putNums_2 ⟨by omega, c2⟩, ByteArray.data_append, Array.toList_append, gS_succ, gS_nil, gS_succ, gS_succ, gS_nil, b0, b0, e1, show (249 : Int) % 256 = 249 by decide, show (n - 2288) / 256 % 256 = (n - 2288) / 256 by omega]
  rfl
 rw [if_neg c2, ByteArray.data_append, Array.toList_append, gS_succ, gS_nil, b0]
 clear c0 c1
 unfold sizeR
 by_cases c3 : n < 16777216
 ·rw [if_pos c3, putNums_3 ⟨by omega, by omega⟩]
  simp only [gS_succ, gS_nil, b0, b1, b2, List.map_cons, List.map_nil]
  rw [show n / 65536 % 256 = n / 65536 by omega]
  rfl
 rw [if_neg c3]
 by_cases c4 : n < 4294967296
 ·rw [if_pos c4, putNums_4 ⟨by omega, by omega⟩]
  simp only [gS_succ, gS_nil, b0, b1, b2, b3, List.map_cons, List.map_nil]
  rw [show n / 16777216 % 256 = n / 16777216 by omega]
  rfl
 rw [if_neg c4]
 by_cases c5 : n < 1099511627776
 ·rw [if_pos c5, putNums_5 ⟨by omega, by omega⟩]
  simp only [gS_succ, gS_nil, b0, b1, b2, b3, b4, List.map_cons, List.map_nil]
  rw [show n / 4294967296 % 256 = n / 4294967296 by omega]
  rfl
 rw [if_neg c5]
 by_cases c6 : n < 281474976710656
 ·rw [if_pos c6, putNums_6 ⟨by omega, by omega⟩]
  simp only [gS_succ, gS_nil, b0, b1, b2, b3, b4, b5, List.map_cons, List.map_nil]
  rw [show n / 1099511627776 % 256 = n / 1099511627776 by omega]
  rfl
 rw [if_neg c6]
 by_cases c7 : n < 72057594037927936
 ·rw [if_pos c7, putNums_7 ⟨by omega, by omega⟩]
  simp only [gS_succ, gS_nil, b0, b1, b2, b3, b4, b5, b6, List.map_cons, List.map_nil]
  rw [show n / 281474976710656 % 256 = n / 281474976710656 by omega]
  rfl
 rw [if_neg c7, putNums_8 (by omega)]
 simp only [gS_succ, gS_nil, b0, b1, b2, b3, b4, b5, b6, b7, List.map_cons, List.map_nil]
 rw [show n / 72057594037927936 % 256 = n / 72057594037927936 by omega]
 rfl
theorem putR_eq (n : Int) (hn : U64 n) : putR n = ⟨(numsB [n]).toArray⟩ := by
 apply ByteArray.ext
 apply Array.toList_inj.1
 rw [putR_list n hn]
theorem refSize_any (f : Nat) (w : World) (hf : f < 256) : Calls Tryz.prog 115 #[.int .i64 f] w fun e w' => e = .returned (.int .i64 (behindN f + 1 : Nat)) ∧ w' = w := by
 unfold behindN
 have i0 : (0 : Int) ≤ (f : Int) := by omega
 by_cases c0 : f ≤ 240
 ·rw [if_pos c0]
  have g0 : decide ((f : Int) ≤ 240) = true := decide_eq_true (by omega)
  have j0 : (f : Int) ≤ 240 := by omega
  go_enter Tryz.func115, Tryz.ntmps115
  go_wp2_with fail
  go_ret
  exact ⟨rfl, rfl⟩
 rw [if_neg c0]
 have j0 : ¬ (f : Int) ≤ 240 := by omega
 by_cases c1 : f ≤ 248
 ·rw [if_pos c1]
  have j1 : (f : Int) ≤ 248 := by omega
  go_enter Tryz.func115, Tryz.ntmps115
  go_wp2_with fail
  go_ret
  exact ⟨rfl, rfl⟩
 rw [if_neg c1]
 have j1 : ¬ (f : Int) ≤ 248 := by omega
 have j2 : (f : Int) ≤ 255 := by omega
 have e : ((if f = 249 then 2 else f - 247) + 1 : Nat) = f - 246 := by split <;> omega
 rw [e]
 have HE : Hid (((f - 246 : Nat) : Int) = (f : Int) - 246) := by rw [Hid]; omega
 rw [HE.out]
 clear c0 c1 e
 go_enter Tryz.func115, Tryz.ntmps115
 go_wp2_with fail
 go_ret
 exact ⟨rfl, rfl⟩
set_option maxHeartbeats 1000000 in
theorem refNumber_any (s : ByteArray) (hs : s.size ≤ 8) (w : World) :
  Calls Tryz.prog 116 #[.string s] w fun e w' => e = .returned (.int .u64 (beGo 0 s.data.toList)) ∧ w' = w := by
 go_enter Tryz.func116, Tryz.ntmps116
 go_wp2_with fail
 go_loopw [3, 4] (fun n i wr => ∃ k : Nat, n = .int .u64 (beGo 0 (s.data.toList.take k)) ∧ i = .int .i64 k ∧ k ≤ s.size ∧ wr = w) (fun _ i _ => s.size - (intOf i).toNat)
 case atStart => exact ⟨0, rfl, rfl, Nat.zero_le _, rfl⟩
 case round =>
  obtain ⟨k, rfl, rfl, hk, rfl⟩ := hrel
  by_cases hlt : k < s.size
  ·have hB := beGo_le (s.data.toList.take k) 0 (Int.le_refl _)
   have hl : (s.data.toList.take k).length = k := by rw [List.length_take, Array.length_toList]; exact Nat.min_eq_left hk
   rw [hl] at hB
   obtain ⟨m, hm⟩ : ∃ m, beGo 0 (s.data.toList.take k) = m := ⟨_, rfl⟩
   have HS : Hid (beGo 0 (s.data.toList.take (k + 1)) = m * 256 + ((s[k]'hlt).toNat : Int)) := by
    rw [Hid, take_byte s k hlt, beGo_snoc, hm]
   rw [hm] at hB ⊢
   have hm0 := hB.1
   have hm1 : m ≤ 72057594037927935 := by
    have h7 : (256 : Int) ^ k ≤ 256 ^ 7 := by
     rcases (by omega : k = 0 ∨ k = 1 ∨ k = 2 ∨ k = 3 ∨ k = 4 ∨ k = 5 ∨ k = 6 ∨ k = 7) with rfl | rfl | rfl | rfl | rfl | rfl | rfl | rfl <;> decide
    have h8 : (256 : Int) ^ 7 = 72057594037927936 := by decide
    rw [h8] at h7
    have := hB.2
    omega
   have hx := UInt8.toNat_lt (s[k]'hlt)
   obtain ⟨x, hx2⟩ : ∃ x : Nat, (s[k]'hlt).toNat = x := ⟨_, rfl⟩
   have hw1 : IntKind.u64.wrap (256 * m) = 256 * m := by rw [IntKind.wrap_u64]; omega
   have hw2 : IntKind.u64.wrap (256 * m + ((s[k]'hlt).toNat : Int)) = 256 * m + ((s[k]'hlt).toNat : Int) := by rw [IntKind.wrap_u64]; omega
   have hq : 256 * m % 18446744073709551616 = 256 * m := by omega
   have hq2 : (256 * m + ((s[k]'hlt).toNat : Int)) % 18446744073709551616 = 256 * m + ((s[k]'hlt).toNat : Int) := by omega
   clear hB hl hm hx hx2
   go_wp2_with fail
   refine ⟨⟨k + 1, ?_, by go_num, by omega, trivial⟩, by simp [intOf]; omega⟩
   rw [HS.out, Int.mul_comm m 256]
  ·obtain rfl : k = s.size := by omega
   go_wp2_with fail
   go_ret
   exact ⟨by show Ending.returned (.int .u64 _) = _; rw [List.take_of_length_le (by rw [Array.length_toList]; exact Nat.le_refl _)], rfl⟩
end Go.Proofs.YtpklkhgnjbopnaaGreatDoor
namespace Go.Proofs.YtpklkhgnjbopnaaGreatDoor
open Go Go.RowKit Go.Shelf
theorem str_ne {a b : ByteArray} (h : a ≠ b) : (a.toList == b.toList) = false := by
 rw [beq_eq_false_iff_ne]
 intro e
 apply h
 rw [Lib.toList_data, Lib.toList_data] at e
 exact ByteArray.ext (Array.ext' e)
set_option maxRecDepth 100000 in
set_option maxHeartbeats 2000000 in
theorem refGet_any (s : ByteArray) (w : World) (hs : s.size < 4294967281) : CR 92 #[.string s] w (getRes s (getN s.data.toList)) := by
 by_cases h0 : s.size = 0
 ·have he2 : s.toList.isEmpty = true := by rw [toList_isEmpty, h0]; rfl
  have hne : s.toList = [] := List.isEmpty_iff.1 he2
  have hz : s.data.toList = [] := List.eq_nil_of_length_eq_zero (by rw [Array.length_toList]; exact h0)
  rw [hz]
  show CR _ _ w (.tuple #[.int .u64 0, .string s, .int .i64 20])
  clear hz hs h0
  go_enter Tryz.func92, Tryz.ntmps92
  go_wp2_with fail
  go_ret3
  exact ⟨rfl, Below.refl _ _⟩
 have hlt : 0 < s.size := by omega
 obtain ⟨f, hf⟩ : ∃ f, s[0]'hlt = f := ⟨_, rfl⟩
 obtain ⟨t, ht⟩ : ∃ t, s.extract 1 s.size = t := ⟨_, rfl⟩
 have hl := head_tail s t f hlt hf ht
 have he2 : s.toList.isEmpty = false := by
  rw [toList_isEmpty, beq_eq_false_iff_ne]
  omega
 have hne : ¬ s.toList = [] := by
  intro e
  rw [e] at he2
  cases he2
 have hf256 := UInt8.toNat_lt f
 have hb8 : behindN f.toNat ≤ 8 := by unfold behindN; split <;> (try split) <;> (try split) <;> omega
 have htl : t.data.toList.length + 1 = s.size := by
  have h1 : s.data.toList.length = s.size := Array.length_toList
  rw [hl, List.length_cons] at h1
  exact h1
 obtain ⟨K, hK⟩ : ∃ K, behindN f.toNat + 1 = K := ⟨_, rfl⟩
 have HSz : Hid (∀ V, Calls Tryz.prog 115 #[.int .i64 f.toNat] V fun e w' => e = .returned (.int .i64 K) ∧ w' = V) := fun V => by
  have := refSize_any f.toNat V hf256
  rwa [hK] at this
 rw [hl, getN]
 by_cases hm : t.data.toList.length < behindN f.toNat
 ·rw [if_pos hm]
  show CR _ _ w (.tuple #[.int .u64 0, .string s, .int .i64 20])
  have i1 : (s.size : Int) < (K : Int) := by omega
  clear hl htl hK hm ht hs h0 hb8
  go_enter Tryz.func92, Tryz.ntmps92
  go_wp2_with fail
  refine (HSz.out _).mono ?_
  rintro e w1 ⟨rfl, hw⟩
  have hw := hw.symm
  subst hw
  go_wp2_with fail
  go_ret3
  exact ⟨rfl, Below.refl _ _⟩
 rw [if_neg hm]
 have i1 : ¬ (s.size : Int) < (K : Int) := by omega
 have i2 : (K : Int) ≤ (s.size : Int) := by omega
 have i3 : (1 : Int) ≤ (K : Int) := by omega
 obtain ⟨ts, hts⟩ : ∃ ts, t.data.toList.take (behindN f.toNat) = ts := ⟨_, rfl⟩
 obtain ⟨n, hn⟩ : ∃ n, rawN f.toNat ts = n := ⟨_, rfl⟩
 have htsl : ts.length = behindN f.toNat := by rw [← hts, List.length_take]; omega
 have hu : U64 n := by rw [← hn]; exact rawN_u64 f ts htsl
 obtain ⟨q, hq⟩ : ∃ q, s.extract 1 K = q := ⟨_, rfl⟩
 have hql : q.data.toList = ts := by
  rw [← hq, ByteArray.data_extract, Array.toList_extract, hl, List.extract_eq_take_drop, ← hts, ← hK]
  rfl
 obtain ⟨p, hp⟩ : ∃ p, s.extract 0 K = p := ⟨_, rfl⟩
 have hpl : p.data.toList = f :: ts := by
  rw [← hp, ByteArray.data_extract, Array.toList_extract, hl, List.extract_eq_take_drop, ← hts, ← hK]
  rfl
 obtain ⟨r, hr⟩ : ∃ r, s.extract K s.size = r := ⟨_, rfl⟩
 have hrl : r.data.toList = t.data.toList.drop (behindN f.toNat) := by
  have h1 : s.size = s.data.toList.length := Array.length_toList.symm
  rw [← hr, ByteArray.data_extract, Array.toList_extract, List.extract_eq_take_drop, h1, hl, ← hK, List.drop_succ_cons]
  rw [List.take_of_length_le]
  rw [List.length_drop, List.length_cons]
  omega
 have HNu : Hid (∀ V, Calls Tryz.prog 116 #[.string q] V fun e w' => e = .returned (.int .u64 (beGo 0 ts)) ∧ w' = V) := fun V => by
  have h8 : q.size ≤ 8 := by
   have h1 : q.data.toList.length = q.size := Array.length_toList
   rw [hql, htsl] at h1
   omega
  have := refNumber_any q h8 V
  rwa [hql] at this
 have HP : Hid (∀ V, CR 57 #[.int .u64 n] V (.string ⟨(numsB [n]).toArray⟩)) := fun V => by
  rw [← putR_eq n hu]
  exact refPut_any n hu V
 have hcmp : (⟨(numsB [n]).toArray⟩ : ByteArray) = p ↔ (putNums n).length = 1 + behindN f.toNat := by
  constructor
  ·intro h
   have h1 : numsB [n] = f :: ts := by rw [← hpl, ← h]
   have h2 := congrArg List.length h1
   rw [numsB_one, List.length_map, List.length_cons, htsl] at h2
   omega
  ·intro h
   have hg : getN s.data.toList = .got n (t.data.toList.drop (behindN f.toNat)) := by
    rw [hl, getN]
    rw [if_neg hm, hts, hn, if_pos h]
   have h1 := getN_inv hg
   apply ByteArray.ext
   apply Array.toList_inj.1
   rw [hpl]
   show numsB [n] = f :: ts
   have h3 : (numsB [n] ++ t.data.toList.drop (behindN f.toNat)) = (f :: ts) ++ t.data.toList.drop (behindN f.toNat) := by
    rw [← h1, hl, ← hts, List.cons_append, List.take_append_drop]
   exact List.append_cancel_right h3
 have HV : Hid (if (putNums n).length = 1 + behindN f.toNat then (⟨(numsB [n]).toArray⟩ : ByteArray) = p ∧ getRes s (.got n (t.data.toList.drop (behindN f.toNat))) = .tuple #[.int .u64 n, .string r, .int .i64 0] else (⟨(numsB [n]).toArray⟩ : ByteArray) ≠ p) := by
  rw [Hid]
  split
  ·rename_i h
   refine ⟨hcmp.2 h, ?_⟩
   unfold getRes
   dsimp only
   rw [← hrl]
  ·rename_i h
   exact fun e => h (hcmp.1 e)
 rw [hts, hn]
 have hbg := beGo_le ts 0 (Int.le_refl _)
 rw [htsl] at hbg
 obtain ⟨z, hz⟩ : ∃ z, beGo 0 ts = z := ⟨_, rfl⟩
 rw [hz] at HNu hbg
 have hraw : (f.toNat ≤ 240 ∧ n = (f.toNat : Int)) ∨ (¬ f.toNat ≤ 240 ∧ f.toNat ≤ 248 ∧ n = 240 + 256 * ((f.toNat : Int) - 241) + z ∧ 0 ≤ z ∧ z < 256) ∨ (¬ f.toNat ≤ 240 ∧ ¬ f.toNat ≤ 248 ∧ f.toNat = 249 ∧ n = 2288 + z ∧ 0 ≤ z ∧ z < 65536) ∨ (¬ f.toNat ≤ 240 ∧ ¬ f.toNat ≤ 248 ∧ f.toNat ≠ 249 ∧ n = z) := by
  rw [← hn]
  unfold rawN
  rw [hz]
  by_cases c0 : f.toNat ≤ 240
  ·rw [if_pos c0]; exact .inl ⟨c0, rfl⟩
  rw [if_neg c0]
  by_cases c1 : f.toNat ≤ 248
  ·rw [if_pos c1]
   have hb1 : behindN f.toNat = 1 := by unfold behindN; rw [if_neg c0, if_pos c1]
   rw [hb1] at hbg
   exact .inr (.inl ⟨c0, c1, by omega, hbg.1, by have := hbg.2; omega⟩)
  rw [if_neg c1]
  by_cases c2 : f.toNat = 249
  ·rw [if_pos c2]
   have hb1 : behindN f.toNat = 2 := by unfold behindN; rw [if_neg c0, if_neg c1, if_pos c2]
   rw [hb1] at hbg
   exact .inr (.inr (.inl ⟨c0, c1, c2, by omega, hbg.1, by have := hbg.2; omega⟩))
  ·rw [if_neg c2]
   exact .inr (.inr (.inr ⟨c0, c1, c2, rfl⟩))
 obtain ⟨T, hT⟩ : ∃ T : ByteArray, ⟨(numsB [n]).toArray⟩ = T := ⟨_, rfl⟩
 rw [hT] at HP HV
 have hend : ∀ (g : NumR) (v : Value), (if (putNums n).length = 1 + behindN f.toNat then NumR.got n (t.data.toList.drop (behindN f.toNat)) else .bad) = g → (T = p ∧ v = .tuple #[.int .u64 n, .string r, .int .i64 0] ∨ T ≠ p ∧ v = .tuple #[.int .u64 0, .string s, .int .i64 21]) → getRes s g = v := by
  intro g v hg hv
  have h := HV.out
  split at hg
  ·rename_i h1
   rw [if_pos h1] at h
   rcases hv with ⟨-, rfl⟩ | ⟨h2, -⟩
   ·rw [← hg]; exact h.2
   ·exact absurd h.1 h2
  ·rename_i h1
   rw [if_neg h1] at h
   rcases hv with ⟨h2, -⟩ | ⟨-, rfl⟩
   ·exact absurd h2 h
   ·rw [← hg]; rfl
 obtain ⟨g, hg⟩ : ∃ g, (if (putNums n).length = 1 + behindN f.toNat then NumR.got n (t.data.toList.drop (behindN f.toNat)) else .bad) = g := ⟨_, rfl⟩
 rw [hg]
 obtain ⟨v, hv⟩ : ∃ v, getRes s g = v := ⟨_, rfl⟩
 have HE : Hid (T = p → v = .tuple #[.int .u64 n, .string r, .int .i64 0]) := fun h => by rw [← hv]; exact hend g _ hg (.inl ⟨h, rfl⟩)
 have HE' : Hid (T ≠ p → v = .tuple #[.int .u64 0, .string s, .int .i64 21]) := fun h => by rw [← hv]; exact hend g _ hg (.inr ⟨h, rfl⟩)
 rw [hv]
 obtain ⟨hu0, hu1⟩ := hu
 clear hend hg hv HV hcmp hrl hpl hql hz hbg htsl hn hts hm htl hK hl ht hs h0 hb8 hT
 have hcase : ((f.toNat : Int) ≤ 240 ∧ n = (f.toNat : Int)) ∨ (¬ (f.toNat : Int) ≤ 240 ∧ (f.toNat : Int) ≤ 248 ∧ n = 240 + 256 * ((f.toNat : Int) - 241) + z ∧ 0 ≤ z ∧ z < 256) ∨ (¬ (f.toNat : Int) ≤ 240 ∧ ¬ (f.toNat : Int) ≤ 248 ∧ (f.toNat : Int) = 249 ∧ n = 2288 + z ∧ 0 ≤ z ∧ z < 65536) ∨ (¬ (f.toNat : Int) ≤ 240 ∧ ¬ (f.toNat : Int) ≤ 248 ∧ ¬ (f.toNat : Int) = 249 ∧ n = z) := by omega
 clear hraw
 have hboth : (T = p ∧ v = .tuple #[.int .u64 n, .string r, .int .i64 0]) ∨ (T ≠ p ∧ v = .tuple #[.int .u64 0, .string s, .int .i64 21]) := by
  by_cases h : T = p
  ·exact .inl ⟨h, HE.out h⟩
  ·exact .inr ⟨h, HE'.out h⟩
 clear HE HE'
 rcases hcase with ⟨c0, rfl⟩ | ⟨c0, c1, rfl, z0, z1⟩ | ⟨c0, c1, c2, rfl, z0, z1⟩ | ⟨c0, c1, c2, rfl⟩
 ·rcases hboth with ⟨hTp, rfl⟩ | ⟨hTp, rfl⟩
  ·subst hTp
   go_enter Tryz.func92, Tryz.ntmps92
   go_wp2_with fail
   refine (HSz.out _).mono ?_
   rintro e w1 ⟨rfl, hw⟩
   have hw := hw.symm
   subst hw
   go_wp2_with fail
   refine (HSz.out _).mono ?_
   rintro e w1 ⟨rfl, hw⟩
   have hw := hw.symm
   subst hw
   go_wp2_with fail
   refine (HNu.out _).mono ?_
   rintro e w1 ⟨rfl, hw⟩
   have hw := hw.symm
   subst hw
   go_wp2_with fail
   let Inv0 : World → Prop := fun V => Below w.heap.size w V
   have hgo0 : ∀ V V', Inv0 V → Below V.heap.size V V' → Inv0 V' := fun V V' h hb => Below.trans h (hb.mono (Below.size h))
   have a0 : Hid (∀ X : WIn Inv0, Calls Tryz.prog 57 #[.int .u64 f.toNat] X.world fun e w' => e = .returned (.string T) ∧ ∃ Y : WIn Inv0, w' = Y.world) := fun X => calls_class_below hgo0 (HP.out X.world)
   have hQ0 : Hid (∀ X : WIn Inv0, Below w.heap.size w X.world) := fun X => X.ok
   have hI0 : Hid (Inv0 (World.drew w)) := (Below.refl _ _).drew
   have hne0 : Nonempty (WIn Inv0) := ⟨⟨_, hI0.out⟩⟩
   clear hgo0
   clear_value Inv0
   refine wp_region_class Inv0 (by kernel_rfl) (by kernel_rfl) hI0.out ?_
   repeat (first | go_big_quiet_step ((first | (go_at_call 57; with_reducible exact a0.out _))) | quiet_step ((first | (go_at_call 57; with_reducible exact a0.out _))))
   refine wpQuiet_nil ?_
   rintro _ ⟨X, rfl⟩
   have HB0 := Lib.hid (hQ0.out X)
   generalize X.world = w1 at HB0 ⊢
   clear a0 hQ0 hI0 hne0 X
   clear Inv0
   go_wp2_with fail
   go_quiet (fail)
   go_wp2_with fail
   go_ret3
   exact ⟨rfl, bDr HB0.out _⟩
  ·have hq3 := str_ne hTp
   clear hTp
   go_enter Tryz.func92, Tryz.ntmps92
   go_wp2_with fail
   refine (HSz.out _).mono ?_
   rintro e w1 ⟨rfl, hw⟩
   have hw := hw.symm
   subst hw
   go_wp2_with fail
   refine (HSz.out _).mono ?_
   rintro e w1 ⟨rfl, hw⟩
   have hw := hw.symm
   subst hw
   go_wp2_with fail
   refine (HNu.out _).mono ?_
   rintro e w1 ⟨rfl, hw⟩
   have hw := hw.symm
   subst hw
   go_wp2_with fail
   let Inv0 : World → Prop := fun V => Below w.heap.size w V
   have hgo0 : ∀ V V', Inv0 V → Below V.heap.size V V' → Inv0 V' := fun V V' h hb => Below.trans h (hb.mono (Below.size h))
   have a0 : Hid (∀ X : WIn Inv0, Calls Tryz.prog 57 #[.int .u64 f.toNat] X.world fun e w' => e = .returned (.string T) ∧ ∃ Y : WIn Inv0, w' = Y.world) := fun X => calls_class_below hgo0 (HP.out X.world)
   have hQ0 : Hid (∀ X : WIn Inv0, Below w.heap.size w X.world) := fun X => X.ok
   have hI0 : Hid (Inv0 (World.drew w)) := (Below.refl _ _).drew
   have hne0 : Nonempty (WIn Inv0) := ⟨⟨_, hI0.out⟩⟩
   clear hgo0
   clear_value Inv0
   refine wp_region_class Inv0 (by kernel_rfl) (by kernel_rfl) hI0.out ?_
   repeat (first | go_big_quiet_step ((first | (go_at_call 57; with_reducible exact a0.out _))) | quiet_step ((first | (go_at_call 57; with_reducible exact a0.out _))))
   refine wpQuiet_nil ?_
   rintro _ ⟨X, rfl⟩
   have HB0 := Lib.hid (hQ0.out X)
   generalize X.world = w1 at HB0 ⊢
   clear a0 hQ0 hI0 hne0 X
   clear Inv0
   go_wp2_with fail
   go_ret3
   exact ⟨rfl, HB0.out⟩
 ·rcases hboth with ⟨hTp, rfl⟩ | ⟨hTp, rfl⟩
  ·subst hTp
   go_enter Tryz.func92, Tryz.ntmps92
   go_wp2_with fail
   refine (HSz.out _).mono ?_
   rintro e w1 ⟨rfl, hw⟩
   have hw := hw.symm
   subst hw
   go_wp2_with fail
   refine (HSz.out _).mono ?_
   rintro e w1 ⟨rfl, hw⟩
   have hw := hw.symm
   subst hw
   go_wp2_with fail
   refine (HNu.out _).mono ?_
   rintro e w1 ⟨rfl, hw⟩
   have hw := hw.symm
   subst hw
   go_wp2_with fail
   let Inv0 : World → Prop := fun V => Below w.heap.size w V
   have hgo0 : ∀ V V', Inv0 V → Below V.heap.size V V' → Inv0 V' := fun V V' h hb => Below.trans h (hb.mono (Below.size h))
   have a0 : Hid (∀ X : WIn Inv0, Calls Tryz.prog 57 #[.int .u64 (240 + 256 * ((f.toNat : Int) - 241) + z)] X.world fun e w' => e = .returned (.string T) ∧ ∃ Y : WIn Inv0, w' = Y.world) := fun X => calls_class_below hgo0 (HP.out X.world)
   have hQ0 : Hid (∀ X : WIn Inv0, Below w.heap.size w X.world) := fun X => X.ok
   have hI0 : Hid (Inv0 (World.drew w)) := (Below.refl _ _).drew
   have hne0 : Nonempty (WIn Inv0) := ⟨⟨_, hI0.out⟩⟩
   clear hgo0
   clear_value Inv0
   refine wp_region_class Inv0 (by kernel_rfl) (by kernel_rfl) hI0.out ?_
   repeat (first | go_big_quiet_step ((first | (go_at_call 57; with_reducible exact a0.out _))) | quiet_step ((first | (go_at_call 57; with_reducible exact a0.out _))))
   refine wpQuiet_nil ?_
   rintro _ ⟨X, rfl⟩
   have HB0 := Lib.hid (hQ0.out X)
   generalize X.world = w1 at HB0 ⊢
   clear a0 hQ0 hI0 hne0 X
   clear Inv0
   go_wp2_with fail
   go_quiet (fail)
   go_wp2_with fail
   go_ret3
   exact ⟨rfl, bDr HB0.out _⟩
  ·have hq3 := str_ne hTp
   clear hTp
   go_enter Tryz.func92, Tryz.ntmps92
   go_wp2_with fail
   refine (HSz.out _).mono ?_
   rintro e w1 ⟨rfl, hw⟩
   have hw := hw.symm
   subst hw
   go_wp2_with fail
   refine (HSz.out _).mono ?_
   rintro e w1 ⟨rfl, hw⟩
   have hw := hw.symm
   subst hw
   go_wp2_with fail
   refine (HNu.out _).mono ?_
   rintro e w1 ⟨rfl, hw⟩
   have hw := hw.symm
   subst hw
   go_wp2_with fail
   let Inv0 : World → Prop := fun V => Below w.heap.size w V
   have hgo0 : ∀ V V', Inv0 V → Below V.heap.size V V' → Inv0 V' := fun V V' h hb => Below.trans h (hb.mono (Below.size h))
   have a0 : Hid (∀ X : WIn Inv0, Calls Tryz.prog 57 #[.int .u64 (240 + 256 * ((f.toNat : Int) - 241) + z)] X.world fun e w' => e = .returned (.string T) ∧ ∃ Y : WIn Inv0, w' = Y.world) := fun X => calls_class_below hgo0 (HP.out X.world)
   have hQ0 : Hid (∀ X : WIn Inv0, Below w.heap.size w X.world) := fun X => X.ok
   have hI0 : Hid (Inv0 (World.drew w)) := (Below.refl _ _).drew
   have hne0 : Nonempty (WIn Inv0) := ⟨⟨_, hI0.out⟩⟩
   clear hgo0
   clear_value Inv0
   refine wp_region_class Inv0 (by kernel_rfl) (by kernel_rfl) hI0.out ?_
   repeat (first | go_big_quiet_step ((first | (go_at_call 57; with_reducible exact a0.out _))) | quiet_step ((first | (go_at_call 57; with_reducible exact a0.out _))))
   refine wpQuiet_nil ?_
   rintro _ ⟨X, rfl⟩
   have HB0 := Lib.hid (hQ0.out X)
   generalize X.world = w1 at HB0 ⊢
   clear a0 hQ0 hI0 hne0 X
   clear Inv0
   go_wp2_with fail
   go_ret3
   exact ⟨rfl, HB0.out⟩
 ·rw [c2] at HSz
  rcases hboth with ⟨hTp, rfl⟩ | ⟨hTp, rfl⟩
  ·subst hTp
   go_enter Tryz.func92, Tryz.ntmps92
   go_wp2_with fail
   refine (HSz.out _).mono ?_
   rintro e w1 ⟨rfl, hw⟩
   have hw := hw.symm
   subst hw
   go_wp2_with fail
   refine (HSz.out _).mono ?_
   rintro e w1 ⟨rfl, hw⟩
   have hw := hw.symm
   subst hw
   go_wp2_with fail
   refine (HNu.out _).mono ?_
   rintro e w1 ⟨rfl, hw⟩
   have hw := hw.symm
   subst hw
   go_wp2_with fail
   let Inv0 : World → Prop := fun V => Below w.heap.size w V
   have hgo0 : ∀ V V', Inv0 V → Below V.heap.size V V' → Inv0 V' := fun V V' h hb => Below.trans h (hb.mono (Below.size h))
   have a0 : Hid (∀ X : WIn Inv0, Calls Tryz.prog 57 #[.int .u64 (2288 + z)] X.world fun e w' => e = .returned (.string T) ∧ ∃ Y : WIn Inv0, w' = Y.world) := fun X => calls_class_below hgo0 (HP.out X.world)
   have hQ0 : Hid (∀ X : WIn Inv0, Below w.heap.size w X.world) := fun X => X.ok
   have hI0 : Hid (Inv0 (World.drew w)) := (Below.refl _ _).drew
   have hne0 : Nonempty (WIn Inv0) := ⟨⟨_, hI0.out⟩⟩
   clear hgo0
   clear_value Inv0
   refine wp_region_class Inv0 (by kernel_rfl) (by kernel_rfl) hI0.out ?_
   repeat (first | go_big_quiet_step ((first | (go_at_call 57; with_reducible exact a0.out _))) | quiet_step ((first | (go_at_call 57; with_reducible exact a0.out _))))
   refine wpQuiet_nil ?_
   rintro _ ⟨X, rfl⟩
   have HB0 := Lib.hid (hQ0.out X)
   generalize X.world = w1 at HB0 ⊢
   clear a0 hQ0 hI0 hne0 X
   clear Inv0
   go_wp2_with fail
   go_quiet (fail)
   go_wp2_with fail
   go_ret3
   exact ⟨rfl, bDr HB0.out _⟩
  ·have hq3 := str_ne hTp
   clear hTp
   go_enter Tryz.func92, Tryz.ntmps92
   go_wp2_with fail
   refine (HSz.out _).mono ?_
   rintro e w1 ⟨rfl, hw⟩
   have hw := hw.symm
   subst hw
   go_wp2_with fail
   refine (HSz.out _).mono ?_
   rintro e w1 ⟨rfl, hw⟩
   have hw := hw.symm
   subst hw
   go_wp2_with fail
   refine (HNu.out _).mono ?_
   rintro e w1 ⟨rfl, hw⟩
   have hw := hw.symm
   subst hw
   go_wp2_with fail
   let Inv0 : World → Prop := fun V => Below w.heap.size w V
   have hgo0 : ∀ V V', Inv0 V → Below V.heap.size V V' → Inv0 V' := fun V V' h hb => Below.trans h (hb.mono (Below.size h))
   have a0 : Hid (∀ X : WIn Inv0, Calls Tryz.prog 57 #[.int .u64 (2288 + z)] X.world fun e w' => e = .returned (.string T) ∧ ∃ Y : WIn Inv0, w' = Y.world) := fun X => calls_class_below hgo0 (HP.out X.world)
   have hQ0 : Hid (∀ X : WIn Inv0, Below w.heap.size w X.world) := fun X => X.ok
   have hI0 : Hid (Inv0 (World.drew w)) := (Below.refl _ _).drew
   have hne0 : Nonempty (WIn Inv0) := ⟨⟨_, hI0.out⟩⟩
   clear hgo0
   clear_value Inv0
   refine wp_region_class Inv0 (by kernel_rfl) (by kernel_rfl) hI0.out ?_
   repeat (first | go_big_quiet_step ((first | (go_at_call 57; with_reducible exact a0.out _))) | quiet_step ((first | (go_at_call 57; with_reducible exact a0.out _))))
   refine wpQuiet_nil ?_
   rintro _ ⟨X, rfl⟩
   have HB0 := Lib.hid (hQ0.out X)
   generalize X.world = w1 at HB0 ⊢
   clear a0 hQ0 hI0 hne0 X
   clear Inv0
   go_wp2_with fail
   go_ret3
   exact ⟨rfl, HB0.out⟩
 ·rcases hboth with ⟨hTp, rfl⟩ | ⟨hTp, rfl⟩
  ·subst hTp
   go_enter Tryz.func92, Tryz.ntmps92
   go_wp2_with fail
   refine (HSz.out _).mono ?_
   rintro e w1 ⟨rfl, hw⟩
   have hw := hw.symm
   subst hw
   go_wp2_with fail
   refine (HSz.out _).mono ?_
   rintro e w1 ⟨rfl, hw⟩
   have hw := hw.symm
   subst hw
   go_wp2_with fail
   refine (HNu.out _).mono ?_
   rintro e w1 ⟨rfl, hw⟩
   have hw := hw.symm
   subst hw
   go_wp2_with fail
   let Inv0 : World → Prop := fun V => Below w.heap.size w V
   have hgo0 : ∀ V V', Inv0 V → Below V.heap.size V V' → Inv0 V' := fun V V' h hb => Below.trans h (hb.mono (Below.size h))
   have a0 : Hid (∀ X : WIn Inv0, Calls Tryz.prog 57 #[.int .u64 n] X.world fun e w' => e = .returned (.string T) ∧ ∃ Y : WIn Inv0, w' = Y.world) := fun X => calls_class_below hgo0 (HP.out X.world)
   have hQ0 : Hid (∀ X : WIn Inv0, Below w.heap.size w X.world) := fun X => X.ok
   have hI0 : Hid (Inv0 (World.drew w)) := (Below.refl _ _).drew
   have hne0 : Nonempty (WIn Inv0) := ⟨⟨_, hI0.out⟩⟩
   clear hgo0
   clear_value Inv0
   refine wp_region_class Inv0 (by kernel_rfl) (by kernel_rfl) hI0.out ?_
   repeat (first | go_big_quiet_step ((first | (go_at_call 57; with_reducible exact a0.out _))) | quiet_step ((first | (go_at_call 57; with_reducible exact a0.out _))))
   refine wpQuiet_nil ?_
   rintro _ ⟨X, rfl⟩
   have HB0 := Lib.hid (hQ0.out X)
   generalize X.world = w1 at HB0 ⊢
   clear a0 hQ0 hI0 hne0 X
   clear Inv0
   go_wp2_with fail
   go_quiet (fail)
   go_wp2_with fail
   go_ret3
   exact ⟨rfl, bDr HB0.out _⟩
  ·have hq3 := str_ne hTp
   clear hTp
   go_enter Tryz.func92, Tryz.ntmps92
   go_wp2_with fail
   refine (HSz.out _).mono ?_
   rintro e w1 ⟨rfl, hw⟩
   have hw := hw.symm
   subst hw
   go_wp2_with fail
   refine (HSz.out _).mono ?_
   rintro e w1 ⟨rfl, hw⟩
   have hw := hw.symm
   subst hw
   go_wp2_with fail
   refine (HNu.out _).mono ?_
   rintro e w1 ⟨rfl, hw⟩
   have hw := hw.symm
   subst hw
   go_wp2_with fail
   let Inv0 : World → Prop := fun V => Below w.heap.size w V
   have hgo0 : ∀ V V', Inv0 V → Below V.heap.size V V' → Inv0 V' := fun V V' h hb => Below.trans h (hb.mono (Below.size h))
   have a0 : Hid (∀ X : WIn Inv0, Calls Tryz.prog 57 #[.int .u64 n] X.world fun e w' => e = .returned (.string T) ∧ ∃ Y : WIn Inv0, w' = Y.world) := fun X => calls_class_below hgo0 (HP.out X.world)
   have hQ0 : Hid (∀ X : WIn Inv0, Below w.heap.size w X.world) := fun X => X.ok
   have hI0 : Hid (Inv0 (World.drew w)) := (Below.refl _ _).drew
   have hne0 : Nonempty (WIn Inv0) := ⟨⟨_, hI0.out⟩⟩
   clear hgo0
   clear_value Inv0
   refine wp_region_class Inv0 (by kernel_rfl) (by kernel_rfl) hI0.out ?_
   repeat (first | go_big_quiet_step ((first | (go_at_call 57; with_reducible exact a0.out _))) | quiet_step ((first | (go_at_call 57; with_reducible exact a0.out _))))
   refine wpQuiet_nil ?_
   rintro _ ⟨X, rfl⟩
   have HB0 := Lib.hid (hQ0.out X)
   generalize X.world = w1 at HB0 ⊢
   clear a0 hQ0 hI0 hne0 X
   clear Inv0
   go_wp2_with fail
   go_ret3
   exact ⟨rfl, HB0.out⟩
end Go.Proofs.YtpklkhgnjbopnaaGreatDoor
namespace Go.Proofs.YtpklkhgnjbopnaaGreatDoor
open Go Go.RowKit Go.Shelf
def getTR (s : ByteArray) : Option (ByteArray × List UInt8) → Ending → Prop
 | some (t, r), e => e = .returned (.tuple #[.string t, .string ⟨r.toArray⟩, .int .i64 0])
 | none, e => ∃ n : Int, n ≠ 0 ∧ e = .returned (.tuple #[.string ⟨#[]⟩, .string s, .int .i64 n])
set_option maxRecDepth 100000 in
set_option maxHeartbeats 2000000 in
theorem refGetText_any (s : ByteArray) (w : World) (hs : s.size < 4294967281) :
  Calls Tryz.prog 93 #[.string s] w fun e w' => getTR s (getT s.data.toList) e ∧ Below w.heap.size w w' := by
 have hG := refGet_any s w hs
 unfold getT
 cases hg : getN s.data.toList with
 | more =>
  rw [hg] at hG
  unfold getRes at hG
  dsimp only at hG ⊢
  unfold getTR
  dsimp only
  clear hg hs
  go_enter Tryz.func93, Tryz.ntmps93
  go_wp2_with (go_at_call 92; refine hG.mono ?_; rintro e w1 ⟨rfl, hb⟩; have HB := Lib.hid hb; clear hb)
  go_ret3
  exact ⟨⟨20, by decide, rfl⟩, HB.out⟩
 | bad =>
  rw [hg] at hG
  unfold getRes at hG
  dsimp only at hG ⊢
  unfold getTR
  dsimp only
  clear hg hs
  go_enter Tryz.func93, Tryz.ntmps93
  go_wp2_with (go_at_call 92; refine hG.mono ?_; rintro e w1 ⟨rfl, hb⟩; have HB := Lib.hid hb; clear hb)
  go_ret3
  exact ⟨⟨21, by decide, rfl⟩, HB.out⟩
 | got n r =>
  rw [hg] at hG
  unfold getRes at hG
  dsimp only at hG ⊢
  obtain ⟨hu0, hu1⟩ := (getN_got hg).1
  have hrl : r.length < 4294967281 := by
   have h1 := (getN_got hg).2
   have h2 : s.data.toList.length = s.size := Array.length_toList
   omega
  have hsz : (ByteArray.mk r.toArray).size = r.length := str_size r
  clear hg hs
  by_cases h4 : 400 < n
  ·rw [if_pos (.inl h4)]
   unfold getTR
   dsimp only
   go_enter Tryz.func93, Tryz.ntmps93
   go_wp2_with (go_at_call 92; refine hG.mono ?_; rintro e w1 ⟨rfl, hb⟩; have HB := Lib.hid hb; clear hb)
   go_ret3
   exact ⟨⟨21, by decide, rfl⟩, HB.out⟩
  by_cases h5 : (r.length : Int) < n
  ·rw [if_pos (.inr h5)]
   unfold getTR
   dsimp only
   go_enter Tryz.func93, Tryz.ntmps93
   go_wp2_with (go_at_call 92; refine hG.mono ?_; rintro e w1 ⟨rfl, hb⟩; have HB := Lib.hid hb; clear hb)
   go_ret3
   exact ⟨⟨20, by decide, rfl⟩, HB.out⟩
  ·rw [if_neg (by omega)]
   unfold getTR
   dsimp only
   obtain ⟨k, rfl⟩ : ∃ k : Nat, n = (k : Int) := ⟨n.toNat, by omega⟩
   rw [Int.toNat_natCast]
   have s1 : (ByteArray.mk r.toArray).extract 0 k = ⟨(r.take k).toArray⟩ := by
    apply ByteArray.ext
    simp [ByteArray.data_extract]
   have s2 : (ByteArray.mk r.toArray).extract k r.length = ⟨(r.drop k).toArray⟩ := by
    apply ByteArray.ext
    simp [ByteArray.data_extract]
    exact List.take_of_length_le (by rw [List.length_drop]; omega)
   go_enter Tryz.func93, Tryz.ntmps93
   go_wp2_with (go_at_call 92; refine hG.mono ?_; rintro e w1 ⟨rfl, hb⟩; have HB := Lib.hid hb; clear hb)
   go_quiet (fail)
   go_wp2_with fail
   go_ret3
   exact ⟨rfl, bDr HB.out _⟩
def RxAt (b : Nat) (st : Rd) (W : World) : Prop := match st with
 | some l => l.length < 4294967281 ∧ W.heap[b]? = some (.cells #[.string ⟨l.toArray⟩, .bool false] 135 (0, 0))
 | none => ∃ s : ByteArray, s.size < 4294967281 ∧ W.heap[b]? = some (.cells #[.string s, .bool true] 135 (0, 0))
theorem RxAt.lt {b : Nat} {st : Rd} {W : World} (h : RxAt b st W) : b < W.heap.size := by
 cases st with
 | none => obtain ⟨s, -, h⟩ := h; exact (Array.getElem?_eq_some_iff.1 h).1
 | some l => exact (Array.getElem?_eq_some_iff.1 h.2).1
theorem RxAt.keep {b : Nat} {st : Rd} {q : Nat → Prop} {A B : World} (h : RxAt b st A) (hk : Kept q A B) (hq : q b) : RxAt b st B := by
 cases st with
 | none => obtain ⟨s, hs, h⟩ := h; exact ⟨s, hs, hk.known hq h⟩
 | some l => exact ⟨h.1, hk.known hq h.2⟩
theorem rMost_all (st : Rd) : rMost 18446744073709551615 st = rNum st := by
 have := (rNum_u64 st).2
 unfold rMost
 rw [if_neg (by omega)]
theorem any64_x (w : World) : Calls Tryz.prog 63 #[] w fun e w' => e = .returned (.int .u64 18446744073709551615) ∧ w' = w := by
 go_enter Tryz.func63, Tryz.ntmps63
 go_wp2_with fail
 go_ret
 exact ⟨rfl, rfl⟩
theorem RxAt.open {b : Nat} {st : Rd} {W : World} (h : RxAt b st W) : ∃ (s : ByteArray) (x : Bool), s.size < 4294967281 ∧ x = st.isNone ∧ W.heap[b]? = some (.cells #[.string s, .bool x] 135 (0, 0)) ∧ (∀ l, st = some l → s.data.toList = l) := by
 cases st with
 | none => obtain ⟨s, hs, h⟩ := h; exact ⟨s, true, hs, rfl, h, fun l e => by cases e⟩
 | some l => exact ⟨⟨l.toArray⟩, false, by rw [str_size]; exact h.1, rfl, h.2, fun l' e => by cases e; rfl⟩
set_option maxRecDepth 100000 in
set_option maxHeartbeats 4000000 in
theorem rxnum_x (m : Int) (b : Nat) (st : Rd) (w : World) (hm : U64 m) (h : RxAt b st w) :
  Calls Tryz.prog 62 #[.pointer (some ⟨b, 0, none⟩), .int .u64 m] w fun e w' => e = .returned (.int .u64 (rMost m st).1) ∧ RxAt b (rMost m st).2 w' ∧ Kept (· ≠ b) w w' := by
 obtain ⟨s, x, hs, hx, hX, hsl⟩ := h.open
 have c0 : w.cell? ⟨b, 0, none⟩ = some (.string s) := cCc hX 0
 have hG := refGet_any s w hs
 obtain ⟨hm0, hm1⟩ := hm
 have HR : Hid (∀ w1, Below w.heap.size w w1 → w1.cell? ⟨b, 0, none⟩ = some (.string s) ∧ w1.cell? ⟨b, 1, none⟩ = some (.bool x) ∧ w1.frozen? ⟨b, 0, none⟩ = false ∧ w1.frozen? ⟨b, 1, none⟩ = false) := fun w1 hb => by
  have h1 := known hb (Nat.le_refl _) hX
  exact ⟨cCc h1 0, cCc h1 1, cFz h1 0, cFz h1 1⟩
 have HN : Hid (∀ w1, Below w.heap.size w w1 → RxAt b none (w1.setCell ⟨b, 1, none⟩ (.bool true)) ∧ Kept (· ≠ b) w (w1.setCell ⟨b, 1, none⟩ (.bool true))) := fun w1 hb =>
  ⟨⟨s, hs, hSk (known hb (Nat.le_refl _) hX) (i := 1) _⟩, (Kept.of hb).set (fun _ h => h rfl) _ _⟩
 cases st with
 | none =>
  obtain rfl : x = true := hx
  have e : rMost m none = (0, none) := by unfold rMost; rw [if_neg (show ¬ m < (rNum none).1 by show ¬ m < 0; omega)]; rfl
  rw [e]
  dsimp only
  cases hg : getN s.data.toList with
  | got n r =>
   rw [hg] at hG
   unfold getRes at hG
   dsimp only at hG
   clear h hX hsl hg e hs
   go_enter Tryz.func62, Tryz.ntmps62
   go_wp2_with (go_at_call 92; refine hG.mono ?_; rintro e w1 ⟨rfl, hb⟩; obtain ⟨d0, d1, f0, f1⟩ := HR.out w1 hb; have HB := Lib.hid (HN.out w1 hb); clear hb)
   go_ret
   exact ⟨rfl, HB.out⟩
  | more =>
   rw [hg] at hG
   unfold getRes at hG
   dsimp only at hG
   clear h hX hsl hg e hs
   go_enter Tryz.func62, Tryz.ntmps62
   go_wp2_with (go_at_call 92; refine hG.mono ?_; rintro e w1 ⟨rfl, hb⟩; obtain ⟨d0, d1, f0, f1⟩ := HR.out w1 hb; have HB := Lib.hid (HN.out w1 hb); clear hb)
   go_ret
   exact ⟨rfl, HB.out⟩
  | bad =>
   rw [hg] at hG
   unfold getRes at hG
   dsimp only at hG
   clear h hX hsl hg e hs
   go_enter Tryz.func62, Tryz.ntmps62
   go_wp2_with (go_at_call 92; refine hG.mono ?_; rintro e w1 ⟨rfl, hb⟩; obtain ⟨d0, d1, f0, f1⟩ := HR.out w1 hb; have HB := Lib.hid (HN.out w1 hb); clear hb)
   go_ret
   exact ⟨rfl, HB.out⟩
 | some l =>
  obtain rfl : x = false := hx
  have hll : s.data.toList = l := hsl l rfl
  rw [hll] at hG
  cases hg : getN l with
  | more =>
   have e : rMost m (some l) = (0, none) := by
    have e1 : rNum (some l) = (0, none) := by unfold rNum; dsimp only; rw [hg]
    unfold rMost
    rw [e1, if_neg (by show ¬ m < 0; omega)]
   rw [e]
   dsimp only
   rw [hg] at hG
   unfold getRes at hG
   dsimp only at hG
   clear h hX hsl hg e hs hll
   go_enter Tryz.func62, Tryz.ntmps62
   go_wp2_with (go_at_call 92; refine hG.mono ?_; rintro e w1 ⟨rfl, hb⟩; obtain ⟨d0, d1, f0, f1⟩ := HR.out w1 hb; have HB := Lib.hid (HN.out w1 hb); clear hb)
   go_ret
   exact ⟨rfl, HB.out⟩
  | bad =>
   have e : rMost m (some l) = (0, none) := by
    have e1 : rNum (some l) = (0, none) := by unfold rNum; dsimp only; rw [hg]
    unfold rMost
    rw [e1, if_neg (by show ¬ m < 0; omega)]
   rw [e]
   dsimp only
   rw [hg] at hG
   unfold getRes at hG
   dsimp only at hG
   clear h hX hsl hg e hs hll
   go_enter Tryz.func62, Tryz.ntmps62
   go_wp2_with (go_at_call 92; refine hG.mono ?_; rintro e w1 ⟨rfl, hb⟩; obtain ⟨d0, d1, f0, f1⟩ := HR.out w1 hb; have HB := Lib.hid (HN.out w1 hb); clear hb)
   go_ret
   exact ⟨rfl, HB.out⟩
  | got n r =>
   obtain ⟨hu0, hu1⟩ := (getN_got hg).1
   have e1 : rNum (some l) = (n, some r) := by unfold rNum; dsimp only; rw [hg]
   rw [hg] at hG
   unfold getRes at hG
   dsimp only at hG
   by_cases hmn : m < n
   ·have e : rMost m (some l) = (0, none) := by unfold rMost; rw [e1, if_pos hmn]
    rw [e]
    dsimp only
    clear h hX hsl hg e e1 hs hll
    go_enter Tryz.func62, Tryz.ntmps62
    go_wp2_with (go_at_call 92; refine hG.mono ?_; rintro e w1 ⟨rfl, hb⟩; obtain ⟨d0, d1, f0, f1⟩ := HR.out w1 hb; have HB := Lib.hid (HN.out w1 hb); clear hb)
    go_ret
    exact ⟨rfl, HB.out⟩
   ·have e : rMost m (some l) = (n, some r) := by unfold rMost; rw [e1, if_neg hmn]
    rw [e]
    dsimp only
    have HF : Hid (∀ w1, Below w.heap.size w w1 → RxAt b (some r) (w1.setCell ⟨b, 0, none⟩ (.string ⟨r.toArray⟩)) ∧ Kept (· ≠ b) w (w1.setCell ⟨b, 0, none⟩ (.string ⟨r.toArray⟩))) := fun w1 hb =>
     ⟨⟨Nat.lt_of_le_of_lt (getN_len hg) h.1, hSk (known hb (Nat.le_refl _) hX) (i := 0) _⟩, (Kept.of hb).set (fun _ h => h rfl) _ _⟩
    clear h hX hsl hg e e1 hs hll
    go_enter Tryz.func62, Tryz.ntmps62
    go_wp2_with (go_at_call 92; refine hG.mono ?_; rintro e w1 ⟨rfl, hb⟩; obtain ⟨d0, d1, f0, f1⟩ := HR.out w1 hb; have HB := Lib.hid (HF.out w1 hb); clear hb)
    go_ret
    exact ⟨rfl, HB.out⟩
set_option maxRecDepth 100000 in
set_option maxHeartbeats 4000000 in
theorem rxtext_x (b : Nat) (st : Rd) (w : World) (h : RxAt b st w) :
  Calls Tryz.prog 64 #[.pointer (some ⟨b, 0, none⟩)] w fun e w' => e = .returned (.string (rText st).1) ∧ RxAt b (rText st).2 w' ∧ Kept (· ≠ b) w w' := by
 obtain ⟨s, x, hs, hx, hX, hsl⟩ := h.open
 have c0 : w.cell? ⟨b, 0, none⟩ = some (.string s) := cCc hX 0
 have hG := refGetText_any s w hs
 have HR : Hid (∀ w1, Below w.heap.size w w1 → w1.cell? ⟨b, 0, none⟩ = some (.string s) ∧ w1.cell? ⟨b, 1, none⟩ = some (.bool x) ∧ w1.frozen? ⟨b, 0, none⟩ = false ∧ w1.frozen? ⟨b, 1, none⟩ = false) := fun w1 hb => by
  have h1 := known hb (Nat.le_refl _) hX
  exact ⟨cCc h1 0, cCc h1 1, cFz h1 0, cFz h1 1⟩
 have HN : Hid (∀ w1, Below w.heap.size w w1 → RxAt b none (w1.setCell ⟨b, 1, none⟩ (.bool true)) ∧ Kept (· ≠ b) w (w1.setCell ⟨b, 1, none⟩ (.bool true))) := fun w1 hb =>
  ⟨⟨s, hs, hSk (known hb (Nat.le_refl _) hX) (i := 1) _⟩, (Kept.of hb).set (fun _ h => h rfl) _ _⟩
 have HO : Hid (x = false → ∀ r : List UInt8, r.length < 4294967281 → ∀ w1, Below w.heap.size w w1 → RxAt b (some r) (w1.setCell ⟨b, 0, none⟩ (.string ⟨r.toArray⟩)) ∧ Kept (· ≠ b) w (w1.setCell ⟨b, 0, none⟩ (.string ⟨r.toArray⟩))) := fun hx0 r hr w1 hb => by
  subst hx0
  exact ⟨⟨hr, hSk (known hb (Nat.le_refl _) hX) (i := 0) _⟩, (Kept.of hb).set (fun _ h => h rfl) _ _⟩
 have key : (rText st = (⟨#[]⟩, none) ∧ (x = true ∨ getT s.data.toList = none)) ∨ (x = false ∧ ∃ t r, getT s.data.toList = some (t, r) ∧ rText st = (t, some r) ∧ r.length < 4294967281) := by
  cases st with
  | none => exact .inl ⟨rfl, .inl hx⟩
  | some l =>
   have hll : s.data.toList = l := hsl l rfl
   have e := rText_get l
   rw [hll]
   cases hg : getT l with
   | none => rw [hg] at e; exact .inl ⟨e, .inr rfl⟩
   | some p =>
    obtain ⟨t, r⟩ := p
    rw [hg] at e
    refine .inr ⟨hx, t, r, rfl, e, ?_⟩
    have hl := h.1
    unfold getT at hg
    split at hg
    ·rename_i n r' hn
     split at hg
     ·cases hg
     ·cases hg
      have := (getN_got hn).2
      rw [List.length_drop]
      omega
    ·cases hg
    ·cases hg
 clear h hX hsl hs hx
 rcases key with ⟨e, hc⟩ | ⟨rfl, t, r, hg, e, hr⟩
 ·rw [e]
  dsimp only
  cases hg : getT s.data.toList with
  | none =>
   rw [hg] at hG
   unfold getTR at hG
   dsimp only at hG
   clear hg hc e
   cases x with
   | false =>
    go_enter Tryz.func64, Tryz.ntmps64
    go_wp2_with (go_at_call 93; refine hG.mono ?_; rintro e w1 ⟨⟨n, hn, rfl⟩, hb⟩; obtain ⟨d0, d1, f0, f1⟩ := HR.out w1 hb; have HB := Lib.hid (HN.out w1 hb); clear hb)
    go_ret
    exact ⟨rfl, HB.out⟩
   | true =>
    go_enter Tryz.func64, Tryz.ntmps64
    go_wp2_with (go_at_call 93; refine hG.mono ?_; rintro e w1 ⟨⟨n, hn, rfl⟩, hb⟩; obtain ⟨d0, d1, f0, f1⟩ := HR.out w1 hb; have HB := Lib.hid (HN.out w1 hb); clear hb)
    go_ret
    exact ⟨rfl, HB.out⟩
  | some p =>
   obtain ⟨t, r⟩ := p
   obtain rfl : x = true := by
    rcases hc with h | h
    ·exact h
    ·rw [hg] at h; cases h
   rw [hg] at hG
   unfold getTR at hG
   dsimp only at hG
   clear hg hc e
   go_enter Tryz.func64, Tryz.ntmps64
   go_wp2_with (go_at_call 93; refine hG.mono ?_; rintro e w1 ⟨rfl, hb⟩; obtain ⟨d0, d1, f0, f1⟩ := HR.out w1 hb; have HB := Lib.hid (HN.out w1 hb); clear hb)
   go_ret
   exact ⟨rfl, HB.out⟩
 ·rw [e]
  dsimp only
  rw [hg] at hG
  unfold getTR at hG
  dsimp only at hG
  have HO2 := Lib.hid (HO.out rfl r hr)
  clear hg e HO hr
  go_enter Tryz.func64, Tryz.ntmps64
  go_wp2_with (go_at_call 93; refine hG.mono ?_; rintro e w1 ⟨rfl, hb⟩; obtain ⟨d0, d1, f0, f1⟩ := HR.out w1 hb; have HB := Lib.hid (HO2.out w1 hb); clear hb)
  go_ret
  exact ⟨rfl, HB.out⟩
end Go.Proofs.YtpklkhgnjbopnaaGreatDoor

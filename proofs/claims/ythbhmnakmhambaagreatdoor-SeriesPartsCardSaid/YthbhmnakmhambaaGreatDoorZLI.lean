/- Package ladder: the four bodies' add and lower; told. errors.As at a target of type **ladder.fault: lines of the worked example ToyasAs turned to this program; ladder.errno, isFull. What rows have in common: the program's closed facts, sketches and numbers opened, errors.errorType. Printed by gen_rz.py. Package ladder: a body's add and lower through the interface. Package ladder: lowered. Package ladder: a sketch as a value and its body at work. A right sketch is that of a body at work. No program in sight. Package ladder: stores into a box, kept bodies and sketches; lowered at the bottom; told. -/
import Derived.LaidEql
import Derived.Stop.Asserts
import Derived.RowKitTokens
import Derived.Test.YthbhmnakmhambaaGreatDoorCards
import Derived.Test.YthbhmnakmhambaaGreatDoorTie
import Derived.LaidHandle
import Derived.Shelf.Vars
import Derived.ChangeMaps5
import Derived.Test.YthbhmnakmhambaaGreatDoorZGH
import Derived.Test.YthbhmnakmhambaaGreatDoorZCG
namespace Go.Proofs.YthbhmnakmhambaaGreatDoor
open Go Go.RowKit Go.Shelf
def BdAt (W : World) (v : Value) : Bd → Prop
 | .num l => ∃ a len cap, v = .iface 207 (.agg #[.slice a len cap]) ∧ SlC encU 1 W.heap.size W a len cap l
 | .reg b r => v = .iface 209 (.agg #[.int .i64 b, .string (hlStr r)])
 | .cnt c l => ∃ a len cap, v = .iface 210 (.agg #[.int .i64 2, .int .i64 c, .slice a len cap]) ∧ SlC encU 1 W.heap.size W a len cap l
 | .bkt f l => ∃ a len cap, v = .iface 212 (.agg #[.int .i64 f, .slice a len cap]) ∧ SlC encB 2 W.heap.size W a len cap l
theorem BdAt.go {W W' : World} {v : Value} {B : Bd} (h : BdAt W v B) (hb : Below W.heap.size W W') : BdAt W' v B := by
 cases B with
 | num l => obtain ⟨a, len, cap, h1, h2⟩ := h; exact ⟨a, len, cap, h1, h2.go hb⟩
 | reg b r => exact h
 | cnt c l => obtain ⟨a, len, cap, h1, h2⟩ := h; exact ⟨a, len, cap, h1, h2.go hb⟩
 | bkt f l => obtain ⟨a, len, cap, h1, h2⟩ := h; exact ⟨a, len, cap, h1, h2.go hb⟩
def FaultAt (W : World) (v : Value) (no : Int) : Prop := ∃ b, v = .iface 155 (.pointer (some ⟨b, 0, none⟩)) ∧ W.heap[b]? = some (.cells #[.int .i64 no] 157 (0, 0))
def BodyPost (o : Option Bd) (w : World) (e : Ending) (w' : World) : Prop := Below w.heap.size w w' ∧ match o with
 | some B => ∃ v, e = .returned (.tuple #[v, .nilIface]) ∧ BdAt w' v B
 | none => ∃ v, e = .returned (.tuple #[.nilIface, v]) ∧ FaultAt w' v 60
theorem told_ok (v : Value) (w : World) : Calls Tryz.prog 194 #[v, .int .i64 0] w fun e w' => e = .returned (.tuple #[v, .nilIface]) ∧ w' = w := by
 go_enter Tryz.func194, Tryz.ntmps194
 go_wp2
 exact bodyPost_ret (v := .tuple #[v, .nilIface]) (by simp [results, Tryz.f194, go_sem]) rfl ⟨rfl, rfl⟩
theorem shape_any (c : Nat) (hc : c = 4 ∨ c = 8 ∨ c = 16 ∨ c = 32) : isShapeB 2 (c : Int) = true := by rcases hc with rfl | rfl | rfl | rfl <;> decide +kernel
theorem nums_slC {W : World} {g n : Nat} {l : List Int} (h : NumsAt W g l) (hn : l.length = n) (hm : n ≤ maxLen) : SlC encU 1 W.heap.size W (some ⟨g, 0, none⟩) n n l := by
 refine ⟨⟨hn.symm, fun j x hx => ⟨g, 0, rfl, h.lt, fun i hi => ?_⟩⟩, Nat.le_refl _, hm, (fun e => by cases e), fun x hx _ => by cases hx; exact ⟨rfl, h.lt⟩⟩
 obtain rfl : i = 0 := by omega
 have hj : j < l.length := (List.getElem?_eq_some_iff.1 hx).1
 rw [show (0 + j * 1 + 0) = j by omega, h.cell hj]
 have : l.getD j 0 = x := by rw [List.getD_eq_getElem?_getD, hx]; rfl
 rw [this]
 rfl
-- METHODS
set_option maxRecDepth 100000 in
set_option maxHeartbeats 1000000 in
theorem low_num (l : List Int) (a : Option Addr) (len cap : Nat) (w : World) (hS : SlC encU 1 w.heap.size w a len cap l) (hu : U64s l) (hlen : l.length ≤ 1000) :
  Calls Tryz.prog 191 #[.agg #[.slice a len cap]] w (BodyPost (some (Bd.num l).low) w) := by
 obtain ⟨W0, hW0, hXb, hB0, hs0⟩ := boxes1 w #[.slice a len cap] 207
 have c0 : W0.cell? ⟨w.heap.size, 0, none⟩ = some (.slice a len cap) := cCc hXb 0
 have HA := Lib.hid (hOf_any 7 l a len cap W0 (by decide) (by decide) ((hS.1.below hB0).mono hB0.size) hu (by have := hS.1.1; omega))
 have HB0 := Lib.hid hB0
 clear hXb hB0
 obtain ⟨s, hst⟩ : ∃ s, hlStr (hlSum 7 (hlNone 7) (l.map Int.toNat)) = s := ⟨_, rfl⟩
 rw [hst] at HA
 have HSt := Lib.hid hst
 clear hst hS hu hlen
 go_enter Tryz.func191, Tryz.ntmps191
 go_wp2_with fail
 refine HA.out.mono ?_
 rintro e w1 ⟨rfl, hb1⟩
 obtain ⟨W2, hW2, hX2, hB2, hs2⟩ := boxes1 w1 #[.int .i64 7, .string s] 32
 obtain ⟨q0, q1⟩ := cl2 hX2
 have HT := Lib.hid (told_ok (.iface 209 (.agg #[.int .i64 7, .string s])) W2)
 have HB2 := Lib.hid hB2
 have HB1 := Lib.hid hb1
 clear hX2 hB2 hb1
 go_wp2_with fail
 refine HT.out.mono ?_
 rintro e w3 ⟨rfl, rfl⟩
 go_wp2_with fail
 have hB12 := HB1.out.trans (HB2.out.mono HB1.out.size)
 refine bodyPost_ret (v := .tuple #[.iface 209 (.agg #[.int .i64 7, .string s]), .nilIface]) (by simp [results, Tryz.f191, go_sem]) rfl ⟨HB0.out.trans (hB12.mono HB0.out.size), ?_⟩
 exact ⟨_, rfl, by rw [← HSt.out]; rfl⟩
set_option maxRecDepth 100000 in
set_option maxHeartbeats 1000000 in
theorem low_reg (b : Nat) (r : List Nat) (w : World) (h1 : 4 ≤ b) (h2 : b ≤ 8) (hl : r.length = 2 ^ b) (hr : ∀ i, r.getD i 0 ≤ 65 - b) :
  Calls Tryz.prog 219 #[.agg #[.int .i64 b, .string (hlStr r)]] w (BodyPost (some (Bd.reg b r).low) w) := by
 obtain ⟨W0, hW0, hXb, hB0, hs0⟩ := boxes1 w #[.int .i64 b, .string (hlStr r)] 209
 obtain ⟨c0, c1⟩ := cl2 hXb
 have HA := Lib.hid (hLower_any b r W0 h1 h2 hl hr)
 have HB0 := Lib.hid hB0
 clear hXb hB0
 obtain ⟨s, hst⟩ : ∃ s, hlStr (hlLow b r) = s := ⟨_, rfl⟩
 rw [hst] at HA
 have HSt := Lib.hid hst
 clear hst hl hr h1 h2
 go_enter Tryz.func219, Tryz.ntmps219
 go_wp2_with fail
 refine HA.out.mono ?_
 rintro e w1 ⟨rfl, hb1⟩
 obtain ⟨W2, hW2, hX2, hB2, hs2⟩ := boxes1 w1 #[.int .i64 ((b - 1 : Nat) : Int), .string s] 32
 obtain ⟨q0, q1⟩ := cl2 hX2
 have HT := Lib.hid (told_ok (.iface 209 (.agg #[.int .i64 ((b - 1 : Nat) : Int), .string s])) W2)
 have HB2 := Lib.hid hB2
 have HB1 := Lib.hid hb1
 clear hX2 hB2 hb1
 go_wp2_with fail
 refine HT.out.mono ?_
 rintro e w3 ⟨rfl, rfl⟩
 go_wp2_with fail
 have hB12 := HB1.out.trans (HB2.out.mono HB1.out.size)
 refine bodyPost_ret (v := .tuple #[.iface 209 (.agg #[.int .i64 ((b - 1 : Nat) : Int), .string s]), .nilIface]) (by simp [results, Tryz.f219, go_sem]) rfl ⟨HB0.out.trans (hB12.mono HB0.out.size), ?_⟩
 exact ⟨_, rfl, by rw [← HSt.out]; rfl⟩
set_option maxRecDepth 100000 in
set_option maxHeartbeats 1000000 in
theorem low_cnt (c : Nat) (l : List Int) (a : Option Addr) (len cap : Nat) (w : World) (hc : c = 8 ∨ c = 16 ∨ c = 32) (hS : SlC encU 1 w.heap.size w a len cap l) (hl : l.length = c + c) (hlu : U64s l) :
  Calls Tryz.prog 227 #[.agg #[.int .i64 2, .int .i64 c, .slice a len cap]] w (BodyPost (some (Bd.cnt c l).low) w) := by
 obtain ⟨W0, hW0, hXb, hB0, hs0⟩ := boxes1 w #[.int .i64 2, .int .i64 c, .slice a len cap] 210
 obtain ⟨c0, c1, c2⟩ := cl3 hXb
 have HA := Lib.hid (cLower_any c l a len cap W0 (shape_any c (by omega)) (shape_any (c / 2) (by omega)) hc ((hS.1.below hB0).mono hB0.size) (by omega) hlu)
 have HB0 := Lib.hid hB0
 clear hXb hB0
 obtain ⟨d, hd⟩ : ∃ d, c / 2 = d := ⟨_, rfl⟩
 rw [hd] at HA
 have HD := Lib.hid hd
 have HC : Hid (2 * d ≤ 64) := (by omega : 2 * d ≤ 64)
 have HLen : Hid ((cmLow c l).length = 2 * d) := by rw [Hid, cmLow_len]; omega
 clear hS hl hlu hc hd
 go_enter Tryz.func227, Tryz.ntmps227
 go_wp2_with fail
 refine HA.out.mono ?_
 rintro e w1 ⟨g, rfl, hN1, hg1, hb1⟩
 have HN := Lib.hid (nums_slC hN1 HLen.out (by have := HC.out; unfold maxLen; omega))
 clear hN1
 obtain ⟨W2, hW2, hX2, hB2, hs2⟩ := boxes1 w1 #[.int .i64 2, .int .i64 d, .slice (some ⟨g, 0, none⟩) (2 * d) (2 * d)] 34
 obtain ⟨q0, q1, q2⟩ := cl3 hX2
 have HT := Lib.hid (told_ok (.iface 210 (.agg #[.int .i64 2, .int .i64 d, .slice (some ⟨g, 0, none⟩) (2 * d) (2 * d)])) W2)
 have HB2 := Lib.hid hB2
 have HB1 := Lib.hid hb1
 clear hX2 hB2 hb1
 go_wp2_with fail
 refine HT.out.mono ?_
 rintro e w3 ⟨rfl, rfl⟩
 go_wp2_with fail
 have hB12 := HB1.out.trans (HB2.out.mono HB1.out.size)
 refine bodyPost_ret (v := .tuple #[.iface 210 (.agg #[.int .i64 2, .int .i64 d, .slice (some ⟨g, 0, none⟩) (2 * d) (2 * d)]), .nilIface]) (by simp [results, Tryz.f227, go_sem]) rfl ⟨HB0.out.trans (hB12.mono HB0.out.size), ?_⟩
 exact ⟨_, rfl, by show BdAt _ _ (.cnt (c / 2) (cmLow c l)); rw [HD.out]; exact ⟨_, _, _, rfl, HN.out.go HB2.out⟩⟩
set_option maxRecDepth 100000 in
set_option maxHeartbeats 1000000 in
theorem low_bkt (f : Nat) (l : List (Int × Int)) (a : Option Addr) (len cap : Nat) (w : World) (h1 : 1 ≤ f) (hf : f ≤ 3) (hS : SlC encB 2 w.heap.size w a len cap l) (hr : hiRight f l = true) (hbd : ∀ b ∈ l, boundsB f b.1 = true) (hbu : BinsU l) (hlen : l.length ≤ 1000) :
  Calls Tryz.prog 241 #[.agg #[.int .i64 f, .slice a len cap]] w (BodyPost (some (Bd.bkt f l).low) w) := by
 obtain ⟨W0, hW0, hXb, hB0, hs0⟩ := boxes1 w #[.int .i64 f, .slice a len cap] 212
 obtain ⟨c0, c1⟩ := cl2 hXb
 have HA := Lib.hid (hiLower_any f l a len cap W0 h1 hf ((hS.1.below hB0).mono hB0.size) hr hbd hbu (by have := hS.1.1; omega))
 have HB0 := Lib.hid hB0
 clear hXb hB0
 have HF : Hid (1 ≤ f) := h1
 clear hS hr hbd hbu hlen hf h1
 go_enter Tryz.func241, Tryz.ntmps241
 go_wp2_with fail
 refine HA.out.mono ?_
 rintro e w1 ⟨a', len', cap', rfl, hS1, hb1⟩
 have HN := Lib.hid hS1
 clear hS1
 obtain ⟨W2, hW2, hX2, hB2, hs2⟩ := boxes1 w1 #[.int .i64 ((f : Int) - 1), .slice a' len' cap'] 37
 obtain ⟨q0, q1⟩ := cl2 hX2
 have HT := Lib.hid (told_ok (.iface 212 (.agg #[.int .i64 ((f : Int) - 1), .slice a' len' cap'])) W2)
 have HB2 := Lib.hid hB2
 have HB1 := Lib.hid hb1
 clear hX2 hB2 hb1
 go_wp2_with fail
 refine HT.out.mono ?_
 rintro e w3 ⟨rfl, rfl⟩
 go_wp2_with fail
 have hB12 := HB1.out.trans (HB2.out.mono HB1.out.size)
 refine bodyPost_ret (v := .tuple #[.iface 212 (.agg #[.int .i64 ((f : Int) - 1), .slice a' len' cap']), .nilIface]) (by simp [results, Tryz.f241, go_sem]) rfl ⟨HB0.out.trans (hB12.mono HB0.out.size), ?_⟩
 exact ⟨_, rfl, _, _, _, by rw [show ((f - 1 : Nat) : Int) = (f : Int) - 1 by have := HF.out; omega], HN.out.go HB2.out⟩
end Go.Proofs.YthbhmnakmhambaaGreatDoor
namespace Go.Proofs.YthbhmnakmhambaaGreatDoor
open Go Go.RowKit Go.Extern.Stop Go.Stop Go.Extern
def GT (w : World) : Prop := w.cell? ⟨0, 0, none⟩ = some (.iface 260 (.agg #[.pointer (some ⟨4, 110, none⟩)]))
theorem GT.lt {w : World} (h : GT w) : 0 < w.heap.size := World.block_lt_of_cell? w _ h
theorem GT.go {w w' : World} (h : GT w) (hb : Below w.heap.size w w') : GT w' := (hb.cell (p := ⟨0, 0, none⟩) h.lt).trans h
end Go.Proofs.YthbhmnakmhambaaGreatDoor
namespace Go.Proofs.YthbhmnakmhambaaGreatDoor
open Go Go.ChangeShapes Go.WideShapes Go.ChangeAt Go.RowKit Go.Lib Go.Deep Go.Shelf
theorem own : ownKnob Tryz.prog.godebug = none := by kernel_rfl
theorem laidOut : laidOutB Tryz.prog = true := by kernel_rfl
theorem undBool : Tryz.prog.underlying 4 = some .bool := by kernel_rfl
theorem undU64 : Tryz.prog.underlying 41 = some (.int .u64) := by kernel_rfl
theorem undStr : Tryz.prog.underlying 9 = some .string := by kernel_rfl
theorem undInt : Tryz.prog.underlying 3 = some (.int .i64) := by kernel_rfl
theorem and2 {a b : Bool} (ha : a = true) (hb : b = true) : (a && b) = true := by rw [ha, hb]; rfl
theorem pfMaps : mapsRowed Tryz.pinned.checked.prog = true := by kernel_rfl
theorem pfOut : laidOutB Tryz.pinned.checked.prog = true := by kernel_rfl
theorem pfStops : (Tryz.pinned.checked.prog.stops == []) = true := by kernel_rfl
theorem pfKnobs : (Tryz.pinned.checked.prog.stopKnobs == []) = true := by kernel_rfl
theorem pfHeard : Tryz.pinned.checked.prog.stopsHeard = true := by kernel_rfl
theorem pfEnter : Tryz.pinned.checked.prog.mayEnter = true := by kernel_rfl
theorem pfKeys : (Rows.quotaVictimsRow.plainKeys == Tryz.pinned.checked.prog.plainKeys) = true := by kernel_rfl
theorem pfLift : (Rows.quotaVictimsRow.lifted == Tryz.pinned.checked.prog.liftsFinal) = true := by kernel_rfl
theorem pfMake : (Tryz.pinned.checked.prog.make == some Rows.quotaVictimsRow.make) = true := by kernel_rfl
theorem gET : Tryz.prog.globalNamed "errors.errorType" = some 0 := by kernel_rfl
theorem rtCut : (Tryz.prog.cutTypes.find? (·.1 == "internal/reflectlite.rtype")).map (·.2) = some 260 := by kernel_rfl
theorem oneRow : ((List.range 391).filter fun t => Tryz.prog.rowNamed t [101, 114, 114, 111, 114]) = [110] := by kernel_rfl
theorem typesSize : Tryz.prog.types.size = 391 := by kernel_rfl
theorem gt_of {W : World} (h : handlesMet Tryz.prog [("errors.errorType", Rows.laid_errors_errorType)] W) : GT W := by
 obtain ⟨name, u, ty, e1, e2, e3, e4, e5⟩ := h _ (List.mem_singleton.2 rfl)
 have en : name = [101, 114, 114, 111, 114] := (Option.some.inj e1).symm
 subst en
 obtain rfl := Option.some.inj (rtCut.symm.trans e2)
 have hm : ty ∈ (List.range 391).filter fun t => Tryz.prog.rowNamed t [101, 114, 114, 111, 114] := List.mem_filter.2 ⟨List.mem_range.2 (by rw [← typesSize]; exact e3), e4⟩
 rw [oneRow] at hm
 obtain rfl := List.mem_singleton.1 hm
 have hh : typeHandle Tryz.prog 110 = .pointer (some ⟨4, 110, none⟩) := by kernel_rfl
 rw [hh] at e5
 have h9 := World.var?_cell gET e5 0
 simp at h9
 exact h9
section
variable {H : Type} {enc : TypeId × Value → H} {w : World} {base : Nat} {held : Bool}
theorem fields_of {P : Program} {t : TypeId} {fs : Array Field} {fuel : Nat} {cs : List Value} {x : DataW H × List MemPlace} (ht : P.underlying t = some (.struct fs)) (h : DataW.trod enc P w base (fun _ => true) held fuel t cs = some x) :
  cs.length = P.cellsOf t ∧ ∃ n, ∀ (i : Nat) (f : Field), fs[i]? = some f → ∃ y, DataW.trod enc P w base (fun _ => true) held n f.type ((cs.drop f.offset).take (P.cellsOf f.type)) = some y := by
 obtain ⟨xs, n, _, _, hl, hx, hf⟩ := DataW.trod_struct ht h
 refine ⟨hl, n, fun i f hi => ?_⟩
 have h1 := hf i f hi
 have h2 := (Array.getElem?_eq_some_iff.1 hi).1
 rw [List.getElem?_eq_getElem (by omega)] at h1
 exact ⟨_, h1⟩
theorem SlC.map {α β : Type} {encA : β → List Value} {k n : Nat} {a : Option Addr} {len cap : Nat} {f : α → β} {l : List α} (h : SlC (fun x => encA (f x)) k n w a len cap l) : SlC encA k n w a len cap (l.map f) :=
 ⟨⟨by rw [List.length_map]; exact h.1.1, fun j x hx => by rw [List.getElem?_map] at hx; obtain ⟨y, hy, rfl⟩ := Option.map_eq_some_iff.1 hx; exact h.1.2 j y hy⟩, h.2⟩
theorem slC_open {P : Program} {α : Type} {t e : TypeId} {k : Nat} {encA : α → List Value} {Q : α → Prop} (hk : 0 < k) (ht : P.underlying t = some (.slice e)) (hc : P.cellsOf e = k)
  (hel : ∀ n cs x, DataW.trod enc P w base (fun _ => true) held n e cs = some x → ∃ y, cs = encA y ∧ Q y) {fuel : Nat} {v : Value} {x : DataW H × List MemPlace}
  (h : DataW.trod enc P w base (fun _ => true) held fuel t [v] = some x) : ∃ a len cap l, v = .slice a len cap ∧ SlC encA k w.heap.size w a len cap l ∧ ∀ y ∈ l, Q y := by
 obtain ⟨a, len, cap, rfl⟩ : ∃ a len cap, v = .slice a len cap := by
  rcases open_slice ht h with ⟨h0, _⟩ | ⟨a', len', cap', m, n, D, Pl, hcs, -⟩
  ·simp only [List.cons.injEq, and_true] at h0; exact ⟨_, _, _, h0⟩
  ·simp only [List.cons.injEq, and_true] at hcs; exact ⟨_, _, _, hcs⟩
 obtain ⟨l, hl⟩ := slC_of_trod (encA := fun y : { y // Q y } => encA y.1) hk ht hc (fun n cs x hx => by obtain ⟨y, h1, h2⟩ := hel n cs x hx; exact ⟨⟨y, h2⟩, h1⟩) h
 refine ⟨a, len, cap, l.map (·.1), rfl, hl.map, fun y hy => ?_⟩
 obtain ⟨z, _, rfl⟩ := List.mem_map.1 hy
 exact z.2
theorem wf_u64 {n : Int} (w0 : (Lit.int .u64 n).wf = true) : U64 n := by
 simp only [Lit.wf, IntKind.min, IntKind.max, IntKind.signed, IntKind.bits, Bool.and_eq_true] at w0
 exact ⟨by simpa using w0.1, by have := w0.2; simp at this; omega⟩
theorem wf_i64 {n : Int} (w0 : (Lit.int .i64 n).wf = true) : I64 n := by
 simp only [Lit.wf, IntKind.min, IntKind.max, IntKind.signed, IntKind.bits, Bool.and_eq_true] at w0
 exact ⟨by have := w0.1; simp at this; omega, by have := w0.2; simp at this; omega⟩
theorem u64_elem (n : Nat) (cs : List Value) (x : DataW H × List MemPlace) (h : DataW.trod enc Tryz.prog w base (fun _ => true) held n 41 cs = some x) : ∃ y : Int, cs = encU y ∧ U64 y := by
 obtain ⟨s0, c0, -, w0⟩ := DataW.trod_int undU64 h
 exact ⟨s0, c0, wf_u64 w0⟩
theorem bin_elem (n : Nat) (cs : List Value) (x : DataW H × List MemPlace) (h : DataW.trod enc Tryz.prog w base (fun _ => true) held n 137 cs = some x) : ∃ y : Int × Int, cs = encB y ∧ (I64 y.1 ∧ U64 y.2) := by
 obtain ⟨hl, m, hf⟩ := struct_cells Tryz.underlying137 (by kernel_rfl) (by kernel_rfl) h
 obtain ⟨v0, y0, e0, h0⟩ := hf 0 _ rfl
 obtain ⟨v1, y1, e1, h1⟩ := hf 1 _ rfl
 obtain ⟨s0, c0, -, w0⟩ := DataW.trod_int undInt h0
 obtain ⟨s1, c1, -, w1⟩ := DataW.trod_int undU64 h1
 match cs, hl with
 | [a, b], _ =>
  simp only [List.getElem?_cons_zero, List.getElem?_cons_succ, Option.some.injEq, List.cons.injEq, and_true] at e0 e1 c0 c1
  exact ⟨(s0, s1), by rw [e0, e1, c0, c1]; rfl, wf_i64 w0, wf_u64 w1⟩
set_option maxRecDepth 100000 in
theorem sk_elem (n : Nat) (cs : List Value) (x : DataW H × List MemPlace) (h : DataW.trod enc Tryz.prog w base (fun _ => true) held n 39 cs = some x) : ∃ (y : Sk) (s : SS), cs = [.int .i64 y.kind, .int .i64 y.level, .slice s.ea s.el s.ec, .int .i64 y.hb, .string y.hr, .int .i64 y.cr, .int .i64 y.cc, .slice s.ca s.cl s.cc, .int .i64 y.gf, .slice s.ga s.gl s.gc] ∧ s.At w.heap.size w y ∧ y.arg := by
 obtain ⟨hl, m, hf⟩ := fields_of Tryz.underlying39 h
 replace hl : cs.length = 10 := hl.trans (by kernel_rfl)
 obtain ⟨y0, h0⟩ := hf 0 _ rfl
 obtain ⟨y1, h1⟩ := hf 1 _ rfl
 obtain ⟨y2, h2⟩ := hf 2 _ rfl
 obtain ⟨y3, h3⟩ := hf 3 _ rfl
 obtain ⟨y4, h4⟩ := hf 4 _ rfl
 obtain ⟨y5, h5⟩ := hf 5 _ rfl
 match cs, hl with
 | [v1, v2, v3, v4, v5, v6, v7, v8, v9, v10], _ =>
  change DataW.trod enc Tryz.prog w base _ held m 3 (([v1, v2, v3, v4, v5, v6, v7, v8, v9, v10].drop 0).take (Tryz.prog.cellsOf 3)) = some y0 at h0
  change DataW.trod enc Tryz.prog w base _ held m 3 (([v1, v2, v3, v4, v5, v6, v7, v8, v9, v10].drop 1).take (Tryz.prog.cellsOf 3)) = some y1 at h1
  change DataW.trod enc Tryz.prog w base _ held m 30 (([v1, v2, v3, v4, v5, v6, v7, v8, v9, v10].drop 2).take (Tryz.prog.cellsOf 30)) = some y2 at h2
  change DataW.trod enc Tryz.prog w base _ held m 32 (([v1, v2, v3, v4, v5, v6, v7, v8, v9, v10].drop 3).take (Tryz.prog.cellsOf 32)) = some y3 at h3
  change DataW.trod enc Tryz.prog w base _ held m 34 (([v1, v2, v3, v4, v5, v6, v7, v8, v9, v10].drop 5).take (Tryz.prog.cellsOf 34)) = some y4 at h4
  change DataW.trod enc Tryz.prog w base _ held m 37 (([v1, v2, v3, v4, v5, v6, v7, v8, v9, v10].drop 8).take (Tryz.prog.cellsOf 37)) = some y5 at h5
  rw [show Tryz.prog.cellsOf 3 = 1 by kernel_rfl] at h0 h1
  rw [show Tryz.prog.cellsOf 30 = 1 by kernel_rfl] at h2
  rw [show Tryz.prog.cellsOf 32 = 2 by kernel_rfl] at h3
  rw [show Tryz.prog.cellsOf 34 = 3 by kernel_rfl] at h4
  rw [show Tryz.prog.cellsOf 37 = 2 by kernel_rfl] at h5
  simp only [List.drop_zero, List.drop_succ_cons, List.take_succ_cons, List.take_zero] at h0 h1 h2 h3 h4 h5
  obtain ⟨s0, c0, -, -⟩ := DataW.trod_int undInt h0
  obtain ⟨s1, c1, -, -⟩ := DataW.trod_int undInt h1
  obtain ⟨-, m2, f2⟩ := struct_cells Tryz.underlying30 (by kernel_rfl) (by kernel_rfl) h2
  obtain ⟨-, m3, f3⟩ := struct_cells Tryz.underlying32 (by kernel_rfl) (by kernel_rfl) h3
  obtain ⟨-, m4, f4⟩ := struct_cells Tryz.underlying34 (by kernel_rfl) (by kernel_rfl) h4
  obtain ⟨-, m5, f5⟩ := struct_cells Tryz.underlying37 (by kernel_rfl) (by kernel_rfl) h5
  obtain ⟨u2, z2, e2, g2⟩ := f2 0 _ rfl
  obtain ⟨u3, z3, e3, g3⟩ := f3 0 _ rfl
  obtain ⟨u4, z4, e4, g4⟩ := f3 1 _ rfl
  obtain ⟨u5, z5, e5, g5⟩ := f4 0 _ rfl
  obtain ⟨u6, z6, e6, g6⟩ := f4 1 _ rfl
  obtain ⟨u7, z7, e7, g7⟩ := f4 2 _ rfl
  obtain ⟨u8, z8, e8, g8⟩ := f5 0 _ rfl
  obtain ⟨u9, z9, e9, g9⟩ := f5 1 _ rfl
  obtain ⟨ea, el, ec, le, k2, S2, U2⟩ := slC_open (k := 1) (encA := encU) (by omega) Tryz.underlying28 (by kernel_rfl) u64_elem g2
  obtain ⟨s3, c3, -, -⟩ := DataW.trod_int undInt g3
  obtain ⟨s4, c4, -, -⟩ := DataW.trod_string undStr g4
  obtain ⟨s5, c5, -, -⟩ := DataW.trod_int undInt g5
  obtain ⟨s6, c6, -, -⟩ := DataW.trod_int undInt g6
  obtain ⟨ca, cl, cc, lc, k7, S7, U7⟩ := slC_open (k := 1) (encA := encU) (by omega) Tryz.underlying28 (by kernel_rfl) u64_elem g7
  obtain ⟨s8, c8, -, -⟩ := DataW.trod_int undInt g8
  obtain ⟨ga, gl, gc, lg, k9, S9, U9⟩ := slC_open (k := 2) (encA := encB) (by omega) Tryz.underlying35 (by kernel_rfl) bin_elem g9
  simp only [List.getElem?_cons_zero, List.getElem?_cons_succ, Option.some.injEq, List.cons.injEq, and_true] at e2 e3 e4 e5 e6 e7 e8 e9 c0 c1 c3 c4 c5 c6 c8
  refine ⟨⟨s0, s1, le, s3, s4, s5, s6, lc, s8, lg⟩, ⟨ea, el, ec, ca, cl, cc, ga, gl, gc⟩, ?_, ⟨S2, S7, S9⟩, ⟨U2, U7, U9⟩⟩
  rw [c0, c1, e2, k2, e3, c3, e4, c4, e5, c5, e6, c6, e7, k7, e8, c8, e9, k9]
end
def eT : String × DataW Unit := ("errors.errorType", Rows.laid_errors_errorType)
def typeCell : Obj → Obj
 | .cells _ t frozen => .cells #[.iface 260 (.agg #[.pointer (some ⟨4, 110, none⟩)])] t frozen
 | o => o
end Go.Proofs.YthbhmnakmhambaaGreatDoor
namespace Go.Proofs.YthbhmnakmhambaaGreatDoor
open Go Go.RowKit Go.Shelf
theorem hist_run (f : Nat) : ∀ (l : List (Int × Int)) (last : Int), BinUp l → (∀ b ∈ l, last < b.1) → (∀ b ∈ l, b.2 ≠ 0) → (∀ b ∈ l, boundsB f b.1 = true) → (foldO (histStep f) last l).isSome = true
 | [], last, _, _, _, _ => by simp [foldO_nil]
 | b :: t, last, hu, h1, h2, h3 => by
  obtain ⟨u1, u2⟩ := binUp_tail hu
  have hs : histStep f last b = some b.1 := by
   unfold histStep
   have a1 := h1 b List.mem_cons_self
   have a2 := h2 b List.mem_cons_self
   have a3 := h3 b List.mem_cons_self
   rw [if_neg]
   simp [a2, a3]
   omega
  rw [foldO_cons, hs]
  exact hist_run f t b.1 u1 u2 (fun c hc => h2 c (List.mem_cons_of_mem _ hc)) (fun c hc => h3 c (List.mem_cons_of_mem _ hc))
theorem hiRight_of (f : Nat) (l : List (Int × Int)) (hf : f ≤ 3) (hu : BinUp l) (h2 : ∀ b ∈ l, b.2 ≠ 0) (h3 : ∀ b ∈ l, boundsB f b.1 = true) : hiRight f l = true := by
 unfold hiRight
 rw [isFine_nat f hf, hist_run f l (-1) hu (fun b hb => by have := bounds_le f hf b.1 (h3 b hb); omega) h2 h3]
 rfl
theorem up_fin : ∀ (l : List (Int × Int)) (lo : Int), BinUp l → (∀ b ∈ l, lo < b.1) → (∀ b ∈ l, b.1 ≤ 512) → lo ≤ 512 → (l.length : Int) ≤ 512 - lo
 | [], lo, _, _, _, h => by simp; omega
 | b :: t, lo, hu, h1, h2, h => by
  obtain ⟨u1, u2⟩ := binUp_tail hu
  have a1 := h1 b List.mem_cons_self
  have a2 := h2 b List.mem_cons_self
  have := up_fin t b.1 u1 u2 (fun c hc => h2 c (List.mem_cons_of_mem _ hc)) a2
  simp only [List.length_cons]
  omega
theorem bins_len (f : Nat) (l : List (Int × Int)) (hf : f ≤ 3) (hu : BinUp l) (h3 : ∀ b ∈ l, boundsB f b.1 = true) : l.length ≤ 513 := by
 have := up_fin l (-1) hu (fun b hb => by have := bounds_le f hf b.1 (h3 b hb); omega) (fun b hb => (bounds_le f hf b.1 (h3 b hb)).2) (by omega)
 omega
theorem bins_i64 (f : Nat) (l : List (Int × Int)) (hf : f ≤ 3) (h3 : ∀ b ∈ l, boundsB f b.1 = true) : ∀ b ∈ l, I64 b.1 := fun b hb => by have := bounds_le f hf b.1 (h3 b hb); unfold I64; omega
theorem cols_of {c level : Nat} (h : c * 2 ^ level = 32) (hl : level ≤ 3) : c = 4 ∨ c = 8 ∨ c = 16 ∨ c = 32 := by
 rcases (by omega : level = 0 ∨ level = 1 ∨ level = 2 ∨ level = 3) with rfl | rfl | rfl | rfl <;> simp at h <;> omega
theorem cols_low {c level : Nat} (h : c * 2 ^ level = 32) (hl : level < 3) : c = 8 ∨ c = 16 ∨ c = 32 := by
 rcases (by omega : level = 0 ∨ level = 1 ∨ level = 2) with rfl | rfl | rfl <;> simp at h <;> omega
theorem m_low_num (x : Value) (w : World) : (method 491 207 (.agg #[x]) "aviary/ladder.lower").run Tryz.prog w = .ok (191, .agg #[x]) w := by kernel_rfl
theorem m_low_reg (x y : Value) (w : World) : (method 491 209 (.agg #[x, y]) "aviary/ladder.lower").run Tryz.prog w = .ok (219, .agg #[x, y]) w := by kernel_rfl
theorem m_low_cnt (x y z : Value) (w : World) : (method 491 210 (.agg #[x, y, z]) "aviary/ladder.lower").run Tryz.prog w = .ok (227, .agg #[x, y, z]) w := by kernel_rfl
theorem m_low_bkt (x y : Value) (w : World) : (method 491 212 (.agg #[x, y]) "aviary/ladder.lower").run Tryz.prog w = .ok (241, .agg #[x, y]) w := by kernel_rfl
theorem lower_at {w : World} {v : Value} {B : Bd} {kind level : Nat} (hb : BdAt w v B) (hok : B.Ok kind level) (hlv : level < botN kind) : ∃ T rv f, v = .iface T rv ∧ (∀ W, (method 491 T rv "aviary/ladder.lower").run Tryz.prog W = .ok (f, rv) W) ∧ (∀ args W, (callFunc f args).run Tryz.prog W = .ok (.enter f args) W) ∧
  ∀ W, BdAt W v B → Calls Tryz.prog f #[rv] W (BodyPost (some B.low) W) := by
 cases B with
 | num l =>
  obtain ⟨a, len, cap, rfl, -⟩ := hb
  obtain ⟨-, -, o3, o4, o5⟩ := hok
  refine ⟨_, _, _, rfl, fun W => m_low_num _ W, enters_of Tryz.func191 (by kernel_rfl) rfl, fun W hW => ?_⟩
  obtain ⟨a', len', cap', e, hS⟩ := hW
  cases e
  exact low_num l a len cap W hS o5 (by omega)
 | reg b r =>
  obtain rfl : v = _ := hb
  obtain ⟨o1, o2, o3, o4, o5, o6⟩ := hok
  subst o1
  have : botN 1 = 4 := rfl
  refine ⟨_, _, _, rfl, fun W => m_low_reg _ _ W, enters_of Tryz.func219 (by kernel_rfl) rfl, fun W hW => ?_⟩
  exact low_reg b r W (by omega) (by omega) o5 o6
 | cnt c l =>
  obtain ⟨a, len, cap, rfl, -⟩ := hb
  obtain ⟨o1, o2, o3, o4, o5⟩ := hok
  subst o1
  have : botN 2 = 3 := rfl
  refine ⟨_, _, _, rfl, fun W => m_low_cnt _ _ _ W, enters_of Tryz.func227 (by kernel_rfl) rfl, fun W hW => ?_⟩
  obtain ⟨a', len', cap', e, hS⟩ := hW
  cases e
  exact low_cnt c l a len cap W (cols_low o3 (by omega)) hS o4 o5
 | bkt f l =>
  obtain ⟨a, len, cap, rfl, -⟩ := hb
  obtain ⟨o1, o2, o3, o4, o5, o6, o7⟩ := hok
  subst o1
  have : botN 3 = 3 := rfl
  refine ⟨_, _, _, rfl, fun W => m_low_bkt _ _ W, enters_of Tryz.func241 (by kernel_rfl) rfl, fun W hW => ?_⟩
  obtain ⟨a', len', cap', e, hS⟩ := hW
  cases e
  have hf : f ≤ 3 := by omega
  exact low_bkt f l a len cap W (by omega) hf hS (hiRight_of f l hf o4 o5 o7) o7 o6 (by have := bins_len f l hf o4 o7; omega)
end Go.Proofs.YthbhmnakmhambaaGreatDoor
namespace Go.Proofs.YthbhmnakmhambaaGreatDoor
open Go Go.RowKit Go.Shelf
theorem bot_eq {B : Bd} {kind level : Nat} (h : B.Ok kind level) : bottomB (kind : Int) = (botN kind : Int) ∧ level ≤ botN kind := by
 cases B with
 | num l => obtain ⟨rfl, rfl, -⟩ := h; exact ⟨rfl, by decide⟩
 | reg b r => obtain ⟨rfl, -, h, -⟩ := h; exact ⟨rfl, h⟩
 | cnt c l => obtain ⟨rfl, h, -⟩ := h; exact ⟨rfl, h⟩
 | bkt f l => obtain ⟨rfl, h, -⟩ := h; exact ⟨rfl, h⟩
theorem bd_iface {W : World} {v : Value} {B : Bd} (h : BdAt W v B) : ∃ T rv, v = .iface T rv := by
 cases B with
 | num l => obtain ⟨a, len, cap, rfl, -⟩ := h; exact ⟨_, _, rfl⟩
 | reg b r => exact ⟨_, _, h⟩
 | cnt c l => obtain ⟨a, len, cap, rfl, -⟩ := h; exact ⟨_, _, rfl⟩
 | bkt f l => obtain ⟨a, len, cap, rfl, -⟩ := h; exact ⟨_, _, rfl⟩
def OnlyAt (b : Nat) (W V : World) : Prop := V.heap.size = W.heap.size ∧ ∀ k, k ≠ b → V.heap[k]? = W.heap[k]?
theorem OnlyAt.refl (b : Nat) (W : World) : OnlyAt b W W := ⟨rfl, fun _ _ => rfl⟩
theorem OnlyAt.set {b : Nat} {W V : World} (h : OnlyAt b W V) (o : Nat) (v : Value) : OnlyAt b W (V.setCell ⟨b, o, none⟩ v) := ⟨(size_set V _ v).trans h.1, fun k hk => (heap_set_other (p := ⟨b, o, none⟩) (fun e => hk e.symm) v).trans (h.2 k hk)⟩
theorem slC_apart {α : Type} {enc : α → List Value} {k i0 : Nat} (hi : i0 < k) (hu : ∀ x, ∃ u, (enc x)[i0]? = some (.int .u64 u)) {W V : World} {b : Nat} {cs : Array Value} {t : TypeId} (hX : W.heap[b]? = some (.cells cs t (0, 0))) (hc : ∀ (i : Nat) (u : Int), cs[i]? ≠ some (Value.int .u64 u)) (hV : OnlyAt b W V)
  {a : Option Addr} {len cap : Nat} {l : List α} (h : SlC enc k W.heap.size W a len cap l) : SlC enc k V.heap.size V a len cap l := by
 rw [hV.1]
 refine ⟨⟨h.1.1, fun j x hx => ?_⟩, h.2⟩
 obtain ⟨g, off, e, hg, hcell⟩ := h.1.2 j x hx
 have hne : g ≠ b := fun e => by
  subst e
  obtain ⟨u, hu⟩ := hu x
  have h1 := hcell i0 hi
  rw [hu, cCc hX] at h1
  exact hc _ u h1
 exact ⟨g, off, e, hg, fun i hi => (World.cell?_of_block (show V.heap[g]? = W.heap[g]? from hV.2 g hne)).trans (hcell i hi)⟩
theorem BdAt.apart {W V : World} {v : Value} {B : Bd} (h : BdAt W v B) {b : Nat} {cs : Array Value} {t : TypeId} (hX : W.heap[b]? = some (.cells cs t (0, 0))) (hc : ∀ (i : Nat) (u : Int), cs[i]? ≠ some (Value.int .u64 u)) (hV : OnlyAt b W V) : BdAt V v B := by
 cases B with
 | num l => obtain ⟨a, len, cap, h1, h2⟩ := h; exact ⟨a, len, cap, h1, slC_apart (i0 := 0) (by decide) (fun x => ⟨x, rfl⟩) hX hc hV h2⟩
 | reg b r => exact h
 | cnt c l => obtain ⟨a, len, cap, h1, h2⟩ := h; exact ⟨a, len, cap, h1, slC_apart (i0 := 0) (by decide) (fun x => ⟨x, rfl⟩) hX hc hV h2⟩
 | bkt f l => obtain ⟨a, len, cap, h1, h2⟩ := h; exact ⟨a, len, cap, h1, slC_apart (i0 := 1) (by decide) (fun x => ⟨x.2, rfl⟩) hX hc hV h2⟩
theorem no_u64 {i : Nat} {x y z : Value} (hx : ∀ u, x ≠ .int .u64 u) (hy : ∀ u, y ≠ .int .u64 u) (hz : ∀ u, z ≠ .int .u64 u) (u : Int) : (#[x, y, z] : Array Value)[i]? ≠ some (.int .u64 u) := by
 intro h
 rcases i with _ | _ | _ | i
 ·exact hx u (by simpa using h)
 ·exact hy u (by simpa using h)
 ·exact hz u (by simpa using h)
 ·simp at h
theorem drewN_below {w : World} (n : Nat) : Below w.heap.size w (w.drewN n) := bDr (Below.refl _ _) n
set_option maxRecDepth 100000 in
set_option maxHeartbeats 2000000 in
theorem lowered_any (v : Value) (B : Bd) (kind level : Nat) (w : World) (hb : BdAt w v B) (hok : B.Ok kind level) (hlv : level < botN kind) :
  Calls Tryz.prog 100 #[.agg #[v, .int .i64 kind, .int .i64 level]] w fun e w' => ∃ v', e = .returned (.tuple #[.agg #[v', .int .i64 kind, .int .i64 ((level : Int) + 1)], .nilIface]) ∧ BdAt w' v' B.low ∧ Below w.heap.size w w' := by
 obtain ⟨T, rv, f, rfl, hm, hcf, hc⟩ := lower_at hb hok hlv
 obtain ⟨W0, hW0, hXp, hXr, hB0, hs0⟩ := boxes2 w #[.iface T rv, .int .i64 kind, .int .i64 level] 108 #[.nilIface, .int .i64 0, .int .i64 0] 108
 have HBT : Hid (∀ w, Calls Tryz.prog 11 #[.int .i64 kind] w fun e w' => e = .returned (.int .i64 (botN kind : Nat)) ∧ w' = w) := fun w => (Bottom_any kind w).mono fun e w' ⟨h1, h2⟩ => ⟨by rw [h1, (bot_eq hok).1], h2.symm⟩
 obtain ⟨c0, c1, c2⟩ := cl3 hXp
 have HXP := Lib.hid hXp
 have HXR := Lib.hid hXr
 have HB0 := Lib.hid hB0
 have HB := Lib.hid (hb.go hB0)
 have HC := Lib.hid hc
 have t1 : decide ((botN kind : Int) ≤ (level : Int)) = false := by simp; omega
 have hb4 : botN kind ≤ 4 := by unfold botN; split <;> omega
 clear hXp hXr hB0 hb hc hok
 go_enter Tryz.func100, Tryz.ntmps100
 go_wp2_with fail
 go_quiet ((go_at_call 11; exact Calls.quiet_of_same (HBT.out _)))
 go_wp2_with fail
 have hB1 := drewN_below (w := W0) nq
 refine (HC.out _ (HB.out.go hB1)).mono ?_
 rintro e w1 ⟨hb1, v', rfl, hv1⟩
 obtain ⟨T', rv', rfl⟩ := bd_iface hv1
 have hX1 := known (hB1.trans hb1) (Nat.le_refl _) HXP.out
 have hR1 := known (hB1.trans hb1) (Nat.le_refl _) HXR.out
 have hB01 : Below w.heap.size w w1 := HB0.out.trans ((hB1.trans hb1).mono HB0.out.size)
 have hw1 : wrap64 ((level : Int) + 1) = (level : Int) + 1 := by unfold wrap64; omega
 have hw2 : IntKind.i64.wrap ((level : Int) + 1) = ((level : Int) + 1) := IntWalk.i64_in _ (by omega)
 obtain ⟨d0, d1, d2⟩ := cl3 hX1
 obtain ⟨r0, r1, r2⟩ := cl3 hR1
 obtain ⟨g0, g1, g2⟩ := cz3 hR1
 have hX6 := set_cells3 (u := .iface T' rv') (v := .int .i64 kind) (q := .int .i64 ((level : Int) + 1)) hR1
 have hB6 := ((hB01.setCell (p := ⟨w.heap.size + 1, 0, none⟩) (Nat.le_succ _) (.iface T' rv')).setCell (p := ⟨w.heap.size + 1, 1, none⟩) (Nat.le_succ _) (.int .i64 kind)).setCell (p := ⟨w.heap.size + 1, 2, none⟩) (Nat.le_succ _) (.int .i64 ((level : Int) + 1))
 have HV : Hid (BdAt w1 (.iface T' rv') B.low) := hv1
 have HR1 := Lib.hid hR1
 clear hX1 hR1 hB01 hv1 hb1 hB1
 go_wp2_with fail
 have hgV : BdAt (((w1.setCell ⟨w.heap.size + 1, 0, none⟩ (.iface T' rv')).setCell ⟨w.heap.size + 1, 1, none⟩ (.int .i64 kind)).setCell ⟨w.heap.size + 1, 2, none⟩ (.int .i64 ((level : Int) + 1))) (.iface T' rv') B.low := BdAt.apart (B := B.low) HV.out HR1.out (fun i u => no_u64 (by simp) (by simp) (by simp) u) ((((OnlyAt.refl _ _).set _ _).set _ _).set _ _)
 generalize ((w1.setCell ⟨w.heap.size + 1, 0, none⟩ (.iface T' rv')).setCell ⟨w.heap.size + 1, 1, none⟩ (.int .i64 kind)).setCell ⟨w.heap.size + 1, 2, none⟩ (.int .i64 ((level : Int) + 1)) = V at hX6 hB6 hgV ⊢
 obtain ⟨k0, k1, k2⟩ := cl3 hX6
 exact bodyPost_ret (v := .tuple #[.agg #[.iface T' rv', .int .i64 kind, .int .i64 ((level : Int) + 1)], .nilIface]) (by simp [results, Tryz.f100, go_sem, k0, k1, k2]) rfl ⟨_, rfl, hgV, hB6⟩
end Go.Proofs.YthbhmnakmhambaaGreatDoor
namespace Go.Proofs.YthbhmnakmhambaaGreatDoor
open Go Go.RowKit Go.Shelf
def skOf (kind level : Nat) : Bd → Sk
 | .num l => skNum kind level l
 | .reg b r => skReg kind level b (hlStr r)
 | .cnt c l => skCnt kind level 2 c l
 | .bkt f l => skBkt kind level f l
theorem sk_same (x : Sk) : skSame x x = true := by simp [skSame]
theorem skOf_kind (k L : Nat) (B : Bd) : (skOf k L B).kind = k ∧ (skOf k L B).level = L := by cases B <;> exact ⟨rfl, rfl⟩
theorem ok_kind {B : Bd} {k L : Nat} (h : B.Ok k L) : k = 1 ∨ k = 2 ∨ k = 3 := by
 cases B with
 | num l => exact .inl h.1
 | reg b r => exact .inl h.1
 | cnt c l => exact .inr (.inl h.1)
 | bkt f l => exact .inr (.inr h.1)
theorem cols_div {c level : Nat} (h : c * 2 ^ level = 32) (hl : level ≤ 3) : ((c : Int) == 32 / 2 ^ level) = true := by
 rw [beq_iff_eq]
 rcases (by omega : level = 0 ∨ level = 1 ∨ level = 2 ∨ level = 3) with rfl | rfl | rfl | rfl <;> simp at h ⊢ <;> omega
theorem skOf_canon {B : Bd} {k L : Nat} (h : B.Ok k L) : skCanon (skOf k L B) = skOf k L B := by
 cases B with
 | num l =>
  obtain ⟨rfl, rfl, -⟩ := h
  rfl
 | reg b r =>
  obtain ⟨rfl, h1, -⟩ := h
  have h0 : (((L : Nat) : Int) == 0) = false := by simp; omega
  show (if ((1 : Nat) : Int) == 1 then if (L : Int) == 0 then _ else _ else _) = _
  rw [h0]
  rfl
 | cnt c l =>
  obtain ⟨rfl, -⟩ := h
  rfl
 | bkt f l =>
  obtain ⟨rfl, -⟩ := h
  rfl
theorem skOf_body {B : Bd} {k L : Nat} (h : B.Ok k L) : bodyRight (skOf k L B) = true := by
 cases B with
 | num l =>
  obtain ⟨rfl, rfl, h3, h4, -⟩ := h
  exact up_right l h3 h4
 | reg b r =>
  obtain ⟨rfl, h1, h2, h3, h4, h5⟩ := h
  have h0 : (((L : Nat) : Int) == 0) = false := by simp; omega
  show (if ((1 : Nat) : Int) == 1 then if (L : Int) == 0 then _ else hlRight (b : Int) (hlStr r) && ((b : Int) == 8 - (L : Int)) else _) = true
  rw [h0, hlRight_str b r (by omega) (by omega) h4 h5]
  simp
  omega
 | cnt c l =>
  obtain ⟨rfl, h2, h3, h4, -⟩ := h
  show (cmRight 2 (c : Int) l && ((2 : Int) == 2) && ((c : Int) == 32 / 2 ^ ((L : Int)).toNat)) = true
  rw [Int.toNat_natCast, cols_div h3 h2]
  unfold cmRight
  rw [shape_any c (cols_of h3 h2)]
  simp
  omega
 | bkt f l =>
  obtain ⟨rfl, h2, h3, h4, h5, -, h7⟩ := h
  show (hiRight (f : Int) l && ((f : Int) == 3 - (L : Int))) = true
  rw [hiRight_of f l (by omega) h4 h5 h7]
  simp
  omega
theorem skOf_ok {B : Bd} {k L : Nat} (h : B.Ok k L) : skOk (skOf k L B) = true := by
 unfold skOk
 rw [skOf_body h, skOf_canon h, sk_same, (skOf_kind k L B).1, (skOf_kind k L B).2, (bot_eq h).1]
 have h1 := (bot_eq h).2
 have h2 := ok_kind h
 simp
 omega
theorem skOf_fit {B : Bd} {k L : Nat} (h : B.Ok k L) : (skOf k L B).fit := by
 cases B with
 | bkt f l =>
  obtain ⟨rfl, h2, h3, h4, h5, -, h7⟩ := h
  exact fun b hb => (bins_i64 f l (by omega) h7 b hb).2
 | num l => exact fun b hb => by cases hb
 | reg b r => exact fun b hb => by cases hb
 | cnt c l => exact fun b hb => by cases hb
def SkB (W : World) (v : Value) (k L : Nat) (B : Bd) : Prop := ∃ (y : Sk) (s : SS), y = skOf k L B ∧ v = .agg #[.int .i64 y.kind, .int .i64 y.level, .slice s.ea s.el s.ec, .int .i64 y.hb, .string y.hr, .int .i64 y.cr, .int .i64 y.cc, .slice s.ca s.cl s.cc, .int .i64 y.gf, .slice s.ga s.gl s.gc] ∧ s.At W.heap.size W y
theorem SkB.go {W W' : World} {v : Value} {k L : Nat} {B : Bd} (h : SkB W v k L B) (hb : Below W.heap.size W W') : SkB W' v k L B := by
 obtain ⟨y, s, h0, h1, h2⟩ := h
 exact ⟨y, s, h0, h1, h2.go hb⟩
theorem at_short {s : SS} {k L : Nat} {B : Bd} {n : Nat} {W : World} (h : B.Ok k L) (hA : s.At n W (skOf k L B)) : s.Short := by
 have e1 : s.el = (skOf k L B).e.length := hA.e.1.1
 have e2 : s.cl = (skOf k L B).cl.length := hA.c.1.1
 have e3 : s.gl = (skOf k L B).gl.length := hA.g.1.1
 unfold SS.Short
 rw [e1, e2, e3]
 cases B with
 | num l =>
  obtain ⟨-, -, -, h4, -⟩ := h
  show l.length < _ ∧ 0 < _ ∧ 0 < _
  omega
 | reg b r => show 0 < _ ∧ 0 < _ ∧ 0 < _; omega
 | cnt c l =>
  obtain ⟨-, h2, h3, h4, -⟩ := h
  have := cols_of h3 h2
  show 0 < _ ∧ l.length < _ ∧ 0 < _
  omega
 | bkt f l =>
  obtain ⟨-, h2, h3, h4, -, -, h7⟩ := h
  have := bins_len f l (by omega) h4 h7
  show 0 < _ ∧ 0 < _ ∧ l.length < _
  omega
theorem skBody_at {s : SS} {k L : Nat} {B : Bd} {W : World} (h : B.Ok k L) (hA : s.At W.heap.size W (skOf k L B)) : BdAt W (skBody (skOf k L B) s) B := by
 cases B with
 | num l =>
  obtain ⟨rfl, rfl, -⟩ := h
  exact ⟨s.ea, s.el, s.ec, rfl, hA.e⟩
 | reg b r =>
  obtain ⟨rfl, h1, -⟩ := h
  have h0 : (((L : Nat) : Int) == 0) = false := by simp; omega
  show (if ((1 : Nat) : Int) == 1 then if (L : Int) == 0 then _ else _ else _) = _
  rw [h0]
  rfl
 | cnt c l =>
  obtain ⟨rfl, -⟩ := h
  exact ⟨s.ca, s.cl, s.cc, rfl, hA.c⟩
 | bkt f l =>
  obtain ⟨rfl, -⟩ := h
  exact ⟨s.ga, s.gl, s.gc, rfl, hA.g⟩
theorem open_sk_any {k L : Nat} {B : Bd} {v : Value} {w : World} (h : B.Ok k L) (hv : SkB w v k L B) :
  Calls Tryz.prog 58 #[v] w fun e w' => ∃ b, e = .returned (.tuple #[.agg #[b, .int .i64 k, .int .i64 L], .nilIface]) ∧ BdAt w' b B ∧ Below w.heap.size w w' := by
 obtain ⟨y, s, rfl, rfl, hA⟩ := hv
 refine (open_any (skOf k L B) s w hA (at_short h hA) (skOf_fit h)).mono ?_
 rintro e w' ⟨h1, h2⟩
 rw [skOf_ok h, (skOf_kind k L B).1, (skOf_kind k L B).2] at h1
 exact ⟨_, h1, skBody_at h (hA.go h2), h2⟩
end Go.Proofs.YthbhmnakmhambaaGreatDoor
namespace Go.Proofs.YthbhmnakmhambaaGreatDoor
open Go Go.RowKit Go.Shelf
theorem sk_eq {x y : Sk} (h : skSame x y = true) : x = y := by
 simp only [skSame, Bool.and_eq_true, beq_iff_eq] at h
 obtain ⟨⟨⟨⟨⟨h1, h2⟩, h3, h4⟩, h5⟩, ⟨h6, h7⟩, h8⟩, h9, h10⟩ := h
 have h4' : x.hr = y.hr := by
  rw [Lib.toList_data, Lib.toList_data] at h4
  cases hx : x.hr with | mk a => cases hy : y.hr with | mk b =>
  rw [hx, hy] at h4
  rw [show a = b from Array.toList_inj.1 h4]
 cases x; cases y
 simp only at *
 subst h1 h2 h3 h4' h5 h6 h7 h8 h9 h10
 rfl
def strRegs (s : ByteArray) : List Nat := s.data.toList.map (·.toNat)
theorem strRegs_str (s : ByteArray) : hlStr (strRegs s) = s := by
 unfold hlStr strRegs
 have h : (strOfNums ((s.data.toList.map (·.toNat)).map fun (n : Nat) => (n : Int))).data.toList = s.data.toList := by
  rw [strOfNums_data, List.map_map, List.map_map]
  conv => rhs; rw [← List.map_id s.data.toList]
  refine List.map_congr_left (fun x _ => ?_)
  simp
 generalize strOfNums ((s.data.toList.map (·.toNat)).map fun (n : Nat) => (n : Int)) = z at h
 cases z with | mk a => cases s with | mk b =>
 have h2 : a.toList = b.toList := h
 rw [Array.toList_inj.1 h2]
theorem strRegs_len (s : ByteArray) : (strRegs s).length = s.size := by unfold strRegs; rw [List.length_map]; exact Array.length_toList
theorem strRegs_le (b : Nat) (s : ByteArray) (h : regsOk b s = true) : ∀ i, (strRegs s).getD i 0 ≤ 65 - b := fun i => by
 rw [List.getD_eq_getElem?_getD]
 cases hi : (strRegs s)[i]? with
 | none => exact Nat.zero_le _
 | some r =>
  have hm := List.mem_of_getElem? hi
  unfold strRegs at hm
  obtain ⟨c, hc, rfl⟩ := List.mem_map.1 hm
  unfold regsOk at h
  have h2 := List.all_eq_true.1 h c hc
  have h3 : ¬ (65 - (b : Int) < (c.toNat : Int)) := by simpa using h2
  show c.toNat ≤ 65 - b
  omega
theorem hist_says (f : Int) : ∀ (l : List (Int × Int)) (last : Int), (foldO (histStep f) last l).isSome = true → BinUp l ∧ (∀ b ∈ l, last < b.1) ∧ (∀ b ∈ l, b.2 ≠ 0) ∧ ∀ b ∈ l, boundsB f b.1 = true
 | [], _, _ => ⟨List.Pairwise.nil, (fun _ h => by cases h), (fun _ h => by cases h), fun _ h => by cases h⟩
 | b :: t, last, h => by
  rw [foldO_cons] at h
  cases hs : histStep f last b with
  | none => rw [hs] at h; cases h
  | some z =>
   rw [hs] at h
   have hs2 : z = b.1 ∧ b.2 ≠ 0 ∧ boundsB f b.1 = true ∧ last < b.1 := by
    unfold histStep at hs
    split at hs
    ·cases hs
    ·rename_i hc
     simp only [Bool.or_eq_true, beq_iff_eq, Bool.not_eq_true', decide_eq_true_eq, not_or, Bool.not_eq_false] at hc
     exact ⟨(Option.some.inj hs).symm, hc.1.1, hc.1.2, by omega⟩
   obtain ⟨rfl, h2, h3, h4⟩ := hs2
   obtain ⟨i1, i2, i3, i4⟩ := hist_says f t b.1 h
   refine ⟨List.pairwise_cons.2 ⟨i2, i1⟩, fun c hc => ?_, fun c hc => ?_, fun c hc => ?_⟩
   ·rcases List.mem_cons.1 hc with rfl | hc
    ·exact h4
    ·have := i2 c hc; omega
   ·rcases List.mem_cons.1 hc with rfl | hc
    ·exact h2
    ·exact i3 c hc
   ·rcases List.mem_cons.1 hc with rfl | hc
    ·exact h3
    ·exact i4 c hc
theorem sk_bd (x : Sk) (h : skOk x = true) (he : U64s x.e) (hc : U64s x.cl) (hg : BinsU x.gl) : ∃ (k L : Nat) (B : Bd), x = skOf k L B ∧ B.Ok k L := by
 simp only [skOk, Bool.and_eq_true, decide_eq_true_eq] at h
 obtain ⟨⟨⟨k1, k3⟩, l0, l1⟩, hb, hsm⟩ := h
 have hx := sk_eq hsm
 obtain ⟨L, hL⟩ : ∃ L : Nat, x.level = L := ⟨x.level.toNat, by omega⟩
 rcases (by omega : x.kind = 1 ∨ x.kind = 2 ∨ x.kind = 3) with hk | hk | hk
 ·have hbt : bottomB x.kind = 4 := by rw [hk]; rfl
  rw [hbt, hL] at l1
  by_cases h0 : L = 0
  ·subst h0
   have h1 : skCanon x = skNum 1 0 x.e := by unfold skCanon; rw [hk, hL]; rfl
   have h2 : exRight x.e = true := by unfold bodyRight at hb; rw [hk, hL] at hb; exact hb
   obtain ⟨u1, u2⟩ := exRight_up x.e h2
   exact ⟨1, 0, .num x.e, by rw [h1] at hx; exact hx, rfl, rfl, u1, u2, he⟩
  ·have hn0 : ((L : Int) == 0) = false := by simp; omega
   have h1 : skCanon x = skReg 1 L x.hb x.hr := by
    unfold skCanon
    rw [hk, hL]
    show (if ((1 : Int) == 1) then if ((L : Int) == 0) then _ else _ else _) = _
    rw [hn0]
    rfl
   have h2 : (hlRight x.hb x.hr && (x.hb == 8 - (L : Int))) = true := by
    unfold bodyRight at hb
    rw [hk, hL] at hb
    have hb2 : (if ((L : Int) == 0) then exRight x.e else hlRight x.hb x.hr && (x.hb == 8 - (L : Int))) = true := hb
    rw [hn0] at hb2
    exact hb2
   rw [Bool.and_eq_true, beq_iff_eq] at h2
   obtain ⟨h3, h4⟩ := h2
   unfold hlRight at h3
   rw [Bool.and_eq_true, Bool.and_eq_true, beq_iff_eq] at h3
   obtain ⟨⟨h5, h6⟩, h7⟩ := h3
   obtain ⟨b, hbb⟩ : ∃ b : Nat, x.hb = b := ⟨x.hb.toNat, by omega⟩
   rw [hbb] at h4 h6 h7 h1
   have hsz : x.hr.size = 2 ^ b := by
    rw [Int.toNat_natCast] at h6
    have : ((2 : Int) ^ b) = ((2 ^ b : Nat) : Int) := by simp
    omega
   refine ⟨1, L, .reg b (strRegs x.hr), ?_, rfl, by omega, by omega, by omega, by rw [strRegs_len]; exact hsz, strRegs_le b x.hr h7⟩
   show x = skReg 1 L b (hlStr (strRegs x.hr))
   rw [strRegs_str]
   exact hx.trans h1
 ·have hbt : bottomB x.kind = 3 := by rw [hk]; rfl
  rw [hbt, hL] at l1
  have h1 : skCanon x = skCnt 2 L x.cr x.cc x.cl := by unfold skCanon; rw [hk, hL]; rfl
  have h2 : (cmRight x.cr x.cc x.cl && (x.cr == 2) && (x.cc == 32 / 2 ^ L)) = true := by
   unfold bodyRight at hb
   rw [hk, hL, Int.toNat_natCast] at hb
   exact hb
  rw [Bool.and_eq_true, Bool.and_eq_true, beq_iff_eq, beq_iff_eq] at h2
  obtain ⟨⟨h3, h4⟩, h5⟩ := h2
  unfold cmRight at h3
  rw [Bool.and_eq_true, beq_iff_eq] at h3
  have h6 := h3.2
  obtain ⟨c, hcc⟩ : ∃ c : Nat, x.cc = c := ⟨32 / 2 ^ L, by rw [h5]; simp⟩
  have hc32 : c * 2 ^ L = 32 := by
   have hc2 : (c : Int) = ((32 / 2 ^ L : Nat) : Int) := by rw [← hcc, h5]; simp
   have hc3 : c = 32 / 2 ^ L := by omega
   rw [hc3]
   rcases (by omega : L = 0 ∨ L = 1 ∨ L = 2 ∨ L = 3) with rfl | rfl | rfl | rfl <;> rfl
  rw [h4, hcc] at h6 h1
  refine ⟨2, L, .cnt c x.cl, ?_, rfl, by omega, hc32, by omega, hc⟩
  exact hx.trans h1
 ·have hbt : bottomB x.kind = 3 := by rw [hk]; rfl
  rw [hbt, hL] at l1
  have h1 : skCanon x = skBkt 3 L x.gf x.gl := by unfold skCanon; rw [hk, hL]; rfl
  have h2 : (hiRight x.gf x.gl && (x.gf == 3 - (L : Int))) = true := by
   unfold bodyRight at hb
   rw [hk, hL] at hb
   exact hb
  rw [Bool.and_eq_true, beq_iff_eq] at h2
  obtain ⟨h3, h4⟩ := h2
  unfold hiRight at h3
  rw [Bool.and_eq_true] at h3
  obtain ⟨u1, u2, u3, u4⟩ := hist_says x.gf x.gl (-1) h3.2
  obtain ⟨f, hf⟩ : ∃ f : Nat, x.gf = f := ⟨x.gf.toNat, by omega⟩
  rw [hf] at u4 h4 h1
  refine ⟨3, L, .bkt f x.gl, hx.trans h1, rfl, by omega, by omega, u1, u3, hg, u4⟩
end Go.Proofs.YthbhmnakmhambaaGreatDoor
namespace Go.Proofs.YthbhmnakmhambaaGreatDoor
open Go Go.RowKit Go.Shelf
theorem OnlyAt.trans {b : Nat} {W V U : World} (h1 : OnlyAt b W V) (h2 : OnlyAt b V U) : OnlyAt b W U := ⟨h2.1.trans h1.1, fun k hk => (h2.2 k hk).trans (h1.2 k hk)⟩
theorem set_same {W : World} {B i : Nat} {c : Array Value} {t : TypeId} {fz : Nat × Nat} {v : Value} (h : W.heap[B]? = some (.cells c t fz)) (hv : c[i]? = some v) : W.setCell ⟨B, i, none⟩ v = W := by
 have hc : c.setIfInBounds i v = c := by
  obtain ⟨hi, rfl⟩ := Array.getElem?_eq_some_iff.1 hv
  apply Array.ext (by simp)
  intro j h1 h2
  rw [Array.getElem_setIfInBounds]
  split
  ·rename_i e; subst e; rfl
  ·rfl
 have key : (W.setCell ⟨B, i, none⟩ v).heap = W.heap := by
  apply Array.ext (size_set W _ v)
  intro j h1 h2
  have a1 : (W.setCell ⟨B, i, none⟩ v).heap[j]? = W.heap[j]? := by
   by_cases hj : B = j
   ·subst hj
    rw [hSk h, h, hc]
   ·exact heap_set_other (p := ⟨B, i, none⟩) hj v
  rw [Array.getElem?_eq_getElem h1, Array.getElem?_eq_getElem h2] at a1
  exact Option.some.inj a1
 have e : W.setCell ⟨B, i, none⟩ v = { W with heap := (W.setCell ⟨B, i, none⟩ v).heap } := rfl
 rw [e, key]
theorem store3 {W : World} {b : Nat} {x y z : Value} (u v q : Value) {t : TypeId} (h : W.heap[b]? = some (.cells #[x, y, z] t (0, 0))) : ∃ V, ((W.setCell ⟨b, 0, none⟩ u).setCell ⟨b, 1, none⟩ v).setCell ⟨b, 2, none⟩ q = V ∧ V.heap[b]? = some (.cells #[u, v, q] t (0, 0)) ∧ OnlyAt b W V ∧ ∀ n w0, Below n w0 W → n ≤ b → Below n w0 V :=
 ⟨_, rfl, set_cells3 h, (((OnlyAt.refl _ _).set _ _).set _ _).set _ _, fun _ _ hB hn => ((hB.setCell (p := ⟨b, 0, none⟩) hn _).setCell (p := ⟨b, 1, none⟩) hn _).setCell (p := ⟨b, 2, none⟩) hn _⟩
theorem store10 {W : World} {b : Nat} {x0 x1 x2 x3 x4 x5 x6 x7 x8 x9 : Value} (v0 v1 v2 v3 v4 v5 v6 v7 v8 v9 : Value) {t : TypeId} (h : W.heap[b]? = some (.cells #[x0, x1, x2, x3, x4, x5, x6, x7, x8, x9] t (0, 0))) :
  ∃ V, (((((((((W.setCell ⟨b, 0, none⟩ v0).setCell ⟨b, 1, none⟩ v1).setCell ⟨b, 2, none⟩ v2).setCell ⟨b, 3, none⟩ v3).setCell ⟨b, 4, none⟩ v4).setCell ⟨b, 5, none⟩ v5).setCell ⟨b, 6, none⟩ v6).setCell ⟨b, 7, none⟩ v7).setCell ⟨b, 8, none⟩ v8).setCell ⟨b, 9, none⟩ v9 = V ∧
   V.heap[b]? = some (.cells #[v0, v1, v2, v3, v4, v5, v6, v7, v8, v9] t (0, 0)) ∧ OnlyAt b W V ∧ ∀ n w0, Below n w0 W → n ≤ b → Below n w0 V :=
 ⟨_, rfl, set10 h, ((((((((((OnlyAt.refl _ _).set _ _).set _ _).set _ _).set _ _).set _ _).set _ _).set _ _).set _ _).set _ _).set _ _,
  fun _ _ hB hn => (((((((((hB.setCell (p := ⟨b, 0, none⟩) hn _).setCell (p := ⟨b, 1, none⟩) hn _).setCell (p := ⟨b, 2, none⟩) hn _).setCell (p := ⟨b, 3, none⟩) hn _).setCell (p := ⟨b, 4, none⟩) hn _).setCell (p := ⟨b, 5, none⟩) hn _).setCell (p := ⟨b, 6, none⟩) hn _).setCell (p := ⟨b, 7, none⟩) hn _).setCell (p := ⟨b, 8, none⟩) hn _).setCell (p := ⟨b, 9, none⟩) hn _⟩
theorem BdAt.set_work {W V : World} {v : Value} {B : Bd} {b : Nat} {x y z : Value} {t : TypeId} (h : BdAt W v B) (hX : W.heap[b]? = some (.cells #[x, y, z] t (0, 0))) (hx : ∀ u, x ≠ .int .u64 u) (hy : ∀ u, y ≠ .int .u64 u) (hz : ∀ u, z ≠ .int .u64 u) (hV : OnlyAt b W V) : BdAt V v B :=
 h.apart hX (fun _ u => no_u64 hx hy hz u) hV
theorem SkB.apart {W V : World} {v : Value} {k L : Nat} {B : Bd} (h : SkB W v k L B) {b : Nat} {cs : Array Value} {t : TypeId} (hX : W.heap[b]? = some (.cells cs t (0, 0))) (hc : ∀ (i : Nat) (u : Int), cs[i]? ≠ some (Value.int .u64 u)) (hV : OnlyAt b W V) : SkB V v k L B := by
 obtain ⟨y, s, h0, h1, h2⟩ := h
 exact ⟨y, s, h0, h1, slC_apart (i0 := 0) (by decide) (fun x => ⟨x, rfl⟩) hX hc hV h2.e, slC_apart (i0 := 0) (by decide) (fun x => ⟨x, rfl⟩) hX hc hV h2.c, slC_apart (i0 := 1) (by decide) (fun x => ⟨x.2, rfl⟩) hX hc hV h2.g⟩
theorem noU_zero {i : Nat} (u : Int) : (#[.int .i64 0, .int .i64 0, .slice none 0 0, .int .i64 0, .string ⟨#[]⟩, .int .i64 0, .int .i64 0, .slice none 0 0, .int .i64 0, .slice none 0 0] : Array Value)[i]? ≠ some (.int .u64 u) := by
 intro h
 rcases i with _ | _ | _ | _ | _ | _ | _ | _ | _ | _ | i <;> simp at h
end Go.Proofs.YthbhmnakmhambaaGreatDoor

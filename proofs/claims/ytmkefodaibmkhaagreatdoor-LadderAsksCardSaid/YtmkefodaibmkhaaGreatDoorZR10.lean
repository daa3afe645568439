/- The laws of layer 10: what their rows have in common: the arguments opened, the variable errors.errorType. -/
import Derived.Test.YtmkefodaibmkhaaGreatDoorCards
import Derived.Test.YtmkefodaibmkhaaGreatDoorTie
import Derived.Test.YtmkefodaibmkhaaGreatDoorZLM
import Derived.Test.YtmkefodaibmkhaaGreatDoorZA6
import Derived.LaidHandle
import Derived.Shelf.Vars
import Derived.ChangeMaps5
namespace Go.Proofs.YtmkefodaibmkhaaGreatDoor
open Go Go.ChangeShapes Go.WideShapes Go.ChangeAt Go.RowKit Go.Lib Go.Deep Go.Shelf

theorem own : ownKnob Tryz.prog.godebug = none := by kernel_rfl
theorem laidOut : laidOutB Tryz.prog = true := by kernel_rfl
theorem undBool : Tryz.prog.underlying 4 = some .bool := by kernel_rfl
theorem undU64 : Tryz.prog.underlying 50 = some (.int .u64) := by kernel_rfl
theorem undStr : Tryz.prog.underlying 9 = some .string := by kernel_rfl
theorem undInt : Tryz.prog.underlying 3 = some (.int .i64) := by kernel_rfl

/-! ### the variable errors.errorType -/
def laidList : List (String × DataW Unit) := [("errors.errorType", Rows.laid_errors_errorType)]
theorem gET : Tryz.prog.globalNamed "errors.errorType" = some 2 := by kernel_rfl
theorem rtCut : (Tryz.prog.cutTypes.find? (·.1 == "internal/reflectlite.rtype")).map (·.2) = some 207 := by kernel_rfl
theorem oneRow : ((List.range 341).filter fun t => Tryz.prog.rowNamed t [101, 114, 114, 111, 114]) = [70] := by kernel_rfl
theorem typesSize : Tryz.prog.types.size = 341 := by kernel_rfl
theorem gt_of {W : World} (h : laidMetH Tryz.prog laidList W) : GT W := by
  have h' : laidMet Tryz.prog [] W ∧ handlesMet Tryz.prog laidList W := h
  obtain ⟨name, u, ty, e1, e2, e3, e4, e5⟩ := h'.2 _ (List.mem_singleton.2 rfl)
  have en : name = [101, 114, 114, 111, 114] := (Option.some.inj e1).symm
  subst en
  obtain rfl := Option.some.inj (rtCut.symm.trans e2)
  have hm : ty ∈ (List.range 341).filter fun t => Tryz.prog.rowNamed t [101, 114, 114, 111, 114] := List.mem_filter.2 ⟨List.mem_range.2 (by rw [← typesSize]; exact e3), e4⟩
  rw [oneRow] at hm
  obtain rfl := List.mem_singleton.1 hm
  have hh : typeHandle Tryz.prog 70 = .pointer (some ⟨5, 70, none⟩) := by kernel_rfl
  rw [hh] at e5
  have h9 := World.var?_cell gET e5 0
  simp at h9
  exact h9

section
variable {H : Type} {enc : TypeId × Value → H} {w : World} {base : Nat} {held : Bool}
theorem fields_of {P : Program} {t : TypeId} {fs : Array Field} {fuel : Nat} {cs : List Value} {x : DataW H × List MemPlace} (ht : P.underlying t = some (.struct fs)) (h : DataW.trod enc P w base (fun _ => true) held fuel t cs = some x) :
    cs.length = P.cellsOf t ∧ ∃ n, ∀ (i : Nat) (f : Field), fs[i]? = some f → ∃ y, DataW.trod enc P w base (fun _ => true) held n f.type ((cs.drop f.offset).take (P.cellsOf f.type)) = some y := by
  obtain ⟨xs, n, _, _, hl, hx, hf⟩ := DataW.trod_struct ht h
  refine ⟨hl, n, fun i f hi => ?_⟩
  have h1 := hf i f hi
  have h2 := (Array.getElem?_eq_some_iff.1 hi).1
  rw [List.getElem?_eq_getElem (by omega)] at h1
  exact ⟨_, h1⟩
theorem SlC.map {α β : Type} {encA : β → List Value} {k n : Nat} {a : Option Addr} {len cap : Nat} {f : α → β} {l : List α} (h : SlC (fun x => encA (f x)) k n w a len cap l) : SlC encA k n w a len cap (l.map f) :=
  ⟨⟨by rw [List.length_map]; exact h.1.1, fun j x hx => by rw [List.getElem?_map] at hx; obtain ⟨y, hy, rfl⟩ := Option.map_eq_some_iff.1 hx; exact h.1.2 j y hy⟩, h.2⟩
/-- A slice whose elements are read, and what is known of each. -/
theorem slC_open {P : Program} {α : Type} {t e : TypeId} {k : Nat} {encA : α → List Value} {Q : α → Prop} (hk : 0 < k) (ht : P.underlying t = some (.slice e)) (hc : P.cellsOf e = k)
    (hel : ∀ n cs x, DataW.trod enc P w base (fun _ => true) held n e cs = some x → ∃ y, cs = encA y ∧ Q y) {fuel : Nat} {v : Value} {x : DataW H × List MemPlace}
    (h : DataW.trod enc P w base (fun _ => true) held fuel t [v] = some x) : ∃ a len cap l, v = .slice a len cap ∧ SlC encA k w.heap.size w a len cap l ∧ ∀ y ∈ l, Q y := by
  obtain ⟨a, len, cap, rfl⟩ : ∃ a len cap, v = .slice a len cap := by
    rcases open_slice ht h with ⟨h0, _⟩ | ⟨a', len', cap', m, n, D, Pl, hcs, -⟩
    · simp only [List.cons.injEq, and_true] at h0; exact ⟨_, _, _, h0⟩
    · simp only [List.cons.injEq, and_true] at hcs; exact ⟨_, _, _, hcs⟩
  obtain ⟨l, hl⟩ := slC_of_trod (encA := fun y : { y // Q y } => encA y.1) hk ht hc (fun n cs x hx => by obtain ⟨y, h1, h2⟩ := hel n cs x hx; exact ⟨⟨y, h2⟩, h1⟩) h
  refine ⟨a, len, cap, l.map (·.1), rfl, hl.map, fun y hy => ?_⟩
  obtain ⟨z, _, rfl⟩ := List.mem_map.1 hy
  exact z.2
theorem wf_u64 {n : Int} (w0 : (Lit.int .u64 n).wf = true) : U64 n := by
  simp only [Lit.wf, IntKind.min, IntKind.max, IntKind.signed, IntKind.bits, Bool.and_eq_true] at w0
  exact ⟨by simpa using w0.1, by have := w0.2; simp at this; omega⟩
theorem wf_i64 {n : Int} (w0 : (Lit.int .i64 n).wf = true) : I64 n := by
  simp only [Lit.wf, IntKind.min, IntKind.max, IntKind.signed, IntKind.bits, Bool.and_eq_true] at w0
  exact ⟨by have := w0.1; simp at this; omega, by have := w0.2; simp at this; omega⟩
theorem u64_elem (n : Nat) (cs : List Value) (x : DataW H × List MemPlace) (h : DataW.trod enc Tryz.prog w base (fun _ => true) held n 50 cs = some x) : ∃ y : Int, cs = encU y ∧ U64 y := by
  obtain ⟨s0, c0, -, w0⟩ := DataW.trod_int undU64 h
  exact ⟨s0, c0, wf_u64 w0⟩
theorem bin_elem (n : Nat) (cs : List Value) (x : DataW H × List MemPlace) (h : DataW.trod enc Tryz.prog w base (fun _ => true) held n 145 cs = some x) : ∃ y : Int × Int, cs = encB y ∧ (I64 y.1 ∧ U64 y.2) := by
  obtain ⟨hl, m, hf⟩ := struct_cells Tryz.underlying145 (by kernel_rfl) (by kernel_rfl) h
  obtain ⟨v0, y0, e0, h0⟩ := hf 0 _ rfl
  obtain ⟨v1, y1, e1, h1⟩ := hf 1 _ rfl
  obtain ⟨s0, c0, -, w0⟩ := DataW.trod_int undInt h0
  obtain ⟨s1, c1, -, w1⟩ := DataW.trod_int undU64 h1
  match cs, hl with
  | [a, b], _ =>
    simp only [List.getElem?_cons_zero, List.getElem?_cons_succ, Option.some.injEq, List.cons.injEq, and_true] at e0 e1 c0 c1
    exact ⟨(s0, s1), by rw [e0, e1, c0, c1]; rfl, wf_i64 w0, wf_u64 w1⟩
set_option maxRecDepth 100000 in
theorem item_elem (n : Nat) (cs : List Value) (x : DataW H × List MemPlace) (h : DataW.trod enc Tryz.prog w base (fun _ => true) held n 52 cs = some x) : ∃ y : Nat × Int, cs = encIt y ∧ Item.ok y := by
  obtain ⟨hl, m, hf⟩ := struct_cells Tryz.underlying52 (by kernel_rfl) (by kernel_rfl) h
  obtain ⟨v0, y0, e0, h0⟩ := hf 0 _ rfl
  obtain ⟨v1, y1, e1, h1⟩ := hf 1 _ rfl
  obtain ⟨s0, c0, -, w0⟩ := DataW.trod_int undU64 h0
  obtain ⟨s1, c1, -, w1⟩ := DataW.trod_int undU64 h1
  match cs, hl with
  | [a, b], _ =>
    simp only [List.getElem?_cons_zero, List.getElem?_cons_succ, Option.some.injEq, List.cons.injEq, and_true] at e0 e1 c0 c1
    obtain ⟨p1, p2⟩ := wf_u64 w0
    refine ⟨(s0.toNat, s1), ?_, ?_, wf_u64 w1⟩
    · rw [e0, e1, c0, c1]
      show _ = [Value.int .u64 ((s0.toNat : Nat) : Int), .int .u64 s1]
      rw [Int.toNat_of_nonneg p1]
    · show s0.toNat < 2 ^ 64
      omega
set_option maxRecDepth 100000 in
theorem open_items {r : Reach} {b0 : Nat} {v : Value} {d : DataW H} {p : List MemPlace} (hv : Value.okWide Tryz.prog w r b0 22 v) (h : DataW.Trod enc Tryz.prog w base (fun _ => true) held 22 v d p) :
    ∃ a len cap l, v = .slice a len cap ∧ SlC encIt 2 w.heap.size w a len cap l ∧ ∀ i ∈ l, Item.ok i := by
  obtain ⟨a, len, cap, rfl⟩ := okWide_slice Tryz.underlying22 hv
  obtain ⟨fuel, hf⟩ := h
  obtain ⟨a', len', cap', l, e, S, U⟩ := slC_open (k := 2) (encA := encIt) (by omega) Tryz.underlying22 (by kernel_rfl) item_elem hf
  injection e with e1 e2 e3
  subst e1 e2 e3
  exact ⟨a, len, cap, l, rfl, S, U⟩
end

/-! ### a world for the witnesses: the variable as the program lays it -/
noncomputable def laidWorld (os : Os) : World :=
  let w0 := World.holding Tryz.prog os ⟨#[], #[], []⟩
  { w0 with heap := w0.heap.modify 2 fun
      | .cells _ t frozen => .cells #[.iface 207 (.agg #[.pointer (some ⟨5, 70, none⟩)])] t frozen
      | o => o }
theorem laid_met (os : Os) (args : Array Value) : laidMetH Tryz.prog laidList ((laidWorld os).forCall (fun _ _ => 0) ⟨#[], args, []⟩).memory :=
  laidMetH_of_parts (laidMet_nil _ _) (by kernel_rfl)
end Go.Proofs.YtmkefodaibmkhaaGreatDoor

/- Sketches as plain data; which are right (layers 6 to 10). No program in sight. An address moved on, as a slice expression moves it. Of no program. Maps whose keys are integers written out: a new map that is filled, a look-up in it. Of no program. A region that draws its order and whose last operation stands behind all others. Of no program. Regions that draw their order inside a round: by the walk outside of one. Of no program. -/
import Derived.Test.YtmkefodaibmkhaaGreatDoorZA6
import Derived.WideMake
import Derived.Shelf.RegionOpen
namespace Go.Proofs.YtmkefodaibmkhaaGreatDoor
open Go Go.RowKit

structure Sk where
  kind : Int
  level : Int
  e : List Int
  hb : Int
  hr : ByteArray
  cr : Int
  cc : Int
  cl : List Int
  gf : Int
  gl : List (Int × Int)
def encU (n : Int) : List Value := [.int .u64 n]
def encB (b : Int × Int) : List Value := [.int .i64 b.1, .int .u64 b.2]
def U64s (l : List Int) : Prop := ∀ n ∈ l, U64 n
def I64 (n : Int) : Prop := -9223372036854775808 ≤ n ∧ n ≤ 9223372036854775807
def Bins (l : List (Int × Int)) : Prop := ∀ b ∈ l, I64 b.1 ∧ U64 b.2

/-! ### layer 6 -/
def exStep (st : Option Int) (n : Int) : Option (Option Int) := if (match st with | none => false | some m => decide (n ≤ m)) then none else some (some n)
def exRight (l : List Int) : Bool := decide (l.length ≤ 64) && (foldO exStep none l).isSome
theorem exStep_last (l : List Int) : ∀ st r, foldO exStep st l = some r → r = l.getLast?.or st := by
  induction l with
  | nil => intro st r h; simpa [foldO_nil] using h.symm
  | cons x xs ih =>
    intro st r h
    rw [foldO_cons] at h
    cases hx : exStep st x with
    | none => rw [hx] at h; cases h
    | some y =>
      rw [hx] at h
      have hy : y = some x := by
        unfold exStep at hx
        generalize (match st with | none => false | some m => decide (x ≤ m)) = c at hx
        cases c
        · simpa using hx.symm
        · simp at hx
      have := ih y r h
      rw [this, hy, List.getLast?_cons]
      cases xs.getLast? <;> rfl

/-! ### layer 7 -/
def isBitsB (n : Int) : Bool := decide (3 ≤ n) && decide (n ≤ 8)
def regsOk (b : Int) (r : ByteArray) : Bool := r.data.toList.all fun c => !decide (65 - b < (c.toNat : Int))
def hlRight (b : Int) (r : ByteArray) : Bool := isBitsB b && ((r.size : Int) == 2 ^ b.toNat) && regsOk b r

/-! ### layer 8 -/
def isShapeB (rows cols : Int) : Bool := decide (1 ≤ rows) && decide (rows ≤ 4) && decide (4 ≤ cols) && decide (cols ≤ 32) && (bits .and .i64 cols (cols - 1) == 0)
def cmRight (rows cols : Int) (l : List Int) : Bool := isShapeB rows cols && ((l.length : Int) == rows * cols)

/-! ### layer 9 -/
def isFineB (n : Int) : Bool := decide (0 ≤ n) && decide (n ≤ 3)
/-- Is there such a bucket? -/
def boundsB (fine n : Int) : Bool :=
  if isFineB fine && decide (0 ≤ n) then
    (if n == 0 then true else if 64 ≤ (n - 1) / 2 ^ fine.toNat then false else if fine ≤ (n - 1) / 2 ^ fine.toNat then true
      else bits .and .i64 (bits .and .i64 (n - 1) (2 ^ fine.toNat - 1)) (2 ^ (fine - (n - 1) / 2 ^ fine.toNat).toNat - 1) == 0)
  else false
def histStep (fine : Int) (before : Int) (b : Int × Int) : Option Int := if b.2 == 0 || !boundsB fine b.1 || decide (b.1 ≤ before) then none else some b.1
def hiRight (fine : Int) (l : List (Int × Int)) : Bool := isFineB fine && (foldO (histStep fine) (-1) l).isSome

/-! ### layer 10 -/
def bottomB (kind : Int) : Int := if kind == 1 then 4 else if kind == 2 || kind == 3 then 3 else -1
/-- Its body is right. -/
def bodyRight (x : Sk) : Bool :=
  if x.kind == 1 then (if x.level == 0 then exRight x.e else hlRight x.hb x.hr && (x.hb == 8 - x.level))
  else if x.kind == 2 then cmRight x.cr x.cc x.cl && (x.cr == 2) && (x.cc == 32 / 2 ^ x.level.toNat)
  else hiRight x.gf x.gl && (x.gf == 3 - x.level)
def noE (x : Sk) : Bool := x.e.length == 0
def noH (x : Sk) : Bool := x.hb == 0 && x.hr.size == 0
def noC (x : Sk) : Bool := x.cr == 0 && x.cc == 0 && x.cl.length == 0
def noG (x : Sk) : Bool := x.gf == 0 && x.gl.length == 0
/-- What it is not is empty. -/
def restNone (x : Sk) : Bool :=
  if x.kind == 1 then (if x.level == 0 then noH x && noC x && noG x else noE x && noC x && noG x)
  else if x.kind == 2 then noE x && noH x && noG x
  else noE x && noH x && noC x
def skRight (x : Sk) : Bool := decide (1 ≤ x.kind) && decide (x.kind ≤ 3) && decide (0 ≤ x.level) && decide (x.level ≤ bottomB x.kind) && bodyRight x && restNone x
def skCost (x : Sk) : Int := if skRight x then 16 + (if x.kind == 1 then (if x.level == 0 then 8 * (x.e.length : Int) else x.hr.size) else if x.kind == 2 then 8 * (x.cl.length : Int) else 16 * (x.gl.length : Int)) else 0
/-- Same, field by field. -/
def skSame (x y : Sk) : Bool := x.kind == y.kind && x.level == y.level && (x.hb == y.hb && x.hr.toList == y.hr.toList) && x.e == y.e && (x.cr == y.cr && x.cc == y.cc && x.cl == y.cl) && (x.gf == y.gf && x.gl == y.gl)

/-- Where the lists of a sketch lie. -/
structure SS where
  ea : Option Addr
  el : Nat
  ec : Nat
  ca : Option Addr
  cl : Nat
  cc : Nat
  ga : Option Addr
  gl : Nat
  gc : Nat
/-- The lists of a sketch in memory. -/
structure SS.At (s : SS) (n₀ : Nat) (w : World) (x : Sk) : Prop where
  e : SlC encU 1 n₀ w s.ea s.el s.ec x.e
  c : SlC encU 1 n₀ w s.ca s.cl s.cc x.cl
  g : SlC encB 2 n₀ w s.ga s.gl s.gc x.gl
theorem SS.At.go {s : SS} {A B : World} {x : Sk} (h : s.At A.heap.size A x) (hb : Below A.heap.size A B) : s.At B.heap.size B x := ⟨h.e.go hb, h.c.go hb, h.g.go hb⟩
theorem SS.At.below {s : SS} {n : Nat} {A B : World} {x : Sk} (h : s.At n A x) (hb : Below n A B) : s.At n B x := ⟨h.e.below hb, h.c.below hb, h.g.below hb⟩
theorem SS.At.mono {s : SS} {n m : Nat} {A : World} {x : Sk} (h : s.At n A x) (hn : n ≤ m) : s.At m A x := ⟨h.e.mono hn, h.c.mono hn, h.g.mono hn⟩
/-- A sketch as a value. -/
def skVal (x : Sk) (s : SS) : Value := .agg #[.int .i64 x.kind, .int .i64 x.level, .slice s.ea s.el s.ec, .int .i64 x.hb, .string x.hr, .int .i64 x.cr, .int .i64 x.cc, .slice s.ca s.cl s.cc, .int .i64 x.gf, .slice s.ga s.gl s.gc]
def SkAt (n₀ : Nat) (w : World) (v : Value) (x : Sk) : Prop := ∃ s : SS, v = skVal x s ∧ s.At n₀ w x
/-- The numbers of a sketch are what their types hold. -/
def Sk.ok (x : Sk) : Prop := I64 x.kind ∧ I64 x.level ∧ U64s x.e ∧ I64 x.hb ∧ I64 x.cr ∧ I64 x.cc ∧ U64s x.cl ∧ I64 x.gf ∧ Bins x.gl
end Go.Proofs.YtmkefodaibmkhaaGreatDoor
namespace Go.Proofs.YtmkefodaibmkhaaGreatDoor
open Go Go.RowKit Go.Shelf

/-- An address moved on, as a slice expression moves it. -/
def dropA (a : Option Addr) (cap m k : Nat) : Option Addr := if cap = m then a else a.map (·.add (m * k))
theorem SlC.drop {α : Type} {enc : α → List Value} {k n₀ : Nat} {w : World} {a : Option Addr} {len cap : Nat} {l : List α} (hs : SlC enc k n₀ w a len cap l) (m : Nat) (hm : m ≤ len) : SlC enc k n₀ w (dropA a cap m k) (len - m) (cap - m) (l.drop m) := by
  have hl := hs.1.1
  have hc := hs.2.1
  have hmx := hs.2.2.1
  refine ⟨⟨by rw [List.length_drop]; omega, fun j x hx => ?_⟩, by omega, by omega, fun h => ?_, fun x hx hpos => ?_⟩
  · rw [List.getElem?_drop] at hx
    obtain ⟨b, off, e, hb, hcell⟩ := hs.1.2 (m + j) x hx
    have hlt := (List.getElem?_eq_some_iff.1 hx).1
    refine ⟨b, off + m * k, ?_, hb, fun i hi => ?_⟩
    · rw [dropA, if_neg (by omega), e, Option.map_some, add_none rfl]
    · rw [← hcell i hi]; congr 2; rw [Nat.add_mul]; omega
  · by_cases h0 : cap = m
    · omega
    · rw [dropA, if_neg h0] at h
      have := hs.2.2.2.1 (by simpa using h)
      omega
  · rw [dropA, if_neg (by omega)] at hx
    cases a with
    | none => cases hx
    | some z =>
      obtain ⟨h1, h2⟩ := hs.2.2.2.2 z rfl (by omega)
      rw [Option.map_some] at hx
      injection hx with hx
      rw [← hx, add_none h1]
      exact ⟨rfl, h2⟩
theorem dropA_zero (a : Option Addr) (cap k : Nat) : dropA a cap 0 k = a := by
  unfold dropA
  split
  · rfl
  · cases a <;> simp [Addr.add]
end Go.Proofs.YtmkefodaibmkhaaGreatDoor
namespace Go.Proofs.YtmkefodaibmkhaaGreatDoor
open Go Go.RowKit

theorem alloc_put (w : World) (o o' : Obj) : { w.alloc o with heap := (w.alloc o).heap.setIfInBounds w.heap.size o' } = w.alloc o' := by
  have : (w.heap.push o).setIfInBounds w.heap.size o' = w.heap.push o' := by
    apply Array.ext
    · simp
    · intro i h1 h2
      rw [Array.getElem_setIfInBounds (by simpa using h2)]
      by_cases hi : w.heap.size = i
      · subst hi; simp
      · have h3 : i < w.heap.size := by simp at h2; omega
        simp [hi, Array.getElem_push_lt h3]
  unfold World.alloc
  simp only [this]
theorem mapUpd_alloc {P : Program} (w : World) {mty kt et : TypeId} {ik : IntKind} {clock : Nat} {es : Array MapEntry} {n : Int} (val : Value) (hm : P.underlying mty = some (.map kt et)) (hk : P.underlying kt = some (.int ik))
    (hf : Instr.findNow (.int ik) (.int ik n) es.toList 0 = some none) :
    (Instr.mapUpdate mty (.map (some w.heap.size)) (.int ik n) val).run P (w.alloc (.map es clock)) = .ok () (w.alloc (.map (es.push { key := .int ik n, val := val, born := clock }) (clock + 1))) := by
  have hb : (w.alloc (.map es clock)).heap[w.heap.size]? = some (.map es clock) := World.alloc_heap_new _ _
  have hc : (Instr.checkKey false 10000 kt (.int ik n)).run P (w.alloc (.map es clock)) = .ok () (w.alloc (.map es clock)) := MapKept.run_checkKey (k := .int ik n) hk (by simp [MapKept.IsKey]) false 9999
  simp [Instr.mapUpdate, run_underlying hm, MapKept.run_getObj_map hb, hc, MapKept.run_findKey hk hf, MapKept.run_setObj_map _ hb, Result.andThen]
  exact alloc_put w _ _
theorem look_int {P : Program} {w : World} {mty kt et : TypeId} {ik : IntKind} {r clock : Nat} {es : Array MapEntry} {n : Int} {i : Nat} {v : Value} (hm : P.underlying mty = some (.map kt et)) (hk : P.underlying kt = some (.int ik))
    (hb : w.heap[r]? = some (.map es clock)) (hf : Instr.findNow (.int ik) (.int ik n) es.toList 0 = some (some (i, v))) :
    (Instr.lookup mty (.map (some r)) (.int ik n) true).run P w = .ok (.tuple #[v, .bool true]) w ∧ (Instr.lookup mty (.map (some r)) (.int ik n) false).run P w = .ok v w := by
  have hc : ∀ b, (Instr.checkKey b 10000 kt (.int ik n)).run P w = .ok () w := fun b => MapKept.run_checkKey (k := .int ik n) hk (by simp [MapKept.IsKey]) b 9999
  constructor <;> simp [Instr.lookup, run_underlying hm, MapKept.run_getObj_map hb, hc, MapKept.run_findKey hk hf, Result.andThen]
theorem look_int_none {P : Program} {w : World} {mty kt et : TypeId} {ik : IntKind} {r clock : Nat} {es : Array MapEntry} {n : Int} {z : Value} (hm : P.underlying mty = some (.map kt et)) (hk : P.underlying kt = some (.int ik))
    (hb : w.heap[r]? = some (.map es clock)) (hz : (zeroValue et).run P w = .ok z w) (hf : Instr.findNow (.int ik) (.int ik n) es.toList 0 = some none) :
    (Instr.lookup mty (.map (some r)) (.int ik n) true).run P w = .ok (.tuple #[z, .bool false]) w := by
  have hc : ∀ b, (Instr.checkKey b 10000 kt (.int ik n)).run P w = .ok () w := fun b => MapKept.run_checkKey (k := .int ik n) hk (by simp [MapKept.IsKey]) b 9999
  simp [Instr.lookup, run_underlying hm, MapKept.run_getObj_map hb, hc, MapKept.run_findKey hk hf, hz, Result.andThen]
end Go.Proofs.YtmkefodaibmkhaaGreatDoor
namespace Go.Proofs.YtmkefodaibmkhaaGreatDoor
open Go Go.RowKit

section
variable {P : Program} {pre : Array Oper} {o : Oper} {Q : Exit → Act → World → Prop} {md : Region.Mode}
/-- The last operation waits for every other one; the others wait for earlier ones alone; no guards. -/
def lastB (md : Region.Mode) (pre : Array Oper) (o : Oper) : Bool :=
  o.guard.isNone && pre.toList.all (·.guard.isNone) &&
  (List.range pre.size).all (fun j => o.after.toList.any fun e => Region.binds md e && e.on == j) &&
  o.after.toList.all (fun e => !Region.binds md e || decide (e.on < pre.size)) &&
  (List.range pre.size).all (fun i => ((pre[i]?).map fun p => p.after.toList.all fun e => !Region.binds md e || decide (e.on < i)).getD true)
/-- What is asked of the others: the last one's step. -/
def lastQ (P : Program) (o : Oper) (Q : Exit → Act → World → Prop) : Exit → Act → World → Prop
  | .normal, a, w => o.wp P a w (fun a' w' => Q .normal a' w') Q
  | e, a, w => Q e a w
theorem wp_monoQ {o' : Oper} {a : Act} {w : World} {K : Act → World → Prop} (h : o'.wp P a w K (lastQ P o Q)) : o'.wp P a w K Q := by
  unfold Oper.wp at *
  generalize (execOp a.eval o').run P w = r at *
  cases r with
  | ok n w' =>
    cases n <;> simp only [Oper.upon] at h ⊢ <;>
      first
        | exact h
        | exact Calls.mono h (fun e w'' he => by cases e <;> first | exact he | exact (let ⟨a, w, hq⟩ := he; ⟨a, w, hq⟩))
  | halt x w' => cases x <;> simp only [Oper.upon] at h ⊢ <;> exact h
theorem ready_mem {ops : Array Oper} {L : Array Bool} {i : Nat} : i ∈ Region.ready md ops L ↔ i < ops.size ∧ L.getD i true = false ∧ ∃ p, ops[i]? = some p ∧ ∀ e ∈ p.after, Region.binds md e = true → L.getD e.on false = true := by
  unfold Region.ready
  rw [List.mem_filter, List.mem_range]
  constructor
  · rintro ⟨h1, h2⟩
    rw [Bool.and_eq_true] at h2
    refine ⟨h1, by simpa using h2.1, ops[i], Array.getElem?_eq_getElem h1, ?_⟩
    have h3 := h2.2
    rw [Array.getElem?_eq_getElem h1] at h3
    simp only [Option.map_some, Option.getD_some] at h3
    rw [Array.all_eq_true_iff_forall_mem] at h3
    intro e he hb
    have := h3 e he
    simpa [hb] using this
  · rintro ⟨h1, h2, p, hp, h3⟩
    refine ⟨h1, ?_⟩
    rw [Bool.and_eq_true]
    refine ⟨by simp [h2], ?_⟩
    rw [hp]
    simp only [Option.map_some, Option.getD_some]
    rw [Array.all_eq_true_iff_forall_mem]
    intro e he
    cases hb : Region.binds md e
    · rfl
    · simpa using h3 e he hb

structure LastOk (md : Region.Mode) (pre : Array Oper) (o : Oper) : Prop where
  go : o.guard = none
  gp : ∀ (i : Nat) p, pre[i]? = some p → p.guard = none
  last : ∀ j, j < pre.size → ∃ e ∈ o.after, Region.binds md e = true ∧ e.on = j
  lt : ∀ e ∈ o.after, Region.binds md e = true → e.on < pre.size
  lex : ∀ (i : Nat) p, pre[i]? = some p → ∀ e ∈ p.after, Region.binds md e = true → e.on < i
theorem lastB_ok (h : lastB md pre o = true) : LastOk md pre o := by
  simp only [lastB, Bool.and_eq_true, List.all_eq_true, List.any_eq_true, List.mem_range] at h
  obtain ⟨⟨⟨⟨h1, h2⟩, h3⟩, h4⟩, h5⟩ := h
  refine ⟨by simpa using h1, fun i p hp => ?_, fun j hj => ?_, fun e he hb => ?_, fun i p hp e he hb => ?_⟩
  · have := h2 p (by rw [← Array.getElem?_toList] at hp; exact List.mem_of_getElem? hp)
    simpa using this
  · obtain ⟨e, he, hb, ho⟩ := h3 j hj
    exact ⟨e, by simpa using he, hb, by simpa using ho⟩
  · have := h4 e (by simpa using he)
    simpa [hb] using this
  · have hi := (Array.getElem?_eq_some_iff.1 hp).1
    have := h5 i hi
    rw [hp] at this
    simp only [Option.map_some, Option.getD_some, List.all_eq_true] at this
    have := this e (by simpa using he)
    simpa [hb] using this
theorem getD_push (L : Array Bool) (n : Nat) : (L.push false).getD n false = L.getD n false := by
  simp only [Array.getD_eq_getD_getElem?, Array.getElem?_push]
  split
  · rename_i h; subst h; simp
  · rfl
theorem ready_nil {L : Array Bool} (hk : LastOk md pre o) (hL : L.size = pre.size) (h : Region.ready md pre L = []) : ∀ j, j < pre.size → L.getD j false = true := by
  intro j
  induction j using Nat.strongRecOn with
  | ind j ih =>
    intro hj
    cases hv : L.getD j false with
    | true => rfl
    | false =>
      exfalso
      have hm : j ∈ Region.ready md pre L := ready_mem.2 ⟨hj, by
        have hjl : j < L.size := by omega
        simp only [Array.getD_eq_getD_getElem?, Array.getElem?_eq_getElem hjl, Option.getD_some] at hv ⊢
        exact hv, pre[j], Array.getElem?_eq_getElem hj, fun e he hb => ih e.on (hk.lex j _ (Array.getElem?_eq_getElem hj) e he hb) (by have := hk.lex j _ (Array.getElem?_eq_getElem hj) e he hb; omega)⟩
      rw [h] at hm
      cases hm
theorem ready_sub {L : Array Bool} (hL : L.size = pre.size) {i : Nat} (h : i ∈ Region.ready md pre L) : i ∈ Region.ready md (pre.push o) (L.push false) := by
  obtain ⟨h1, h2, p, hp, h3⟩ := ready_mem.1 h
  refine ready_mem.2 ⟨by simp; omega, ?_, p, ?_, fun e he hb => by rw [getD_push]; exact h3 e he hb⟩
  · have : i ≠ L.size := by omega
    simpa [Array.getD_eq_getD_getElem?, Array.getElem?_push, this] using h2
  · rw [Array.getElem?_push, if_neg (by omega)]; exact hp
theorem ready_or {L : Array Bool} (hk : LastOk md pre o) (hL : L.size = pre.size) {i : Nat} (h : i ∈ Region.ready md (pre.push o) (L.push false)) :
    i ∈ Region.ready md pre L ∨ (i = pre.size ∧ ∀ j, j < pre.size → L.getD j false = true) := by
  obtain ⟨h1, h2, p, hp, h3⟩ := ready_mem.1 h
  by_cases hi : i = pre.size
  · subst hi
    rw [Array.getElem?_push_size] at hp
    cases hp
    refine .inr ⟨rfl, fun j hj => ?_⟩
    obtain ⟨e, he, hb, rfl⟩ := hk.last j hj
    rw [← getD_push]
    exact h3 e he hb
  · have hs : i < pre.size := by simp at h1; omega
    rw [Array.getElem?_push, if_neg hi] at hp
    refine .inl (ready_mem.2 ⟨hs, ?_, p, hp, fun e he hb => by rw [← getD_push]; exact h3 e he hb⟩)
    have : i ≠ L.size := by omega
    simpa [Array.getD_eq_getD_getElem?, Array.getElem?_push, this] using h2
theorem ready_all {ops : Array Oper} {L : Array Bool} (hL : L.size = ops.size) (h : ∀ j, j < ops.size → L.getD j false = true) : Region.ready md ops L = [] := by
  rw [List.eq_nil_iff_forall_not_mem]
  intro i hi
  obtain ⟨h1, h2, _⟩ := ready_mem.1 hi
  have h3 := h i h1
  have hjl : i < L.size := by omega
  simp only [Array.getD_eq_getD_getElem?, Array.getElem?_eq_getElem hjl, Option.getD_some] at h2 h3
  rw [h2] at h3
  cases h3
theorem wpAny_at_end {ops : Array Oper} {L : Array Bool} {a : Act} {w : World} (h : Region.ready md ops L = []) (hq : Q .normal a w) : ∀ fuel, wpAny P md ops Q fuel L a w
  | 0 => ⟨h, hq⟩
  | _ + 1 => ⟨fun _ => hq, fun i hi => by rw [h] at hi; cases hi⟩
theorem wpOp_last {K : Act → World → Prop} {a : Act} {w : World} (hk : LastOk md pre o) (hK : ∀ a w, Q .normal a w → K a w) (h : lastQ P o Q .normal a w) : wpOp P (pre.push o) Q pre.size K a w := by
  unfold wpOp
  rw [Array.getElem?_push_size]
  simp only [Region.wanted, hk.go, if_true]
  exact .inl (Oper.wp_mono hK h)
theorem wpAny_last (hk : LastOk md pre o) (fuel : Nat) : ∀ (L : Array Bool) (a : Act) (w : World), L.size = pre.size → wpAny P md pre (lastQ P o Q) fuel L a w → wpAny P md (pre.push o) Q (fuel + 1) (L.push false) a w := by
  have hne : ∀ L : Array Bool, L.size = pre.size → Region.ready md (pre.push o) (L.push false) ≠ [] := fun L hL h0 => by
    cases hr : Region.ready md pre L with
    | nil =>
      have hall := ready_nil hk hL hr
      have hm : pre.size ∈ Region.ready md (pre.push o) (L.push false) := ready_mem.2 ⟨by simp, by simp [Array.getD_eq_getD_getElem?, ← hL], o, Array.getElem?_push_size, fun e he hb => by rw [getD_push]; exact hall _ (hk.lt e he hb)⟩
      rw [h0] at hm; cases hm
    | cons i r =>
      have hm := ready_sub (o := o) hL (show i ∈ Region.ready md pre L by rw [hr]; exact List.mem_cons_self ..)
      rw [h0] at hm; cases hm
  have hend : ∀ (L : Array Bool), L.size = pre.size → (∀ j, j < pre.size → L.getD j false = true) → Region.ready md (pre.push o) ((L.push false).setIfInBounds pre.size true) = [] := fun L hL hall => by
    refine ready_all (by simp [hL]) (fun j hj => ?_)
    simp only [Array.getD_eq_getD_getElem?, Array.getElem?_setIfInBounds, Array.size_push]
    by_cases hjp : pre.size = j
    · rw [if_pos hjp, if_pos (by omega)]; rfl
    · rw [if_neg hjp]
      have := hall j (by simp at hj; omega)
      rw [← getD_push, Array.getD_eq_getD_getElem?] at this
      exact this
  induction fuel with
  | zero =>
    intro L a w hL h
    refine ⟨fun h0 => absurd h0 (hne L hL), fun i hi => ?_⟩
    rcases ready_or hk hL hi with h1 | ⟨rfl, hall⟩
    · rw [h.1] at h1; cases h1
    · exact wpOp_last hk (fun a w hq => wpAny_at_end (hend L hL hall) hq _) h.2
  | succ k ih =>
    intro L a w hL h
    refine ⟨fun h0 => absurd h0 (hne L hL), fun i hi => ?_⟩
    rcases ready_or hk hL hi with h1 | ⟨rfl, hall⟩
    · have h2 := h.2 i h1
      obtain ⟨hs, _, p, hp, _⟩ := ready_mem.1 h1
      have hp' : (pre.push o)[i]? = some p := by rw [Array.getElem?_push, if_neg (by omega)]; exact hp
      unfold wpOp at h2 ⊢
      rw [hp] at h2
      rw [hp']
      simp only [Region.wanted, hk.gp i p hp, if_true] at h2 ⊢
      rcases h2 with h2 | ⟨h2, b, v, h3⟩
      · refine .inl (Oper.wp_mono (fun a' w' h' => ?_) (wp_monoQ h2))
        have h4 := ih (L.setIfInBounds i true) a' w' (by simp [hL]) h'
        have e : (L.push false).setIfInBounds i true = (L.setIfInBounds i true).push false := by
          apply Array.ext_getElem?
          intro n
          simp only [Array.getElem?_setIfInBounds, Array.getElem?_push, Array.size_push, Array.size_setIfInBounds]
          by_cases h5 : i = n
          · subst h5
            rw [if_pos rfl, if_pos (by omega), if_neg (by omega), if_pos rfl, if_pos (by omega)]
          · simp [h5]
        rw [e]; exact h4
      · exact .inr ⟨h2, b, v, h3⟩
    · refine wpOp_last hk (fun a w hq => wpAny_at_end (hend L hL hall) hq _) (h.1 (ready_all hL hall))
end
/-- A region whose operations are quiet in a class of worlds, but for the last one, which stands behind all others: one walk in the text's order, then the last one's step in every world of the class. -/
theorem wp_region_class_last {P : Program} (Inv : World → Prop) {id : Nat} {Q : Exit → Act → World → Prop} {a : Act} {w : World} {l : List Oper} {o : Oper} (hm : P.follows .mixedOrders = true) (hB : Region.lexB .any l.toArray = true) (hb : lastB .any l.toArray o = true) (hC : Inv w.drew)
    (h : wpQuiet P l.toArray (fun w' => ∃ X : WIn Inv, w' = X.world) (fun a' => ∀ w', (∃ X : WIn Inv, w' = X.world) → o.wp P a' w' (fun a'' w'' => Q .normal a'' w'') Q) l a) : (Code.region id (l ++ [o]).toArray true).wp P Q a w := by
  refine wp_region_any hm ?_
  have hB' := hB
  simp only [Region.lexB, Bool.and_eq_true] at hB'
  have h1 := wpAnyQ_lex (C := fun w' => ∃ X : WIn Inv, w' = X.world) (md := .any) hB'.1 l 0 (Array.replicate l.toArray.size false) a (by simp) (by simpa using hB'.2) h
  have h2 := wpAny_of_quiet (Q' := lastQ P o Q) (fun a' w' hw' hh => hh w' hw') _ _ _ w.drew ⟨⟨_, hC⟩, rfl⟩ h1
  have h3 := wpAny_last (lastB_ok hb) _ _ _ _ (by simp) h2
  have e1 : (l ++ [o]).toArray = l.toArray.push o := by simp
  rw [e1]
  have e2 : Array.replicate (l.toArray.push o).size false = (Array.replicate l.toArray.size false).push false := by simp [Array.replicate_succ]
  rw [e2]
  simpa using h3
end Go.Proofs.YtmkefodaibmkhaaGreatDoor
namespace Go.Proofs.YtmkefodaibmkhaaGreatDoor
open Go Go.RowKit

section
variable {F : Fence} {n : Nat} {P : Program} {ops : Array Oper} {Q : Exit → Act → World → Prop} {md : Region.Mode} {l : Nat}
theorem wpInO_round {o : Oper} {K : Act → World → Prop} {a : Act} {w : World} (hro : F.round = none) (hd : ∀ c, o.op ≠ .defer c) (h : o.wpIn F n P a w K Q) : o.wpIn (F.inRound l) n P a w K Q := by
  unfold Oper.wpIn at h ⊢
  refine ⟨h.1, ?_⟩
  have h2 := h.2
  rw [hro, Oper.semAt_none] at h2
  rw [Fence.inRound_round, Oper.semAt_some _ _ _ hd]
  generalize (execOp a.eval o).run P w = r at h2 ⊢
  cases r with
  | ok x w' => cases x <;> exact h2
  | halt x w' => cases x <;> exact h2
theorem wpOpIn_round {i : Nat} {K : Act → World → Prop} {a : Act} {w : World} (hro : F.round = none) (hd : ∀ (i : Nat) (o : Oper), ops[i]? = some o → ∀ c, o.op ≠ .defer c) (h : wpOpIn F n P ops Q i K a w) : wpOpIn (F.inRound l) n P ops Q i K a w := by
  unfold wpOpIn at h ⊢
  cases ho : ops[i]? with
  | none => simpa only [ho] using h
  | some o =>
    simp only [ho] at h ⊢
    split
    · rename_i hw; rw [if_pos hw] at h; exact wpInO_round hro (hd i o ho) h
    · rename_i hw; rw [if_neg hw] at h; exact h
theorem wpAnyIn_round (hro : F.round = none) (hd : ∀ (i : Nat) (o : Oper), ops[i]? = some o → ∀ c, o.op ≠ .defer c) (fuel : Nat) : ∀ (listed : Array Bool) (a : Act) (w : World), wpAnyIn F n P md ops Q fuel listed a w → wpAnyIn (F.inRound l) n P md ops Q fuel listed a w := by
  induction fuel with
  | zero => intro listed a w h; exact h
  | succ fuel ih => intro listed a w h; exact ⟨h.1, fun i hi => wpOpIn_round hro hd (wpOpIn_mono (fun a' w' h' => ih (listed.setIfInBounds i true) a' w' h') (h.2 i hi))⟩
def noDefers (ops : Array Oper) : Bool := ops.toList.all fun o => match o.op with | .defer _ => false | _ => true
theorem noDefers_spec (h : noDefers ops = true) : ∀ (i : Nat) (o : Oper), ops[i]? = some o → ∀ c, o.op ≠ .defer c := by
  intro i o ho c hc
  rw [noDefers, List.all_eq_true] at h
  have h1 := h o (by rw [← Array.getElem?_toList] at ho; exact List.mem_of_getElem? ho)
  rw [hc] at h1
  cases h1
/-- A region that draws, in a round: by the orders outside of a round. -/
theorem wpIn_region_round {id : Nat} {a : Act} {w : World} (hro : F.round = none) (hm : P.follows .mixedOrders = true) (hd : noDefers ops = true)
    (h : wpAnyIn F n P .any ops Q ops.size (Array.replicate ops.size false) a w.drew) : (Code.region id ops true).wpIn (F.inRound l) n P Q a w :=
  wpIn_region_any hm (wpAnyIn_round hro (noDefers_spec hd) _ _ _ _ h)
end
end Go.Proofs.YtmkefodaibmkhaaGreatDoor

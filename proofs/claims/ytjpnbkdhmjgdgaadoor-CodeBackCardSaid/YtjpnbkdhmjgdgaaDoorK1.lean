/- Sketches as plain data; which are right (layers 6 to 10). No program in sight. -/
import Derived.Test.YtjpnbkdhmjgdgaaDoorA6
namespace Go.Proofs.YtjpnbkdhmjgdgaaDoor
open Go Go.RowKit

structure Sk where
  kind : Int
  level : Int
  e : List Int
  hb : Int
  hr : ByteArray
  cr : Int
  cc : Int
  cl : List Int
  gf : Int
  gl : List (Int × Int)
def encU (n : Int) : List Value := [.int .u64 n]
def encB (b : Int × Int) : List Value := [.int .i64 b.1, .int .u64 b.2]
def U64s (l : List Int) : Prop := ∀ n ∈ l, U64 n
def I64 (n : Int) : Prop := -9223372036854775808 ≤ n ∧ n ≤ 9223372036854775807
def Bins (l : List (Int × Int)) : Prop := ∀ b ∈ l, I64 b.1 ∧ U64 b.2

/-! ### layer 6 -/
def exStep (st : Option Int) (n : Int) : Option (Option Int) := if (match st with | none => false | some m => decide (n ≤ m)) then none else some (some n)
def exRight (l : List Int) : Bool := decide (l.length ≤ 64) && (foldO exStep none l).isSome
theorem exStep_last (l : List Int) : ∀ st r, foldO exStep st l = some r → r = l.getLast?.or st := by
  induction l with
  | nil => intro st r h; simpa [foldO_nil] using h.symm
  | cons x xs ih =>
    intro st r h
    rw [foldO_cons] at h
    cases hx : exStep st x with
    | none => rw [hx] at h; cases h
    | some y =>
      rw [hx] at h
      have hy : y = some x := by
        unfold exStep at hx
        generalize (match st with | none => false | some m => decide (x ≤ m)) = c at hx
        cases c
        · simpa using hx.symm
        · simp at hx
      have := ih y r h
      rw [this, hy, List.getLast?_cons]
      cases xs.getLast? <;> rfl

/-! ### layer 7 -/
def isBitsB (n : Int) : Bool := decide (3 ≤ n) && decide (n ≤ 8)
def regsOk (b : Int) (r : ByteArray) : Bool := r.data.toList.all fun c => !decide (65 - b < (c.toNat : Int))
def hlRight (b : Int) (r : ByteArray) : Bool := isBitsB b && ((r.size : Int) == 2 ^ b.toNat) && regsOk b r

/-! ### layer 8 -/
def isShapeB (rows cols : Int) : Bool := decide (1 ≤ rows) && decide (rows ≤ 4) && decide (4 ≤ cols) && decide (cols ≤ 32) && (bits .and .i64 cols (cols - 1) == 0)
def cmRight (rows cols : Int) (l : List Int) : Bool := isShapeB rows cols && ((l.length : Int) == rows * cols)

/-! ### layer 9 -/
def isFineB (n : Int) : Bool := decide (0 ≤ n) && decide (n ≤ 3)
/-- Is there such a bucket? -/
def boundsB (fine n : Int) : Bool :=
  if isFineB fine && decide (0 ≤ n) then
    (if n == 0 then true else if 64 ≤ (n - 1) / 2 ^ fine.toNat then false else if fine ≤ (n - 1) / 2 ^ fine.toNat then true
      else bits .and .i64 (bits .and .i64 (n - 1) (2 ^ fine.toNat - 1)) (2 ^ (fine - (n - 1) / 2 ^ fine.toNat).toNat - 1) == 0)
  else false
def histStep (fine : Int) (before : Int) (b : Int × Int) : Option Int := if b.2 == 0 || !boundsB fine b.1 || decide (b.1 ≤ before) then none else some b.1
def hiRight (fine : Int) (l : List (Int × Int)) : Bool := isFineB fine && (foldO (histStep fine) (-1) l).isSome

/-! ### layer 10 -/
def bottomB (kind : Int) : Int := if kind == 1 then 4 else if kind == 2 || kind == 3 then 3 else -1
/-- Its body is right. -/
def bodyRight (x : Sk) : Bool :=
  if x.kind == 1 then (if x.level == 0 then exRight x.e else hlRight x.hb x.hr && (x.hb == 8 - x.level))
  else if x.kind == 2 then cmRight x.cr x.cc x.cl && (x.cr == 2) && (x.cc == 32 / 2 ^ x.level.toNat)
  else hiRight x.gf x.gl && (x.gf == 3 - x.level)
def noE (x : Sk) : Bool := x.e.length == 0
def noH (x : Sk) : Bool := x.hb == 0 && x.hr.size == 0
def noC (x : Sk) : Bool := x.cr == 0 && x.cc == 0 && x.cl.length == 0
def noG (x : Sk) : Bool := x.gf == 0 && x.gl.length == 0
/-- What it is not is empty. -/
def restNone (x : Sk) : Bool :=
  if x.kind == 1 then (if x.level == 0 then noH x && noC x && noG x else noE x && noC x && noG x)
  else if x.kind == 2 then noE x && noH x && noG x
  else noE x && noH x && noC x
def skRight (x : Sk) : Bool := decide (1 ≤ x.kind) && decide (x.kind ≤ 3) && decide (0 ≤ x.level) && decide (x.level ≤ bottomB x.kind) && bodyRight x && restNone x
def skCost (x : Sk) : Int := if skRight x then 16 + (if x.kind == 1 then (if x.level == 0 then 8 * (x.e.length : Int) else x.hr.size) else if x.kind == 2 then 8 * (x.cl.length : Int) else 16 * (x.gl.length : Int)) else 0
/-- Same, field by field. -/
def skSame (x y : Sk) : Bool := x.kind == y.kind && x.level == y.level && (x.hb == y.hb && x.hr.toList == y.hr.toList) && x.e == y.e && (x.cr == y.cr && x.cc == y.cc && x.cl == y.cl) && (x.gf == y.gf && x.gl == y.gl)

/-- Where the lists of a sketch lie. -/
structure SS where
  ea : Option Addr
  el : Nat
  ec : Nat
  ca : Option Addr
  cl : Nat
  cc : Nat
  ga : Option Addr
  gl : Nat
  gc : Nat
/-- The lists of a sketch in memory. -/
structure SS.At (s : SS) (n₀ : Nat) (w : World) (x : Sk) : Prop where
  e : SlC encU 1 n₀ w s.ea s.el s.ec x.e
  c : SlC encU 1 n₀ w s.ca s.cl s.cc x.cl
  g : SlC encB 2 n₀ w s.ga s.gl s.gc x.gl
theorem SS.At.go {s : SS} {A B : World} {x : Sk} (h : s.At A.heap.size A x) (hb : Below A.heap.size A B) : s.At B.heap.size B x := ⟨h.e.go hb, h.c.go hb, h.g.go hb⟩
theorem SS.At.below {s : SS} {n : Nat} {A B : World} {x : Sk} (h : s.At n A x) (hb : Below n A B) : s.At n B x := ⟨h.e.below hb, h.c.below hb, h.g.below hb⟩
theorem SS.At.mono {s : SS} {n m : Nat} {A : World} {x : Sk} (h : s.At n A x) (hn : n ≤ m) : s.At m A x := ⟨h.e.mono hn, h.c.mono hn, h.g.mono hn⟩
/-- A sketch as a value. -/
def skVal (x : Sk) (s : SS) : Value := .agg #[.int .i64 x.kind, .int .i64 x.level, .slice s.ea s.el s.ec, .int .i64 x.hb, .string x.hr, .int .i64 x.cr, .int .i64 x.cc, .slice s.ca s.cl s.cc, .int .i64 x.gf, .slice s.ga s.gl s.gc]
def SkAt (n₀ : Nat) (w : World) (v : Value) (x : Sk) : Prop := ∃ s : SS, v = skVal x s ∧ s.At n₀ w x
/-- The numbers of a sketch are what their types hold. -/
def Sk.ok (x : Sk) : Prop := I64 x.kind ∧ I64 x.level ∧ U64s x.e ∧ I64 x.hb ∧ I64 x.cr ∧ I64 x.cc ∧ U64s x.cl ∧ I64 x.gf ∧ Bins x.gl
end Go.Proofs.YtjpnbkdhmjgdgaaDoor

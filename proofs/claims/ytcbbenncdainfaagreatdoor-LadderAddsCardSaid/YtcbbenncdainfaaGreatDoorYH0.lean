/- Plain lemmas and words of my own, of no program: the runes of a string, owned memory, lists in slices. Words of my own, of no program: slices in memory, boxes, a range over a function in a plain walk. Plain lemmas: a fold that may fail, along a list; cells of slices of structs. Rows of laws: what a call that answers true and changes nothing leaves; arguments opened to the walks' words. Of no program. Appends of many cells, makes: as run equations. A drawn region whose operations yield fixed values in every world of a class: one walk, in the order of the text. Boxes. Slices by their elements: whatever address an empty one has. Of no program. Sketches as plain data; which are right (layers 6 to 10). No program in sight. A sketch as an argument has it. Exact sets as plain data: insertion into rising numbers. No program in sight. An address moved on, as a slice expression moves it. Of no program. Registers as plain data: what a number tells, and the registers of one digit less. No program in sight. -/
import Derived.WalkKit
import Derived.LoopTactic
import Derived.WalkLawsBesides
import Derived.WalkSpells
import Derived.Lib.Hide
import Derived.Laws.RangeAny
import Derived.Lib.OthersKept
import Derived.Lib.Strings
import Derived.RangeFuncNested
import Derived.RangeFuncBound
import Derived.RangeFuncCalls
import Derived.RangeFuncLeaves
import Derived.Shelf.Abstract
import Derived.Shelf.RegionOpen
import Derived.OwnWalkIn
import Derived.TacticsInMore
import Derived.LoopNIn
import Derived.LoopIn
import Derived.Outline
import Derived.BigGuardIn
import Derived.WalkMore
import Derived.ProofKit
import Derived.OpenShut
import Derived.Carry
import Derived.Deep.Slices
import Derived.Deep.Fields
import Derived.Deep.DeepHandedRow
import Derived.Lib.SmallJoins
import Derived.Deep.RegionLaw
import Derived.BigQuiet
import Derived.BigRegion
import Derived.Deep.QuietTactic
import Derived.ScopeJumps
import Derived.Lib.BitFns
import Derived.Lib.ItoaNum
namespace Go.Proofs.YtcbbenncdainfaaGreatDoor
open Go Go.RowKit
def runesGo (s : ByteArray) : Nat → Nat → List (Nat × Int)
 | 0, _ => []
 | f + 1, pos => if pos < s.size then (pos, ((Utf8.decode s pos).1 : Int)) :: runesGo s f (pos + (Utf8.decode s pos).2) else []
def rl (s : ByteArray) (pos : Nat) : List (Nat × Int) := runesGo s (s.size - pos) pos
end Go.Proofs.YtcbbenncdainfaaGreatDoor
namespace Go.Proofs.YtcbbenncdainfaaGreatDoor
open Go Go.RowKit Go.Shelf
def SlAt (n₀ : Nat) (w : World) (sv : Value) (n : Nat) (cs : List Value) : Prop :=
 (sv = .slice none 0 0 ∧ n = 0 ∧ cs = []) ∨ ∃ b off cap, sv = .slice (some ⟨b, off, none⟩) n cap ∧ b < n₀ ∧ ∀ i, i < cs.length → w.cell? ⟨b, off + i, none⟩ = cs[i]?
theorem SlAt.below {n₀ : Nat} {A B : World} (h : Below n₀ A B) {sv : Value} {n : Nat} {cs : List Value} : SlAt n₀ A sv n cs → SlAt n₀ B sv n cs
 | .inl e => .inl e
 | .inr ⟨b, off, cap, e, hb, hc⟩ => .inr ⟨b, off, cap, e, hb, fun j hj => (h.cell (p := ⟨b, off + j, none⟩) hb).trans (hc j hj)⟩
theorem SlAt.mono {n₀ n₁ : Nat} (hn : n₀ ≤ n₁) {w : World} {sv : Value} {n : Nat} {cs : List Value} : SlAt n₀ w sv n cs → SlAt n₁ w sv n cs
 | .inl e => .inl e
 | .inr ⟨b, off, cap, e, hb, hc⟩ => .inr ⟨b, off, cap, e, Nat.lt_of_lt_of_le hb hn, hc⟩
theorem bKeeps {n B : Nat} {W W' : World} (h : Below n W W') (hn : W.heap.size ≤ n) : KeepsFrom B W W' :=
 ⟨h.size, fun k _ _ hk _ => (h.block k (by have := (Array.getElem?_eq_some_iff.1 hk).1; omega)).trans hk⟩
theorem calls_marks {P : Program} {f : FuncId} {fn : Func} {c : Code} {args : Array Value} {w : World} {R : Ending → World → Prop} (hf : P.funcs[f]? = some fn) (hb : fn.body = some c)
  (h : c.wp P (bodyPostM Fence.wide 9 P fn R) { tmps := args ++ Array.replicate (fn.ntmps - args.size) undef, defers := [] } w) : Calls P f args w R :=
 (callsIn_wide (n := 9)).1 (callsIn_of_wp_marks hf hb trivial (wpIn_wide.2 h) rfl)
theorem marks_ret0 {P : Program} {fn : Func} {R : Ending → World → Prop} {a : Act} {w : World} {v : Value} (hr : (results fn a.tmps).run P w = .ok v w) (hd : a.defers = []) (hR : R (.returned v) w) :
  bodyPostM Fence.wide 9 P fn R .ret a w := by
 show LeavesInM Fence.wide 9 P fn a.tmps R a.defers .returning w
 rw [hd]; exact ⟨v, hr, hR⟩
theorem marks_ret1 {P : Program} {fn : Func} {R : Ending → World → Prop} {tmps : Array Value} {w : World} {D : Nat} {v : Value} (hK : w.heap[D]? = some (.deferred (some [])))
  (hr : (results fn tmps).run P (w.putObj D (.deferred none)) = .ok v (w.putObj D (.deferred none))) (hR : R (.returned v) (w.putObj D (.deferred none))) :
  bodyPostM Fence.wide 9 P fn R .ret { tmps := tmps, defers := [{ target := .collected D, args := #[] }] } w := by
 refine ⟨by simp, .inl ⟨_, _, rfl, run_takeDeferred hK, ?_⟩⟩
 exact ⟨v, hr, hR⟩
theorem bPutD {n D : Nat} {w0 W : World} (h : Below n w0 W) (hD : n ≤ D) (hK : W.heap[D]? = some (.deferred (some []))) : Below n w0 (W.putObj D (.deferred none)) :=
 h.trans ((Below.refl n W).grown (grownBy_putObj' W D _) (by have := (Array.getElem?_eq_some_iff.1 hK).1; omega) (fun k e => by cases e; omega))
theorem wp_range {α : Type} {P : Program} {g : Operand} {ps : Array Tmp} {assign body : Code} {Q : Exit → Act → World → Prop} {a : Act} {w : World}
  {gf : Nat} {lb : Array Value} (hg : a.eval g = .func (.func gf) #[] lb) (eg : ∀ args w, (callFunc gf args).run P w = .ok (.enter gf args) w)
  {encs : α → Array Value} {n₀ : Nat} {xs : List α} {N : Nat} {w0 : World} (hseq : SeqStopsK Fence.wide 8 P gf lb encs (Below n₀) (fun ys => ys = xs) (fun pre => pre <+: xs) N w0)
  (hn₀ : n₀ ≤ w.heap.size) (hb0 : Below w0.heap.size w0 w) (hps : ∀ x, (encs x).size = ps.size)
  (I : List α → World → Prop) (Ix : Code → List α → World → Prop) (hI : OwnFrom w.heap.size I) (hIx : ∀ c, OwnFrom w.heap.size (Ix c)) (h0 : I [] w) (Ax : α → Act → World → Prop) (hAx : ∀ x a', OwnFrom w.heap.size (fun (_ : Unit) W => Ax x a' W))
  (hassign : ∀ (l : Nat) (pre : List α) (x : α) (W : World) (K : Act → World → Prop), I pre W → (∀ a' W', KeepsFrom w.heap.size W W' → Below n₀ W W' → I pre W' → Ax x a' W' → K a' W') →
   assign.wpIn (Fence.wide.inRound l) 7 P (Exit.then K (fun _ _ _ => False)) { tmps := (ps.zip (encs x)).foldl (fun t (p, v) => t.setIfInBounds p v) a.tmps, defers := [] } W)
  (hbody : ∀ (l : Nat) (pre : List α) (x : α) (a' : Act) (W : World), I pre W → Ax x a' W → pre.length < N → body.wpIn (Fence.wide.inRound l) 7 P (ownPostG w.heap.size (Below n₀) I Ix (pre ++ [x]) W) a' W)
  (hdone : ∀ (D : Nat) (W : World), w.heap.size ≤ D → I xs W → W.heap[D]? = some (.deferred (some [])) → Q .normal { a with defers := { target := .collected D, args := #[] } :: a.defers } W)
  (hstop : ∀ (D : Nat) (c : Code) (pre : List α) (W : World), w.heap.size ≤ D → pre <+: xs → Ix c pre W → W.heap[D]? = some (.deferred (some [])) → c.wp P Q { a with defers := { target := .collected D, args := #[] } :: a.defers } W) :
  (Code.rangeFunc g ps assign body).wp P Q a w :=
 (wpIn_wide (n := 9)).1 (wpIn_rangeFunc_ownH rfl (by omega) hg trivial eg hseq belowK_t (belowK_b hn₀) hb0 hps I Ix hI hIx h0 Ax hAx hassign
  (fun l pre x a' W _ _ hi hax hlt => hbody l pre x a' W hi hax hlt) (fun D ys W hD e hi hK => by subst e; exact hdone D W hD hi hK) (fun D c pre W hD hp hi hK => wpIn_wide.2 (hstop D c pre W hD hp hi hK)))
theorem ownBox {β : Type} (C B : Nat) (t : TypeId) (f : β → Value) : OwnFrom C (fun s W => Boxed W B t (f s)) := Own.from (boxed_own B t f) C
theorem ownCells {β : Type} (C B : Nat) (f : β → Array Value) (t : TypeId) : OwnFrom C (fun s W => W.heap[B]? = some (.cells (f s) t (0, 0))) := fun s X Y row hs hg hr => by
 refine (hg.block B (Array.getElem?_eq_some_iff.1 hs).1 (fun e => ?_)).trans hs
 obtain ⟨_, o, ho, hc⟩ := hr B e.symm
 rw [hs] at ho; cases ho; cases hc
theorem cCc {W : World} {B : Nat} {c : Array Value} {t : TypeId} {fz : Nat × Nat} (h : W.heap[B]? = some (.cells c t fz)) (i : Nat) : W.cell? ⟨B, i, none⟩ = c[i]? := by simp [World.cell?, h]
theorem cFz {W : World} {B : Nat} {c : Array Value} {t : TypeId} (h : W.heap[B]? = some (.cells c t (0, 0))) (i : Nat) : W.frozen? ⟨B, i, none⟩ = false := by simp [World.frozen?, h]
theorem cl2 {W : World} {B : Nat} {v0 v1 : Value} {t : TypeId} {fz : Nat × Nat} (h : W.heap[B]? = some (.cells #[v0, v1] t fz)) : W.cell? ⟨B, 0, none⟩ = some v0 ∧ W.cell? ⟨B, 1, none⟩ = some v1 := ⟨cCc h 0, cCc h 1⟩
theorem cz2 {W : World} {B : Nat} {c : Array Value} {t : TypeId} (h : W.heap[B]? = some (.cells c t (0, 0))) : W.frozen? ⟨B, 0, none⟩ = false ∧ W.frozen? ⟨B, 1, none⟩ = false := ⟨cFz h 0, cFz h 1⟩
theorem cl3 {W : World} {B : Nat} {v0 v1 v2 : Value} {t : TypeId} {fz : Nat × Nat} (h : W.heap[B]? = some (.cells #[v0, v1, v2] t fz)) : W.cell? ⟨B, 0, none⟩ = some v0 ∧ W.cell? ⟨B, 1, none⟩ = some v1 ∧ W.cell? ⟨B, 2, none⟩ = some v2 := ⟨cCc h 0, cCc h 1, cCc h 2⟩
theorem cz3 {W : World} {B : Nat} {c : Array Value} {t : TypeId} (h : W.heap[B]? = some (.cells c t (0, 0))) : W.frozen? ⟨B, 0, none⟩ = false ∧ W.frozen? ⟨B, 1, none⟩ = false ∧ W.frozen? ⟨B, 2, none⟩ = false := ⟨cFz h 0, cFz h 1, cFz h 2⟩
theorem cl4 {W : World} {B : Nat} {v0 v1 v2 v3 : Value} {t : TypeId} {fz : Nat × Nat} (h : W.heap[B]? = some (.cells #[v0, v1, v2, v3] t fz)) : W.cell? ⟨B, 0, none⟩ = some v0 ∧ W.cell? ⟨B, 1, none⟩ = some v1 ∧ W.cell? ⟨B, 2, none⟩ = some v2 ∧ W.cell? ⟨B, 3, none⟩ = some v3 := ⟨cCc h 0, cCc h 1, cCc h 2, cCc h 3⟩
theorem cz4 {W : World} {B : Nat} {c : Array Value} {t : TypeId} (h : W.heap[B]? = some (.cells c t (0, 0))) : W.frozen? ⟨B, 0, none⟩ = false ∧ W.frozen? ⟨B, 1, none⟩ = false ∧ W.frozen? ⟨B, 2, none⟩ = false ∧ W.frozen? ⟨B, 3, none⟩ = false := ⟨cFz h 0, cFz h 1, cFz h 2, cFz h 3⟩
theorem cl10 {W : World} {B : Nat} {v0 v1 v2 v3 v4 v5 v6 v7 v8 v9 : Value} {t : TypeId} {fz : Nat × Nat} (h : W.heap[B]? = some (.cells #[v0, v1, v2, v3, v4, v5, v6, v7, v8, v9] t fz)) : W.cell? ⟨B, 0, none⟩ = some v0 ∧ W.cell? ⟨B, 1, none⟩ = some v1 ∧ W.cell? ⟨B, 2, none⟩ = some v2 ∧ W.cell? ⟨B, 3, none⟩ = some v3 ∧ W.cell? ⟨B, 4, none⟩ = some v4 ∧ W.cell? ⟨B, 5, none⟩ = some v5 ∧ W.cell? ⟨B, 6, none⟩ = some v6 ∧ W.cell? ⟨B, 7, none⟩ = some v7 ∧ W.cell? ⟨B, 8, none⟩ = some v8 ∧ W.cell? ⟨B, 9, none⟩ = some v9 := ⟨cCc h 0, cCc h 1, cCc h 2, cCc h 3, cCc h 4, cCc h 5, cCc h 6, cCc h 7, cCc h 8, cCc h 9⟩
theorem cz10 {W : World} {B : Nat} {c : Array Value} {t : TypeId} (h : W.heap[B]? = some (.cells c t (0, 0))) : W.frozen? ⟨B, 0, none⟩ = false ∧ W.frozen? ⟨B, 1, none⟩ = false ∧ W.frozen? ⟨B, 2, none⟩ = false ∧ W.frozen? ⟨B, 3, none⟩ = false ∧ W.frozen? ⟨B, 4, none⟩ = false ∧ W.frozen? ⟨B, 5, none⟩ = false ∧ W.frozen? ⟨B, 6, none⟩ = false ∧ W.frozen? ⟨B, 7, none⟩ = false ∧ W.frozen? ⟨B, 8, none⟩ = false ∧ W.frozen? ⟨B, 9, none⟩ = false := ⟨cFz h 0, cFz h 1, cFz h 2, cFz h 3, cFz h 4, cFz h 5, cFz h 6, cFz h 7, cFz h 8, cFz h 9⟩
theorem tk {P : Program} {md : Region.Mode} {ops : Array Oper} {Q : Exit → Act → World → Prop} (i : Nat) {oi : Oper} {v : Value} {fuel : Nat} {listed : Array Bool} {a : Act} {w : World} (hi : ops[i]? = some oi)
  (hy : ∀ w, (execOp a.eval oi).run P w = .ok (.value v) w) (h : wpAny P md ops Q fuel (listed.setIfInBounds i true) (a.put oi.dst v) w)
  (hw : Region.wanted oi (yielded ops a.tmps) = true := by rfl) (hs : Region.noSelect ops = true := by kernel_rfl) (hf : Region.free md ops listed i = true := by kernel_rfl)
  (hr : (Region.ready md ops listed).contains i = true := by kernel_rfl) (hQ : ∀ c a w, Q (.panic c) (a.put oi.dst v) w → Q (.panic c) a w := by exact fun _ _ _ h => h) : wpAny P md ops Q (fuel + 1) listed a w :=
 wpAny_take hi hs hf hr hQ (Or.inl ⟨hw, hy⟩) h
theorem ownFrom_size {β : Type} (C n : Nat) : OwnFrom C (fun (_ : β) W => n ≤ W.heap.size) := fun _ _ _ _ hs hg _ => Nat.le_trans hs hg.size
theorem append_one (P : Program) {t e : TypeId} {z : Value} {size bytes : Nat} (ty : TypeId) (ht : P.underlying t = some (.slice e)) (hinfo : (P.info? e).map (fun i => (i.zero, i.size, i.bytes)) = some (some z, size, bytes)) (hzs : z.cells.size = size) (hsz : 0 < size)
  {W w0 : World} {B base : Nat} {v : Value} {n : Nat} {xs : List Value} (hown : W.ownsRow base e size v n xs) (hB : Below B w0 W) (hBb : B ≤ base) (hbase : base ≤ W.heap.size) (news : List Value) (hl : news.length = size) (h1 : ∀ u ∈ news, u.oneCell' = true)
  (hn : n < 4294967281) (hby : bytes ≤ 4096) :
  ∃ g cap w1, (Builtin.append_ #[t, t] ty #[v, .slice (some ⟨W.heap.size, 0, none⟩) 1 1]).run P (W.alloc (.cells news.toArray e)) = .ok (.slice (some ⟨g, 0, none⟩) (n + 1) cap) w1 ∧
   w1.ownsRow base e size (.slice (some ⟨g, 0, none⟩) (n + 1) cap) (n + 1) (xs ++ news) ∧ Below B w0 w1 ∧ W.heap.size < w1.heap.size ∧ (∀ k, k < base → w1.heap[k]? = W.heap[k]?) ∧ (∀ k, k < W.heap.size → some k ≠ v.ownBlock → w1.heap[k]? = W.heap[k]?) := by
 obtain ⟨i0, hi, hz0, hz1, hz2⟩ := info_parts hinfo
 have hcell : ∀ j u, news[j]? = some u → (W.alloc (.cells news.toArray e)).cell? ((⟨W.heap.size, 0, none⟩ : Addr).add j) = some u := fun j u hj => by
  have := cCc (World.alloc_heap_new W (.cells news.toArray e)) j
  have ea : (⟨W.heap.size, 0, none⟩ : Addr).add j = ⟨W.heap.size, j, none⟩ := by unfold Addr.add; split <;> simp_all
  rw [ea, this]
  simpa using hj
 obtain ⟨v', w1, hr, h2, h3, h4⟩ := run_append_own (P := P) (W.alloc (.cells news.toArray e)) base t ty e i0 z size bytes ht hi hz0 hz1 hz2 hzs hsz v n xs (hown.alloc _) ⟨W.heap.size, 0, none⟩ 1 1 news (by omega) hcell h1 (by unfold maxLen; omega) (by have := Nat.mul_le_mul (show n + 1 ≤ 4294967281 by omega) hby; omega) (by simp; omega)
 obtain ⟨g, cap, rfl⟩ := ownsRow_succ h2
 have hlt : ∀ k, v.ownBlock = some k → base ≤ k := fun k hk => (hown.lt k hk).1
 refine ⟨g, cap, w1, hr, h2, (hB.alloc (by omega) _).grown h3 (by simp; omega) (fun k hk => Nat.le_trans hBb (hlt k hk)), by have := h3.size; simp at this; omega, fun k hk => ?_, fun k hk hne => ?_⟩
 ·exact (h3.block k (by simp; omega) (fun e => by have := hlt k e.symm; omega)).trans (Below.heap_alloc _ _ _ (by omega))
 ·exact (h3.block k (by simp; omega) hne).trans (Below.heap_alloc _ _ _ hk)
theorem slAt_of_owns {w : World} {base e size n : Nat} {v : Value} {xs : List Value} (h : w.ownsRow base e size v n xs) : SlAt w.heap.size w v n xs := by
 rcases h.2 with ⟨rfl, rfl⟩ | ⟨g, cap, cur, rfl, hg, hh, hnc, hcm, hcs, ht⟩
 ·exact .inl ⟨rfl, rfl, List.eq_nil_of_length_eq_zero (by simpa using h.1)⟩
 ·refine .inr ⟨g, 0, cap, rfl, (Array.getElem?_eq_some_iff.1 hh).1, fun i hi => ?_⟩
  rw [Nat.zero_add, cCc hh i, ← ht, List.getElem?_take_of_lt (by have := h.1; omega)]
  simp
theorem dfSet {W : World} {D : Nat} (hK : W.heap[D]? = some (.deferred (some []))) (a : Addr) (v : Value) : (W.setCell a v).heap[D]? = some (.deferred (some [])) := (KeepsOthers.setCell W a v).same D _ hK rfl
theorem wp_append_eq {P : Program} {w : World} {ops : Array Oper} {rest : List Oper} {o : Oper} {a : Act} {Q : Exit → Act → World → Prop} (hgd : o.guard = none) (s x : Operand) (t : TypeId)
  (ho : o.op = .call { callee := .builtin .append, args := #[s, x], argTypes := #[t, t] }) {v xv v' : Value} {w' : World} (hs : a.eval s = v) (hx : a.eval x = xv)
  (hr : (Builtin.append_ #[t, t] o.type #[v, xv]).run P w = .ok v' w') (h : wpList P ops Q rest (a.put o.dst v') w') : wpList P ops Q (o :: rest) a w := by
 refine wpList_plain hgd fun _ hK => ?_
 unfold Oper.wp execOp
 simp only [ho, resolve, invoke, builtin, Sem.run_bind, Sem.run_pure, Result.andThen_ok, List.map_toArray, List.map_cons, List.map_nil, hs, hx, hr]
 exact hK _ _ h
end Go.Proofs.YtcbbenncdainfaaGreatDoor
namespace Go.Proofs.YtcbbenncdainfaaGreatDoor
open Go Go.RowKit
def foldO {σ α : Type} (f : σ → α → Option σ) (s : σ) (l : List α) : Option σ := l.foldl (fun s x => s.bind (f · x)) (some s)
theorem foldl_bind_none {σ α : Type} (f : σ → α → Option σ) (l : List α) : l.foldl (fun s x => s.bind (f · x)) (none : Option σ) = none := by
 induction l with
 | nil => rfl
 | cons x xs ih => exact ih
theorem foldO_nil {σ α : Type} (f : σ → α → Option σ) (s : σ) : foldO f s [] = some s := rfl
theorem foldO_snoc {σ α : Type} (f : σ → α → Option σ) (s : σ) (l : List α) (x : α) : foldO f s (l ++ [x]) = (foldO f s l).bind (f · x) := by simp [foldO]
theorem take_snoc' {α : Type} {l : List α} {k : Nat} {x : α} (h : l[k]? = some x) : l.take (k + 1) = l.take k ++ [x] := by rw [List.take_add_one, h]; rfl
theorem foldO_step {σ α : Type} {f : σ → α → Option σ} {s st : σ} {l : List α} {k : Nat} {x : α} (h : l[k]? = some x) (hk : foldO f s (l.take k) = some st) : foldO f s (l.take (k + 1)) = f st x := by
 rw [take_snoc' h, foldO_snoc, hk]; rfl
theorem foldO_append {σ α : Type} (f : σ → α → Option σ) (s : σ) (l m : List α) : foldO f s (l ++ m) = (foldO f s l).bind (fun s' => foldO f s' m) := by
 unfold foldO
 rw [List.foldl_append]
 cases l.foldl (fun s x => s.bind (f · x)) (some s) with
 | none => exact foldl_bind_none f m
 | some s' => rfl
theorem foldO_none {σ α : Type} {f : σ → α → Option σ} {s : σ} {l : List α} {k : Nat} (h : foldO f s (l.take k) = none) : foldO f s l = none := by
 rw [← List.take_append_drop k l, foldO_append, h]; rfl
theorem foldO_cons {σ α : Type} (f : σ → α → Option σ) (s : σ) (x : α) (l : List α) : foldO f s (x :: l) = (f s x).bind (fun s' => foldO f s' l) := by
 have := foldO_append f s [x] l
 simpa [foldO] using this
theorem flat_cell {α : Type} (enc : α → List Value) (k : Nat) (hk : ∀ x, (enc x).length = k) (l : List α) (j i : Nat) (x : α) (hx : l[j]? = some x) (hi : i < k) : (l.flatMap enc)[j * k + i]? = (enc x)[i]? := by
 induction l generalizing j with
 | nil => simp at hx
 | cons y ys ih =>
  cases j with
  | zero =>
   simp at hx; subst hx
   simp only [List.flatMap_cons, Nat.zero_mul, Nat.zero_add]
   rw [List.getElem?_append_left (by rw [hk]; exact hi)]
  | succ j =>
   simp only [List.flatMap_cons]
   rw [List.getElem?_append_right (by rw [hk, Nat.succ_mul]; omega), hk, show (j + 1) * k + i - k = j * k + i by rw [Nat.succ_mul]; omega]
   exact ih j (by simpa using hx)
theorem flat_len {α : Type} (enc : α → List Value) (k : Nat) (hk : ∀ x, (enc x).length = k) (l : List α) : (l.flatMap enc).length = l.length * k := by
 induction l with
 | nil => simp
 | cons y ys ih => simp [List.flatMap_cons, hk, ih, Nat.succ_mul]; omega
theorem SlAt.elems {α : Type} {enc : α → List Value} {k : Nat} (hk : ∀ x, (enc x).length = k) {n₀ : Nat} {w : World} {a : Option Addr} {len cap : Nat} {l : List α} (h : SlAt n₀ w (.slice a len cap) l.length (l.flatMap enc)) :
  len = l.length ∧ ∀ j x, l[j]? = some x → ∃ b off, a = some ⟨b, off, none⟩ ∧ b < n₀ ∧ ∀ i, i < k → w.cell? ⟨b, off + j * k + i, none⟩ = (enc x)[i]? := by
 rcases h with ⟨h, h0, _⟩ | ⟨b, off, cap', e, hb, hc⟩
 ·obtain ⟨rfl, rfl, rfl⟩ : a = none ∧ len = 0 ∧ cap = 0 := by simpa using h
  have : l = [] := by simpa using h0
  subst this
  exact ⟨rfl, fun i x hx => by simp at hx⟩
 ·obtain ⟨rfl, rfl, rfl⟩ : a = some ⟨b, off, none⟩ ∧ len = l.length ∧ cap = cap' := by simpa using e
  refine ⟨rfl, fun j x hx => ⟨b, off, rfl, hb, fun i hi => ?_⟩⟩
  have hj := (List.getElem?_eq_some_iff.1 hx).1
  have h2 : j * k + i < l.length * k := by have := Nat.mul_le_mul_right k (show j + 1 ≤ l.length by omega); rw [Nat.succ_mul] at this; omega
  rw [Nat.add_assoc, hc (j * k + i) (by rw [flat_len enc k hk]; exact h2), flat_cell enc k hk l j i x hx hi]
end Go.Proofs.YtcbbenncdainfaaGreatDoor
namespace Go.Proofs.YtcbbenncdainfaaGreatDoor
open Go Go.RowKit Go.ChangeShapes Go.WideShapes Go.Deep
section
variable {H : Type} {enc : TypeId × Value → H} {P : Program}
theorem trodAll_stays (hl : laidOutB P = true) {W W' : World} {sp : Nat → Bool} (hb : Below W.heap.size W W') : ∀ (ts : List TypeId) (vs : List Value) (ds : List (DataW H)) (ps : List MemPlace),
  (∀ t ∈ ts, P.readableRec t = true ∧ t < P.types.size) → (∀ p ∈ ps, p.block < W.heap.size ∧ sp p.block = true) →
  DataW.TrodAll enc P W 0 (fun _ => true) true ts vs ds ps → DataW.TrodAll enc P W' 0 sp true ts vs ds ps := by
 intro ts
 induction ts with
 | nil => intro vs ds ps _ _ h; obtain ⟨h1, rfl, rfl⟩ := trodAll_nil h; rw [h1]; exact trodAll_mk0
 | cons t ts ih =>
  intro vs ds ps hr hp h
  obtain ⟨v, vs', d, ds', p, q, rfl, rfl, rfl, h0, hs⟩ := trodAll_cons h
  have ht := hr t List.mem_cons_self
  refine trodAll_cons_mk (WideElems.Trod_stays hl ht.1 ht.2 h0 (fun x hx => hb.same (hp x (List.mem_append_left _ hx)).1) (fun x hx => (hp x (List.mem_append_left _ hx)).2)) ?_
  exact ih vs' ds' q (fun t ht => hr t (List.mem_cons_of_mem _ ht)) (fun x hx => hp x (List.mem_append_right _ hx)) hs
theorem law_post {f : Func} {s : ChangeSpec} {W W' : World} {args : Array Value} {ds gs : List (DataW H)} {before : List MemPlace} {tb : TypeId} (hl : laidOutB P = true)
  (hr : ∀ t ∈ f.params.toList, P.readableRec t = true ∧ t < P.types.size) (hv : s.vars = []) (hW : DataW.Whole enc P f.params.toList s.vars false W args.toList ds gs before)
  (hs : s.fn H (ds ++ gs) = { results := [.lit (.bool true)], args := ds }) (hres : f.resultTypes = #[tb]) (hb : P.underlying tb = some .bool) (hB : Below W.heap.size W W') :
  s.post enc P f false true false false W args (.bool true) W' := by
 have hlt : ∀ p ∈ before, p.block < W.heap.size := fun p hp => hW.lt p hp
 have hW2 := hW
 obtain ⟨p, q, hA, hV, rfl, _, _⟩ := hW2
 rw [hv] at hV
 obtain ⟨rfl, rfl⟩ := trodVars_none hV
 rw [List.append_nil] at hlt hW
 refine ⟨ds, [], p, [], p, [], hW, ?_, ?_, ?_, World.keptBut_mono (fun x hx => ⟨hx, Or.inr (Or.inl hx)⟩) (hB.frame (· ∈ p)), fun h => by cases h⟩
 ·rw [hs, hres]
  exact trodAll_cons_mk (shut_bool hb _) trodAll_mk0
 ·rw [hs]
  exact trodAll_stays hl hB _ _ _ _ hr (fun x hx => ⟨hlt x hx, by simpa using hlt x hx⟩) hA
 ·rw [hs, hv]
  exact hV
variable {w : World} {base : Nat} {spare : Nat → Bool} {held : Bool}
theorem struct_cells {e : TypeId} {fs : Array Field} {fuel : Nat} {cs : List Value} {x : DataW H × List MemPlace} (he : P.underlying e = some (.struct fs)) (hone : oneCellFields P fs = true) (hC : P.cellsOf e = fs.size)
  (h : DataW.trod enc P w base spare held fuel e cs = some x) : cs.length = fs.size ∧ ∃ n, ∀ (j : Nat) (f : Field), fs[j]? = some f → ∃ v y, cs[j]? = some v ∧ DataW.trod enc P w base spare held n f.type [v] = some y := by
 obtain ⟨xs, n, _, _, hlen, hxl, hf⟩ := DataW.trod_struct he h
 rw [hC] at hlen
 refine ⟨hlen, n, fun j f hj => ?_⟩
 obtain ⟨ho, hk⟩ := hone_of hone j f hj
 have hjl : j < fs.size := (Array.getElem?_eq_some_iff.1 hj).1
 have h1 := hf j f hj
 rw [ho, hk, List.drop_eq_getElem_cons (by omega), List.getElem?_eq_getElem (by omega)] at h1
 exact ⟨_, _, List.getElem?_eq_getElem (by omega), h1⟩
theorem add_none {a : Addr} (h : a.spot = none) (n : Nat) : a.add n = ⟨a.block, a.off + n, none⟩ := by
 obtain ⟨b, o, s⟩ := a
 dsimp only at h
 subst h
 unfold Addr.add
 split
 ·simp_all
 ·rfl
end
end Go.Proofs.YtcbbenncdainfaaGreatDoor
namespace Go.Proofs.YtcbbenncdainfaaGreatDoor
open Go Go.RowKit
theorem append_list (P : Program) {t e : TypeId} {z : Value} {size bytes : Nat} (ty : TypeId) (ht : P.underlying t = some (.slice e)) (hinfo : (P.info? e).map (fun i => (i.zero, i.size, i.bytes)) = some (some z, size, bytes)) (hzs : z.cells.size = size) (hsz : 0 < size)
  {W w0 : World} {B base : Nat} {v sv : Value} {n m : Nat} {xs cs : List Value} (hown : W.ownsRow base e size v n xs) (hB : Below B w0 W) (hBb : B ≤ base) (hbase : base ≤ W.heap.size) (hsrc : SlAt W.heap.size W sv m cs) (hl : cs.length = m * size) (h1 : ∀ u ∈ cs, u.oneCell' = true)
  (hn : n < 2147483648) (hm : m < 2147483648) (hby : bytes ≤ 4096) :
  ∃ v' w1, (Builtin.append_ #[t, t] ty #[v, sv]).run P W = .ok v' w1 ∧ w1.ownsRow base e size v' (n + m) (xs ++ cs) ∧ Below B w0 w1 ∧ W.heap.size ≤ w1.heap.size ∧ (∀ k, k < base → w1.heap[k]? = W.heap[k]?) ∧ (∀ k, k < W.heap.size → some k ≠ v.ownBlock → w1.heap[k]? = W.heap[k]?) := by
 obtain ⟨i0, hi, hz0, hz1, hz2⟩ := info_parts hinfo
 rcases hsrc with ⟨rfl, rfl, rfl⟩ | ⟨b, off, cap, rfl, hb, hc⟩
 ·refine ⟨v, W, ?_, by simpa using hown, hB, Nat.le_refl _, fun _ _ => rfl, fun _ _ _ => rfl⟩
  obtain ⟨a, c, rfl⟩ : ∃ a c, v = .slice a n c := by
   rcases hown.2 with ⟨rfl, rfl⟩ | ⟨g, cap, cur, rfl, _⟩
   ·exact ⟨none, 0, rfl⟩
   ·exact ⟨_, cap, rfl⟩
  rcases hown.2 with ⟨he, hn0⟩ | ⟨g, cap, cur, he, hg, hgg, hnc, _⟩
  ·obtain ⟨rfl, _, rfl⟩ : a = none ∧ n = 0 ∧ c = 0 := by simpa using he
   subst hn0
   simp [Builtin.append_, run_underlying ht, sizeOf, typeInfo, hi, Builtin.lenOf, Builtin.firstCells]
  ·obtain ⟨rfl, rfl⟩ : a = some ⟨g, 0, none⟩ ∧ c = cap := by simpa using he
   simp [Builtin.append_, run_underlying ht, sizeOf, typeInfo, hi, Builtin.lenOf, Builtin.firstCells, hnc, storeCells]
 ·have hcell : ∀ j u, cs[j]? = some u → W.cell? ((⟨b, off, none⟩ : Addr).add j) = some u := fun j u hj => by
   have ea : (⟨b, off, none⟩ : Addr).add j = ⟨b, off + j, none⟩ := by unfold Addr.add; split <;> simp_all
   rw [ea, hc j (List.getElem?_eq_some_iff.1 hj).1, hj]
  have hbig := Nat.mul_le_mul (show n + m ≤ 4294967296 by omega) hby
  obtain ⟨v', w1, hr, h2, h3, h4⟩ := run_append_own (P := P) W base t ty e i0 z size bytes ht hi hz0 hz1 hz2 hzs hsz v n xs hown ⟨b, off, none⟩ m cap cs hl hcell h1 (by unfold maxLen; omega) (by omega) hbase
  have hlt : ∀ k, v.ownBlock = some k → base ≤ k := fun k hk => (hown.lt k hk).1
  exact ⟨v', w1, hr, h2, hB.grown h3 (by omega) (fun k hk => Nat.le_trans hBb (hlt k hk)), h3.size, fun k hk => h3.block k (by omega) (fun e => by have := hlt k e.symm; omega), fun k hk hne => h3.block k hk hne⟩
theorem step_append_eq {P : Program} {ops : Array Oper} {o : Oper} {a : Act} {w : World} {K : Act → World → Prop} {Q : Exit → Act → World → Prop} {E : Prop}
  (hg : o.guard = none) (s x : Operand) (t : TypeId) (hop : o.op = Op.call { callee := Callee.builtin Builtin.append, args := #[s, x], argTypes := #[t, t] })
  {v xv v' : Value} {w' : World} (hs : a.eval s = v) (hx : a.eval x = xv) (hr : (Builtin.append_ #[t, t] o.type #[v, xv]).run P w = .ok v' w') (hK : K (a.put o.dst v') w') :
  if Region.wanted o (yielded ops a.tmps) = true then Oper.wp P o a w K Q else E := by
 have hw : Region.wanted o (yielded ops a.tmps) = true := by simp [Region.wanted, hg]
 rw [if_pos hw]
 unfold Oper.wp
 simp [execOp, hop, resolve, invoke, builtin, hs, hx, hr, Result.andThen]
 exact hK
theorem hSk {W : World} {B i : Nat} {c : Array Value} {t : TypeId} {fz : Nat × Nat} (h : W.heap[B]? = some (.cells c t fz)) (v : Value) : (W.setCell ⟨B, i, none⟩ v).heap[B]? = some (.cells (c.setIfInBounds i v) t fz) := by
 obtain ⟨hlt, hk⟩ := Array.getElem?_eq_some_iff.1 h
 show (W.heap.modify B _)[B]? = _
 rw [Array.getElem?_eq_getElem (by rw [Array.size_modify]; exact hlt), Array.getElem_modify_self, hk]
 rfl
theorem set_cells2 {W : World} {B : Nat} {x y u v : Value} {t : TypeId} (h : W.heap[B]? = some (.cells #[x, y] t (0, 0))) : ((W.setCell ⟨B, 0, none⟩ u).setCell ⟨B, 1, none⟩ v).heap[B]? = some (.cells #[u, v] t (0, 0)) := hSk (hSk h u) v
theorem SlAt.drew {n m : Nat} {w : World} {sv : Value} {cs : List Value} (h : SlAt n w sv m cs) : SlAt n w.drew sv m cs := h
end Go.Proofs.YtcbbenncdainfaaGreatDoor
namespace Go.Proofs.YtcbbenncdainfaaGreatDoor
open Go Go.RowKit
structure WIn (Inv : World → Prop) where
 world : World
 ok : Inv world
theorem wp_region_class {P : Program} (Inv : World → Prop) {id : Nat} {Q : Exit → Act → World → Prop} {a : Act} {w : World} {l : List Oper} (hm : P.follows .mixedOrders = true) (hB : Region.lexB .any l.toArray = true) (hC : Inv w.drew)
  (h : wpQuiet P l.toArray (fun w' => ∃ X : WIn Inv, w' = X.world) (fun a' => ∀ w', (∃ X : WIn Inv, w' = X.world) → Q .normal a' w') l a) : (Code.region id l.toArray true).wp P Q a w :=
 wp_region_quiet (C := fun w' => ∃ X : WIn Inv, w' = X.world) hm hB ⟨⟨_, hC⟩, rfl⟩ (by simpa using h)
theorem calls_class {P : Program} {Inv : World → Prop} {f : FuncId} {args : Array Value} {W : World} {v : Value} {R : World → World → Prop} (hgo : ∀ W', R W W' → Inv W')
  (h : Calls P f args W fun e w' => e = .returned v ∧ R W w') : Calls P f args W fun e w' => e = .returned v ∧ ∃ Y : WIn Inv, w' = Y.world :=
 h.mono fun _ W' ⟨he, hr⟩ => ⟨he, ⟨⟨W', hgo W' hr⟩, rfl⟩⟩
theorem calls_class_below {P : Program} {Inv : World → Prop} {f : FuncId} {args : Array Value} {X : WIn Inv} {v : Value} (hgo : ∀ W W', Inv W → Below W.heap.size W W' → Inv W')
  (h : Calls P f args X.world fun e w' => e = .returned v ∧ Below X.world.heap.size X.world w') : Calls P f args X.world fun e w' => e = .returned v ∧ ∃ Y : WIn Inv, w' = Y.world :=
 calls_class (R := fun W W' => Below W.heap.size W W') (fun W' hr => hgo _ W' X.ok hr) h
theorem wp_scope_once {P : Program} {Q : Exit → Act → World → Prop} {a : Act} {w : World} {c rest : Code} (l : Nat) (hf : findLabel c l = some rest)
  (first : c.wp P (Exit.jump l (fun a w => rest.wp P (Exit.noGoto Q) a w) Q) a w) : (Code.scope c).wp P Q a w :=
 wp_scope_jumps l _ (fun _ _ => 0) hf first (fun _ _ hJ => Code.wp_mono (fun e _ _ h => by cases e <;> first | exact h | exact (h : False).elim) hJ)
theorem jump_ret {l : Nat} {J : Act → World → Prop} {Q : Exit → Act → World → Prop} {a : Act} {w : World} : Exit.jump l J Q .ret a w = Q .ret a w := rfl
theorem boxes1 (w : World) (c0 : Array Value) (t0 : TypeId) : ∃ W, w.alloc (.cells c0 t0) = W ∧ W.heap[w.heap.size]? = some (.cells c0 t0 (0, 0)) ∧ Below w.heap.size w W ∧ W.heap.size = w.heap.size + 1 :=
 ⟨_, rfl, World.alloc_heap_new _ _, (Below.refl _ w).alloc (Nat.le_refl _) _, by simp⟩
theorem boxes2 (w : World) (c0 : Array Value) (t0 : TypeId) (c1 : Array Value) (t1 : TypeId) : ∃ W, (w.alloc (.cells c0 t0)).alloc (.cells c1 t1) = W ∧ W.heap[w.heap.size]? = some (.cells c0 t0 (0, 0)) ∧ W.heap[w.heap.size + 1]? = some (.cells c1 t1 (0, 0)) ∧ Below w.heap.size w W ∧ W.heap.size = w.heap.size + 2 := by
 obtain ⟨X, rfl, h0, hB, hs⟩ := boxes1 w c0 t0
 obtain ⟨Y, rfl, h1, hB1, hs1⟩ := boxes1 (w.alloc (.cells c0 t0)) c1 t1
 rw [hs] at h1
 exact ⟨_, rfl, (hB1.block _ (by omega)).trans h0, h1, hB.trans (hB1.mono (by omega)), by omega⟩
theorem boxes3 (w : World) (c0 : Array Value) (t0 : TypeId) (c1 : Array Value) (t1 : TypeId) (c2 : Array Value) (t2 : TypeId) : ∃ W, ((w.alloc (.cells c0 t0)).alloc (.cells c1 t1)).alloc (.cells c2 t2) = W ∧ W.heap[w.heap.size]? = some (.cells c0 t0 (0, 0)) ∧ W.heap[w.heap.size + 1]? = some (.cells c1 t1 (0, 0)) ∧ W.heap[w.heap.size + 2]? = some (.cells c2 t2 (0, 0)) ∧ Below w.heap.size w W ∧ W.heap.size = w.heap.size + 3 := by
 obtain ⟨X, rfl, h0, h1, hB, hs⟩ := boxes2 w c0 t0 c1 t1
 obtain ⟨Y, rfl, h2, hB1, hs1⟩ := boxes1 ((w.alloc (.cells c0 t0)).alloc (.cells c1 t1)) c2 t2
 rw [hs] at h2
 exact ⟨_, rfl, (hB1.block _ (by omega)).trans h0, (hB1.block _ (by omega)).trans h1, h2, hB.trans (hB1.mono (by omega)), by omega⟩
theorem known {n : Nat} {W W' : World} {b : Nat} {o : Obj} (hb : Below n W W') (hn : W.heap.size ≤ n) (h : W.heap[b]? = some o) : W'.heap[b]? = some o := (hb.block _ (Nat.lt_of_lt_of_le (Array.getElem?_eq_some_iff.1 h).1 hn)).trans h
end Go.Proofs.YtcbbenncdainfaaGreatDoor
namespace Go.Proofs.YtcbbenncdainfaaGreatDoor
open Go Go.RowKit Go.ChangeShapes Go.WideShapes Go.Deep
def U64 (n : Int) : Prop := 0 ≤ n ∧ n ≤ 18446744073709551615
def SlE {α : Type} (enc : α → List Value) (k : Nat) (n₀ : Nat) (w : World) (a : Option Addr) (len : Nat) (l : List α) : Prop :=
 len = l.length ∧ ∀ j x, l[j]? = some x → ∃ b off, a = some ⟨b, off, none⟩ ∧ b < n₀ ∧ ∀ i, i < k → w.cell? ⟨b, off + j * k + i, none⟩ = (enc x)[i]?
section
variable {α : Type} {enc : α → List Value} {k n₀ n₁ : Nat} {w A B : World} {a : Option Addr} {len cap : Nat} {l : List α}
theorem SlE.below (h : Below n₀ A B) (hs : SlE enc k n₀ A a len l) : SlE enc k n₀ B a len l :=
 ⟨hs.1, fun j x hx => let ⟨b, off, e, hb, hc⟩ := hs.2 j x hx; ⟨b, off, e, hb, fun i hi => (h.cell (p := ⟨b, off + j * k + i, none⟩) hb).trans (hc i hi)⟩⟩
theorem SlE.mono (hn : n₀ ≤ n₁) (hs : SlE enc k n₀ w a len l) : SlE enc k n₁ w a len l :=
 ⟨hs.1, fun j x hx => let ⟨b, off, e, hb, hc⟩ := hs.2 j x hx; ⟨b, off, e, Nat.lt_of_lt_of_le hb hn, hc⟩⟩
theorem SlE.go (hs : SlE enc k A.heap.size A a len l) (h : Below A.heap.size A B) : SlE enc k B.heap.size B a len l := (hs.below h).mono h.size
theorem SlE.of_at (hk : ∀ x, (enc x).length = k) (h : SlAt n₀ w (.slice a len cap) l.length (l.flatMap enc)) : SlE enc k n₀ w a len l := SlAt.elems hk h
theorem SlE.nil : SlE enc k n₀ w a 0 [] := ⟨rfl, fun j x h => by simp at h⟩
theorem SlE.drew (hs : SlE enc k n₀ w a len l) : SlE enc k n₀ w.drew a len l := hs
theorem SlE.take (hs : SlE enc k n₀ w a len l) (m : Nat) (hm : m ≤ len) : SlE enc k n₀ w a m (l.take m) :=
 ⟨by have := hs.1; simp; omega, fun j x hx => hs.2 j x (by rw [List.getElem?_take] at hx; split at hx; exact hx; cases hx)⟩
theorem SlE.drop {b off : Nat} (hs : SlE enc k n₀ w (some ⟨b, off, none⟩) len l) (m : Nat) : SlE enc k n₀ w (some ⟨b, off + m * k, none⟩) (len - m) (l.drop m) :=
 ⟨by have := hs.1; simp; omega, fun j x hx => by
  rw [List.getElem?_drop] at hx
  obtain ⟨b', off', e, hb, hc⟩ := hs.2 (m + j) x hx
  injection e with e1
  injection e1 with e1 e2
  subst e1; subst e2
  refine ⟨b, off + m * k, rfl, hb, fun i hi => ?_⟩
  rw [← hc i hi]
  congr 2
  rw [Nat.add_mul]; omega⟩
theorem SlE.at (hs : SlE enc k n₀ w a len l) {j : Nat} (hj : j < len) : ∃ x b off, l[j]? = some x ∧ a = some ⟨b, off, none⟩ ∧ b < n₀ ∧ ∀ i, i < k → w.cell? ⟨b, off + j * k + i, none⟩ = (enc x)[i]? := by
 have hl := hs.1
 obtain ⟨x, hx⟩ : ∃ x, l[j]? = some x := ⟨_, List.getElem?_eq_getElem (by omega)⟩
 obtain ⟨b, off, e, hb, hc⟩ := hs.2 j x hx
 exact ⟨x, b, off, hx, e, hb, hc⟩
theorem SlE.set_far {p : Addr} (hp : ∀ x, a = some x → p.block ≠ x.block) (v : Value) (hs : SlE enc k n₀ w a len l) : SlE enc k n₀ (w.setCell p v) a len l :=
 ⟨hs.1, fun j x hx => let ⟨b, off, e, hb, hc⟩ := hs.2 j x hx; ⟨b, off, e, hb, fun i hi => by rw [World.cell?_setCell_other (h := fun h => hp _ e (by rw [h]))]; exact hc i hi⟩⟩
end
def SlC {α : Type} (enc : α → List Value) (k : Nat) (n₀ : Nat) (w : World) (a : Option Addr) (len cap : Nat) (l : List α) : Prop :=
 SlE enc k n₀ w a len l ∧ len ≤ cap ∧ cap ≤ maxLen ∧ (a = none → cap = 0) ∧ ∀ x, a = some x → 0 < cap → x.spot = none ∧ x.block < n₀
section
variable {α : Type} {enc : α → List Value} {k n₀ n₁ : Nat} {w A B : World} {a : Option Addr} {len cap : Nat} {l : List α}
theorem SlC.below (h : Below n₀ A B) (hs : SlC enc k n₀ A a len cap l) : SlC enc k n₀ B a len cap l := ⟨hs.1.below h, hs.2⟩
theorem SlC.mono (hn : n₀ ≤ n₁) (hs : SlC enc k n₀ w a len cap l) : SlC enc k n₁ w a len cap l :=
 ⟨hs.1.mono hn, hs.2.1, hs.2.2.1, hs.2.2.2.1, fun x e hc => let ⟨h1, h2⟩ := hs.2.2.2.2 x e hc; ⟨h1, Nat.lt_of_lt_of_le h2 hn⟩⟩
theorem SlC.go (hs : SlC enc k A.heap.size A a len cap l) (h : Below A.heap.size A B) : SlC enc k B.heap.size B a len cap l := (hs.below h).mono h.size
theorem SlC.take (hs : SlC enc k n₀ w a len cap l) (m : Nat) (hm : m ≤ len) : SlC enc k n₀ w a m cap (l.take m) := ⟨hs.1.take m hm, Nat.le_trans hm hs.2.1, hs.2.2⟩
theorem SlC.nil : SlC enc k n₀ w none 0 0 ([] : List α) := ⟨SlE.nil, Nat.le_refl _, Nat.zero_le _, fun _ => rfl, fun x h => by cases h⟩
theorem SlC.set_far {p : Addr} (hp : ∀ x, a = some x → p.block ≠ x.block) (v : Value) (hs : SlC enc k n₀ w a len cap l) : SlC enc k n₀ (w.setCell p v) a len cap l := ⟨hs.1.set_far hp v, hs.2⟩
end
section
variable {α : Type} {enc : α → List Value} {k n₀ : Nat} {w : World} {a : Option Addr} {len cap : Nat} {l : List α}
theorem SlE.to_at (hk : ∀ x, (enc x).length = k) (hpos : 0 < len) (h : SlE enc k n₀ w a len l) : SlAt n₀ w (.slice a len cap) l.length (l.flatMap enc) := by
 obtain ⟨x0, b, off, -, ea, hb, -⟩ := h.at hpos
 refine .inr ⟨b, off, cap, by rw [ea, h.1], hb, fun i hil => ?_⟩
 rw [flat_len enc k hk] at hil
 have hk0 : 0 < k := by
  rcases Nat.eq_zero_or_pos k with h0 | h0
  ·subst h0; simp at hil
  ·exact h0
 have hdm := Nat.div_add_mod i k
 have hq : i / k < l.length := Nat.div_lt_of_lt_mul (by rw [Nat.mul_comm]; exact hil)
 have hr : i % k < k := Nat.mod_lt _ hk0
 obtain ⟨y, hy⟩ : ∃ y, l[i / k]? = some y := ⟨_, List.getElem?_eq_getElem hq⟩
 obtain ⟨b', off', ea', _, hc⟩ := h.2 _ y hy
 rw [ea] at ea'
 injection ea' with e1
 injection e1 with e1 e2
 subst e1; subst e2
 have h1 := hc _ hr
 have h2 := flat_cell enc k hk l (i / k) (i % k) y hy hr
 have e1 : i / k * k + i % k = i := by rw [Nat.mul_comm]; exact hdm
 rw [Nat.add_assoc, e1] at h1
 rw [e1] at h2
 rw [h1, h2]
end
theorem append_elems (P : Program) {α : Type} {enc : α → List Value} {t e : TypeId} {z : Value} {size bytes : Nat} (ty : TypeId) (ht : P.underlying t = some (.slice e)) (hinfo : (P.info? e).map (fun i => (i.zero, i.size, i.bytes)) = some (some z, size, bytes)) (hzs : z.cells.size = size) (hsz : 0 < size)
  {W w0 : World} {B base : Nat} {v : Value} {a : Option Addr} {n m cap : Nat} {xs : List Value} {l : List α} (hown : W.ownsRow base e size v n xs) (hB : Below B w0 W) (hBb : B ≤ base) (hbase : base ≤ W.heap.size) (hk : ∀ x, (enc x).length = size) (hsrc : SlE enc size W.heap.size W a m l) (h1 : ∀ x, ∀ u ∈ enc x, u.oneCell' = true)
  (hn : n < 2147483648) (hm : m < 2147483648) (hby : bytes ≤ 4096) :
  ∃ v' w1, (Builtin.append_ #[t, t] ty #[v, .slice a m cap]).run P W = .ok v' w1 ∧ w1.ownsRow base e size v' (n + m) (xs ++ l.flatMap enc) ∧ Below B w0 w1 ∧ W.heap.size ≤ w1.heap.size ∧ (∀ k, k < base → w1.heap[k]? = W.heap[k]?) ∧ (∀ k, k < W.heap.size → some k ≠ v.ownBlock → w1.heap[k]? = W.heap[k]?) := by
 rcases Nat.eq_zero_or_pos m with h0 | hpos
 ·subst h0
  obtain rfl : l = [] := List.eq_nil_of_length_eq_zero hsrc.1.symm
  obtain ⟨i0, hi, hz0, hz1, hz2⟩ := info_parts hinfo
  refine ⟨v, W, ?_, by simpa using hown, hB, Nat.le_refl _, fun _ _ => rfl, fun _ _ _ => rfl⟩
  obtain ⟨a', c, rfl⟩ : ∃ a c, v = .slice a n c := by
   rcases hown.2 with ⟨rfl, rfl⟩ | ⟨g, cap, cur, rfl, _⟩
   ·exact ⟨none, 0, rfl⟩
   ·exact ⟨_, cap, rfl⟩
  cases a <;>
  ·rcases hown.2 with ⟨he, hn0⟩ | ⟨g, cap, cur, he, hg, hgg, hnc, _⟩
   ·obtain ⟨rfl, _, rfl⟩ : a' = none ∧ n = 0 ∧ c = 0 := by simpa using he
    subst hn0
    simp [Builtin.append_, run_underlying ht, sizeOf, typeInfo, hi, Builtin.lenOf, Builtin.firstCells, loadCells, loadCellsFrom]
   ·obtain ⟨rfl, rfl⟩ : a' = some ⟨g, 0, none⟩ ∧ c = cap := by simpa using he
    simp [Builtin.append_, run_underlying ht, sizeOf, typeInfo, hi, Builtin.lenOf, Builtin.firstCells, hnc, storeCells, loadCells, loadCellsFrom]
 ·have hat := hsrc.to_at (cap := cap) hk hpos
  rw [← hsrc.1] at hat
  have hfl : (l.flatMap enc).length = m * size := by rw [flat_len enc size hk, hsrc.1]
  exact append_list P ty ht hinfo hzs hsz hown hB hBb hbase hat hfl (fun u hu => by obtain ⟨x, _, hx⟩ := List.mem_flatMap.1 hu; exact h1 x u hx) hn hm hby
theorem slC_of_owns {α : Type} {enc : α → List Value} {w : World} {base e size : Nat} {v : Value} {l : List α} (hk : ∀ x, (enc x).length = size) (h : w.ownsRow base e size v l.length (l.flatMap enc)) :
  ∃ a cap, v = .slice a l.length cap ∧ SlC enc size w.heap.size w a l.length cap l ∧ ∀ x, a = some x → base ≤ x.block := by
 have hsl := slAt_of_owns h
 rcases h.2 with ⟨rfl, hn⟩ | ⟨g, cap, cur, rfl, hg, hh, hnc, hcm, hcs, ht⟩
 ·have hl : l = [] := List.eq_nil_of_length_eq_zero hn
  subst hl
  exact ⟨none, 0, rfl, SlC.nil, fun x h => by cases h⟩
 ·refine ⟨_, cap, rfl, ⟨SlE.of_at hk hsl, hnc, hcm, (fun h => by cases h), fun x hx _ => ?_⟩, fun x hx => ?_⟩
  ·cases hx; exact ⟨rfl, (Array.getElem?_eq_some_iff.1 hh).1⟩
  ·cases hx; exact hg
section
variable {H : Type} {enc : TypeId × Value → H} {P : Program} {w : World} {base : Nat} {held : Bool}
theorem slC_of_trod {α : Type} {t e : TypeId} {k : Nat} {encA : α → List Value} (hk : 0 < k) (ht : P.underlying t = some (.slice e)) (hc : P.cellsOf e = k)
  (hel : ∀ n cs x, DataW.trod enc P w base (fun _ => true) held n e cs = some x → ∃ y, cs = encA y) {fuel : Nat} {a : Option Addr} {len cap : Nat} {x : DataW H × List MemPlace}
  (h : DataW.trod enc P w base (fun _ => true) held fuel t [.slice a len cap] = some x) :
  ∃ l : List α, SlC encA k w.heap.size w a len cap l := by
 rcases open_slice ht h with ⟨h0, _⟩ | ⟨a', len', cap', m, n, D, Pl, hcs, -, hl, hmx, hm, -, hi⟩
 ·simp only [List.cons.injEq, and_true, Value.slice.injEq] at h0
  obtain ⟨rfl, rfl, rfl⟩ := h0
  exact ⟨[], SlC.nil⟩
 ·simp only [List.cons.injEq, and_true, Value.slice.injEq] at hcs
  obtain ⟨rfl, rfl, rfl⟩ := hcs
  rw [if_pos rfl] at hm
  subst hm
  have hall : ∀ i, i < m → ∃ y, a'.spot = none ∧ a'.block < w.heap.size ∧ ∀ j, j < k → w.cell? ⟨a'.block, a'.off + i * k + j, none⟩ = (encA y)[j]? := fun i him => by
   obtain ⟨cs', h1, h2⟩ := hi i him
   obtain ⟨y, rfl⟩ := hel _ _ _ h2
   rw [hc] at h1
   obtain ⟨_, hlen, hat⟩ := World.cells?_some h1
   have hsp : a'.spot = none ∧ a'.block < w.heap.size := by
    obtain ⟨cs0, h10, h20⟩ := hi 0 (by omega)
    rw [hc, Nat.zero_mul] at h10
    obtain ⟨_, hlen0, hat0⟩ := World.cells?_some h10
    have e0 := hat0 0 hk
    have ea : (a'.add 0).add 0 = a' := by simp [Addr.add]
    rw [ea, List.getElem?_eq_getElem (by omega)] at e0
    refine ⟨?_, World.block_lt_of_cell? w _ e0⟩
    unfold World.cell? at e0
    cases hs : a'.spot with
    | none => rfl
    | some z =>
     rw [hs] at e0
     split at e0 <;> simp at e0
   refine ⟨y, hsp.1, hsp.2, fun j hj => ?_⟩
   have := hat j hj
   rw [add_none hsp.1, add_none rfl] at this
   exact this
  have hex : ∃ l : List α, l.length = len ∧ ∀ i y, l[i]? = some y → a'.spot = none ∧ a'.block < w.heap.size ∧ ∀ j, j < k → w.cell? ⟨a'.block, a'.off + i * k + j, none⟩ = (encA y)[j]? := by
   have hall' : ∀ i, i < len → ∃ y, a'.spot = none ∧ a'.block < w.heap.size ∧ ∀ j, j < k → w.cell? ⟨a'.block, a'.off + i * k + j, none⟩ = (encA y)[j]? := fun i hi => hall i (by omega)
   clear hi hl h hall
   induction len with
   | zero => exact ⟨[], rfl, fun i y h => by simp at h⟩
   | succ n ih =>
    obtain ⟨l, h1, h2⟩ := ih (fun i hi => hall' i (by omega))
    obtain ⟨y, hy⟩ := hall' n (by omega)
    refine ⟨l ++ [y], by simp [h1], fun i z hz => ?_⟩
    by_cases hil : i < l.length
    ·rw [List.getElem?_append_left hil] at hz
     exact h2 i z hz
    ·have hi2 := (List.getElem?_eq_some_iff.1 hz).1
     have : i = n := by simp at hi2; omega
     subst this
     rw [List.getElem?_append_right (by omega), h1] at hz
     simp at hz
     subst hz
     exact hy
  obtain ⟨l, hll, hcell⟩ := hex
  refine ⟨l, ⟨hll.symm, fun j y hy => ?_⟩, hl, hmx, fun h => by (cases h), fun y hy hpos => ?_⟩
  ·obtain ⟨h1, h2, h3⟩ := hcell j y hy
   exact ⟨a'.block, a'.off, by congr 1; cases a'; simp_all, h2, h3⟩
  ·cases hy
   obtain ⟨_, h1, h2, _⟩ := hall 0 hpos
   exact ⟨h1, h2⟩
end
def cutN (n : Int) (s : ByteArray) : ByteArray := s.extract 0 (min (s.size : Int) n).toNat
theorem cutN_size (n : Nat) (s : ByteArray) : (cutN n s).size = min s.size n := by simp [cutN]; omega
end Go.Proofs.YtcbbenncdainfaaGreatDoor
namespace Go.Proofs.YtcbbenncdainfaaGreatDoor
open Go Go.RowKit
structure Sk where
 kind : Int
 level : Int
 e : List Int
 hb : Int
 hr : ByteArray
 cr : Int
 cc : Int
 cl : List Int
 gf : Int
 gl : List (Int × Int)
def encU (n : Int) : List Value := [.int .u64 n]
def encB (b : Int × Int) : List Value := [.int .i64 b.1, .int .u64 b.2]
def U64s (l : List Int) : Prop := ∀ n ∈ l, U64 n
def I64 (n : Int) : Prop := -9223372036854775808 ≤ n ∧ n ≤ 9223372036854775807
def Bins (l : List (Int × Int)) : Prop := ∀ b ∈ l, I64 b.1 ∧ U64 b.2
def exStep (st : Option Int) (n : Int) : Option (Option Int) := if (match st with | none => false | some m => decide (n ≤ m)) then none else some (some n)
def exRight (l : List Int) : Bool := decide (l.length ≤ 64) && (foldO exStep none l).isSome
theorem exStep_last (l : List Int) : ∀ st r, foldO exStep st l = some r → r = l.getLast?.or st := by
 induction l with
 | nil => intro st r h; simpa [foldO_nil] using h.symm
 | cons x xs ih =>
  intro st r h
  rw [foldO_cons] at h
  cases hx : exStep st x with
  | none => rw [hx] at h; cases h
  | some y =>
   rw [hx] at h
   have hy : y = some x := by
    unfold exStep at hx
    generalize (match st with | none => false | some m => decide (x ≤ m)) = c at hx
    cases c
    ·simpa using hx.symm
    ·simp at hx
   have := ih y r h
   rw [this, hy, List.getLast?_cons]
   cases xs.getLast? <;> rfl
def isBitsB (n : Int) : Bool := decide (3 ≤ n) && decide (n ≤ 8)
def regsOk (b : Int) (r : ByteArray) : Bool := r.data.toList.all fun c => !decide (65 - b < (c.toNat : Int))
def hlRight (b : Int) (r : ByteArray) : Bool := isBitsB b && ((r.size : Int) == 2 ^ b.toNat) && regsOk b r
def isShapeB (rows cols : Int) : Bool := decide (1 ≤ rows) && decide (rows ≤ 4) && decide (4 ≤ cols) && decide (cols ≤ 32) && (bits .and .i64 cols (cols - 1) == 0)
def cmRight (rows cols : Int) (l : List Int) : Bool := isShapeB rows cols && ((l.length : Int) == rows * cols)
def isFineB (n : Int) : Bool := decide (0 ≤ n) && decide (n ≤ 3)
def boundsB (fine n : Int) : Bool :=
 if isFineB fine && decide (0 ≤ n) then
  (if n == 0 then true else if 64 ≤ (n - 1) / 2 ^ fine.toNat then false else if fine ≤ (n - 1) / 2 ^ fine.toNat then true
   else bits .and .i64 (bits .and .i64 (n - 1) (2 ^ fine.toNat - 1)) (2 ^ (fine - (n - 1) / 2 ^ fine.toNat).toNat - 1) == 0)
 else false
def histStep (fine : Int) (before : Int) (b : Int × Int) : Option Int := if b.2 == 0 || !boundsB fine b.1 || decide (b.1 ≤ before) then none else some b.1
def hiRight (fine : Int) (l : List (Int × Int)) : Bool := isFineB fine && (foldO (histStep fine) (-1) l).isSome
def bottomB (kind : Int) : Int := if kind == 1 then 4 else if kind == 2 || kind == 3 then 3 else -1
def bodyRight (x : Sk) : Bool :=
 if x.kind == 1 then (if x.level == 0 then exRight x.e else hlRight x.hb x.hr && (x.hb == 8 - x.level))
 else if x.kind == 2 then cmRight x.cr x.cc x.cl && (x.cr == 2) && (x.cc == 32 / 2 ^ x.level.toNat)
 else hiRight x.gf x.gl && (x.gf == 3 - x.level)
def skSame (x y : Sk) : Bool := x.kind == y.kind && x.level == y.level && (x.hb == y.hb && x.hr.toList == y.hr.toList) && x.e == y.e && (x.cr == y.cr && x.cc == y.cc && x.cl == y.cl) && (x.gf == y.gf && x.gl == y.gl)
structure SS where
 ea : Option Addr
 el : Nat
 ec : Nat
 ca : Option Addr
 cl : Nat
 cc : Nat
 ga : Option Addr
 gl : Nat
 gc : Nat
structure SS.At (s : SS) (n₀ : Nat) (w : World) (x : Sk) : Prop where
 e : SlC encU 1 n₀ w s.ea s.el s.ec x.e
 c : SlC encU 1 n₀ w s.ca s.cl s.cc x.cl
 g : SlC encB 2 n₀ w s.ga s.gl s.gc x.gl
theorem SS.At.go {s : SS} {A B : World} {x : Sk} (h : s.At A.heap.size A x) (hb : Below A.heap.size A B) : s.At B.heap.size B x := ⟨h.e.go hb, h.c.go hb, h.g.go hb⟩
theorem SS.At.below {s : SS} {n : Nat} {A B : World} {x : Sk} (h : s.At n A x) (hb : Below n A B) : s.At n B x := ⟨h.e.below hb, h.c.below hb, h.g.below hb⟩
theorem SS.At.mono {s : SS} {n m : Nat} {A : World} {x : Sk} (h : s.At n A x) (hn : n ≤ m) : s.At m A x := ⟨h.e.mono hn, h.c.mono hn, h.g.mono hn⟩
def skVal (x : Sk) (s : SS) : Value := .agg #[.int .i64 x.kind, .int .i64 x.level, .slice s.ea s.el s.ec, .int .i64 x.hb, .string x.hr, .int .i64 x.cr, .int .i64 x.cc, .slice s.ca s.cl s.cc, .int .i64 x.gf, .slice s.ga s.gl s.gc]
def Sk.ok (x : Sk) : Prop := I64 x.kind ∧ I64 x.level ∧ U64s x.e ∧ I64 x.hb ∧ I64 x.cr ∧ I64 x.cc ∧ U64s x.cl ∧ I64 x.gf ∧ Bins x.gl
end Go.Proofs.YtcbbenncdainfaaGreatDoor
namespace Go.Proofs.YtcbbenncdainfaaGreatDoor
open Go Go.RowKit
structure Sk.arg (x : Sk) : Prop where
 e : U64s x.e
 c : U64s x.cl
 g : ∀ z ∈ x.gl, I64 z.1 ∧ U64 z.2
end Go.Proofs.YtcbbenncdainfaaGreatDoor
namespace Go.Proofs.YtcbbenncdainfaaGreatDoor
open Go Go.RowKit
abbrev Up (l : List Int) : Prop := l.Pairwise (· < ·)
def exPlace (l : List Int) (n : Int) : Nat := l.countP (fun x => decide (x < n))
def exIns (l : List Int) (n : Int) : List Int := if l[exPlace l n]? = some n then l else l.take (exPlace l n) ++ n :: l.drop (exPlace l n)
def insR : List Int → Int → List Int
 | [], n => [n]
 | x :: xs, n => if x < n then x :: insR xs n else if x = n then x :: xs else n :: x :: xs
theorem exPlace_le (l : List Int) (n : Int) : exPlace l n ≤ l.length := List.countP_le_length
theorem up_tail {x : Int} {xs : List Int} (h : Up (x :: xs)) : Up xs ∧ ∀ y ∈ xs, x < y := ⟨(List.pairwise_cons.1 h).2, (List.pairwise_cons.1 h).1⟩
theorem exIns_eq : ∀ (l : List Int) (n : Int), Up l → exIns l n = insR l n
 | [], n, _ => by simp [exIns, insR, exPlace]
 | x :: xs, n, h => by
  obtain ⟨h1, h2⟩ := up_tail h
  have ih := exIns_eq xs n h1
  unfold exIns insR
  by_cases hx : x < n
  ·have hp : exPlace (x :: xs) n = exPlace xs n + 1 := by simp [exPlace, hx]
   rw [hp, if_pos hx, ← ih]
   unfold exIns
   simp only [List.getElem?_cons_succ, List.take_succ_cons, List.drop_succ_cons]
   split
   ·rfl
   ·rfl
  ·have hp : exPlace (x :: xs) n = 0 := by
    unfold exPlace
    rw [List.countP_eq_zero]
    intro y hy
    rcases List.mem_cons.1 hy with rfl | hy
    ·simpa using hx
    ·have := h2 y hy
     simp; omega
   rw [hp, if_neg hx]
   simp only [List.getElem?_cons_zero, Option.some.injEq, List.take_zero, List.drop_zero, List.nil_append]
theorem insR_mem : ∀ (l : List Int) (n y : Int), y ∈ insR l n ↔ y = n ∨ y ∈ l
 | [], n, y => by simp [insR]
 | x :: xs, n, y => by
  unfold insR
  split
  ·rw [List.mem_cons, insR_mem xs n y, List.mem_cons]
   constructor
   ·rintro (h | h | h) <;> simp [h]
   ·rintro (h | h | h) <;> simp [h]
  ·split
   ·rename_i h1 h2
    subst h2
    simp
   ·simp
theorem insR_up : ∀ (l : List Int) (n : Int), Up l → Up (insR l n)
 | [], n, _ => by simp [insR]
 | x :: xs, n, h => by
  obtain ⟨h1, h2⟩ := up_tail h
  unfold insR
  split
  ·rename_i hx
   refine List.pairwise_cons.2 ⟨fun y hy => ?_, insR_up xs n h1⟩
   rcases (insR_mem xs n y).1 hy with rfl | hy
   ·exact hx
   ·exact h2 y hy
  ·split
   ·exact h
   ·rename_i h3 h4
    refine List.pairwise_cons.2 ⟨fun y hy => ?_, h⟩
    rcases List.mem_cons.1 hy with rfl | hy
    ·omega
    ·have := h2 y hy; omega
theorem insR_len : ∀ (l : List Int) (n : Int), (insR l n).length ≤ l.length + 1 ∧ l.length ≤ (insR l n).length
 | [], n => by simp [insR]
 | x :: xs, n => by
  have ih := insR_len xs n
  unfold insR
  split
  ·simp only [List.length_cons]; omega
  ·split
   ·simp
   ·simp
theorem up_ext : ∀ (l m : List Int), Up l → Up m → (∀ y, y ∈ l ↔ y ∈ m) → l = m
 | [], [], _, _, _ => rfl
 | [], b :: m, _, _, h => by have := (h b).2 List.mem_cons_self; cases this
 | a :: l, [], _, _, h => by have := (h a).1 List.mem_cons_self; cases this
 | a :: l, b :: m, hl, hm, h => by
  obtain ⟨l1, l2⟩ := up_tail hl
  obtain ⟨m1, m2⟩ := up_tail hm
  have hab : a = b := by
   rcases List.mem_cons.1 ((h a).1 List.mem_cons_self) with e | e
   ·exact e
   ·rcases List.mem_cons.1 ((h b).2 List.mem_cons_self) with e2 | e2
    ·exact e2.symm
    ·have := m2 a e; have := l2 b e2; omega
  subst hab
  congr 1
  refine up_ext l m l1 m1 (fun y => ⟨fun hy => ?_, fun hy => ?_⟩)
  ·rcases List.mem_cons.1 ((h y).1 (List.mem_cons_of_mem _ hy)) with e | e
   ·subst e; have := l2 y hy; omega
   ·exact e
  ·rcases List.mem_cons.1 ((h y).2 (List.mem_cons_of_mem _ hy)) with e | e
   ·subst e; have := m2 y hy; omega
   ·exact e
def exGather : List Int → List Int → Option (List Int)
 | l, [] => some l
 | l, n :: r => if 64 < (exIns l n).length then none else exGather (exIns l n) r
theorem exGather_snoc : ∀ (r : List Int) (l : List Int) (n : Int), exGather l (r ++ [n]) = (exGather l r).bind fun m => if 64 < (exIns m n).length then none else some (exIns m n)
 | [], l, n => by simp [exGather]
 | x :: r, l, n => by
  simp only [List.cons_append, exGather]
  split
  ·rfl
  ·exact exGather_snoc r _ n
theorem exRight_up (l : List Int) (h : exRight l = true) : Up l ∧ l.length ≤ 64 := by
 simp only [exRight, Bool.and_eq_true, decide_eq_true_eq] at h
 obtain ⟨h1, h2⟩ := h
 refine ⟨?_, h1⟩
 have : ∀ (l : List Int) (st : Option Int), (foldO exStep st l).isSome = true → Up l ∧ ∀ m, st = some m → ∀ y ∈ l, m < y := by
  intro l
  induction l with
  | nil => intro st _; exact ⟨List.Pairwise.nil, fun _ _ _ h => by cases h⟩
  | cons x xs ih =>
   intro st hs
   rw [foldO_cons] at hs
   cases hx : exStep st x with
   | none => rw [hx] at hs; cases hs
   | some s2 =>
    rw [hx] at hs
    obtain ⟨i1, i2⟩ := ih s2 hs
    have hs2 : s2 = some x ∧ ∀ m, st = some m → m < x := by
     unfold exStep at hx
     cases st with
     | none => simp at hx; exact ⟨hx.symm, fun m h => by cases h⟩
     | some m =>
      by_cases hc : x ≤ m
      ·simp [hc] at hx
      ·simp [hc] at hx
       refine ⟨hx.symm, fun m' h => ?_⟩
       cases h
       omega
    have i3 := i2 x hs2.1
    refine ⟨List.pairwise_cons.2 ⟨i3, i1⟩, fun m hm y hy => ?_⟩
    rcases List.mem_cons.1 hy with rfl | hy
    ·exact hs2.2 m hm
    ·have := i3 y hy; have := hs2.2 m hm; omega
 exact (this l none h2).1
theorem up_right : ∀ (l : List Int), Up l → l.length ≤ 64 → exRight l = true := by
 intro l h h2
 simp only [exRight, Bool.and_eq_true, decide_eq_true_eq]
 refine ⟨h2, ?_⟩
 have : ∀ (l : List Int) (st : Option Int), Up l → (∀ m, st = some m → ∀ y ∈ l, m < y) → (foldO exStep st l).isSome = true := by
  intro l
  induction l with
  | nil => intro st _ _; rfl
  | cons x xs ih =>
   intro st hu hs
   obtain ⟨u1, u2⟩ := up_tail hu
   have hx : exStep st x = some (some x) := by
    unfold exStep
    cases st with
    | none => simp
    | some m =>
     have := hs m rfl x List.mem_cons_self
     simp; omega
   rw [foldO_cons, hx]
   exact ih (some x) u1 (fun m hm y hy => by cases hm; exact u2 y hy)
 exact this l none h (fun m hm => by cases hm)
end Go.Proofs.YtcbbenncdainfaaGreatDoor
namespace Go.Proofs.YtcbbenncdainfaaGreatDoor
open Go Go.RowKit Go.Shelf
def dropA (a : Option Addr) (cap m k : Nat) : Option Addr := if cap = m then a else a.map (·.add (m * k))
theorem SlC.drop {α : Type} {enc : α → List Value} {k n₀ : Nat} {w : World} {a : Option Addr} {len cap : Nat} {l : List α} (hs : SlC enc k n₀ w a len cap l) (m : Nat) (hm : m ≤ len) : SlC enc k n₀ w (dropA a cap m k) (len - m) (cap - m) (l.drop m) := by
 have hl := hs.1.1
 have hc := hs.2.1
 have hmx := hs.2.2.1
 refine ⟨⟨by rw [List.length_drop]; omega, fun j x hx => ?_⟩, by omega, by omega, fun h => ?_, fun x hx hpos => ?_⟩
 ·rw [List.getElem?_drop] at hx
  obtain ⟨b, off, e, hb, hcell⟩ := hs.1.2 (m + j) x hx
  have hlt := (List.getElem?_eq_some_iff.1 hx).1
  refine ⟨b, off + m * k, ?_, hb, fun i hi => ?_⟩
  ·rw [dropA, if_neg (by omega), e, Option.map_some, add_none rfl]
  ·rw [← hcell i hi]; congr 2; rw [Nat.add_mul]; omega
 ·by_cases h0 : cap = m
  ·omega
  ·rw [dropA, if_neg h0] at h
   have := hs.2.2.2.1 (by simpa using h)
   omega
 ·rw [dropA, if_neg (by omega)] at hx
  cases a with
  | none => cases hx
  | some z =>
   obtain ⟨h1, h2⟩ := hs.2.2.2.2 z rfl (by omega)
   rw [Option.map_some] at hx
   injection hx with hx
   rw [← hx, add_none h1]
   exact ⟨rfl, h2⟩
theorem dropA_zero (a : Option Addr) (cap k : Nat) : dropA a cap 0 k = a := by
 unfold dropA
 split
 ·rfl
 ·cases a <;> simp [Addr.add]
end Go.Proofs.YtcbbenncdainfaaGreatDoor
namespace Go.Proofs.YtcbbenncdainfaaGreatDoor
open Go Go.RowKit
def hlAt (b n : Nat) : Nat := n / 2 ^ (64 - b)
def hlRank (b n : Nat) : Nat := if n * 2 ^ b % 2 ^ 64 = 0 then 65 - b else 65 - Lib.bitLen (n * 2 ^ b % 2 ^ 64)
def hlTell (r : List Nat) (p k : Nat) : List Nat := r.set p (max (r.getD p 0) k)
def hlAdd (b : Nat) (r : List Nat) (n : Nat) : List Nat := hlTell r (hlAt b n) (hlRank b n)
def hlSum (b : Nat) (r : List Nat) (l : List Nat) : List Nat := l.foldl (hlAdd b) r
def upR (x : Nat) : Nat := if x = 0 then 0 else x + 1
def oneR (x : Nat) : Nat := if x = 0 then 0 else 1
def hlLow (b : Nat) (r : List Nat) : List Nat := (List.range (2 ^ (b - 1))).map fun i => max (upR (r.getD (2 * i) 0)) (oneR (r.getD (2 * i + 1) 0))
def hlNone (b : Nat) : List Nat := List.replicate (2 ^ b) 0
theorem bitLen_bd (x : Nat) (h : x < 2 ^ 64) (h0 : x ≠ 0) : 1 ≤ Lib.bitLen x ∧ 2 ^ (Lib.bitLen x - 1) ≤ x ∧ x < 2 ^ Lib.bitLen x := Lib.bitLenAux_bounds 64 x h h0
theorem bitLen_64 (x : Nat) (h : x < 2 ^ 64) (h0 : x ≠ 0) : Lib.bitLen x ≤ 64 := by
 obtain ⟨h1, h2, h3⟩ := bitLen_bd x h h0
 apply Classical.byContradiction
 intro hc
 have : 2 ^ 64 ≤ 2 ^ (Lib.bitLen x - 1) := Nat.pow_le_pow_right (by omega) (by omega)
 omega
theorem hlRank_le (b n : Nat) (hb : b ≤ 8) : hlRank b n ≤ 65 - b := by
 unfold hlRank
 split
 ·omega
 ·rename_i h
  obtain ⟨h1, h2, h3⟩ := bitLen_bd _ (Nat.mod_lt (n * 2 ^ b) (by decide : 0 < 2 ^ 64)) h
  have h4 : 2 ^ b ∣ n * 2 ^ b % 2 ^ 64 := by
   have h5 : 2 ^ b ∣ 2 ^ 64 := Nat.pow_dvd_pow 2 (by omega)
   exact (Nat.dvd_mod_iff h5).2 (Nat.dvd_mul_left _ _)
  have h6 : 2 ^ b ≤ n * 2 ^ b % 2 ^ 64 := Nat.le_of_dvd (by omega) h4
  have h7 : b < Lib.bitLen (n * 2 ^ b % 2 ^ 64) := (Nat.pow_lt_pow_iff_right (by omega : 1 < 2)).1 (by omega)
  omega
theorem hlAt_lt (b n : Nat) (hb : b ≤ 8) (hn : n < 2 ^ 64) : hlAt b n < 2 ^ b := by
 unfold hlAt
 rw [Nat.div_lt_iff_lt_mul (Nat.two_pow_pos _), ← Nat.pow_add, show b + (64 - b) = 64 by omega]
 exact hn
theorem hlTell_len (r : List Nat) (p k : Nat) : (hlTell r p k).length = r.length := by simp [hlTell]
theorem hlAdd_len (b : Nat) (r : List Nat) (n : Nat) : (hlAdd b r n).length = r.length := hlTell_len _ _ _
theorem hlSum_len (b : Nat) : ∀ (l r : List Nat), (hlSum b r l).length = r.length
 | [], _ => rfl
 | x :: l, r => by
  show (hlSum b (hlAdd b r x) l).length = _
  rw [hlSum_len b l, hlAdd_len]
theorem hlLow_len (b : Nat) (r : List Nat) : (hlLow b r).length = 2 ^ (b - 1) := by simp [hlLow]
theorem getD_set (r : List Nat) (p i v : Nat) : (r.set p v).getD i 0 = if p = i ∧ i < r.length then v else r.getD i 0 := by
 simp only [List.getD_eq_getElem?_getD, List.getElem?_set]
 by_cases h : p = i
 ·subst h
  by_cases hl : p < r.length
  ·simp [hl]
  ·simp [hl]
 ·simp [h]
theorem tell_at (r : List Nat) (p i k : Nat) : (hlTell r p k).getD i 0 = if p = i ∧ i < r.length then max (r.getD i 0) k else r.getD i 0 := by
 unfold hlTell
 rw [getD_set]
 split
 ·rename_i h; rw [h.1]
 ·rfl
theorem getD_ext (r s : List Nat) (hl : r.length = s.length) (h : ∀ i, i < r.length → r.getD i 0 = s.getD i 0) : r = s := by
 apply List.ext_getElem hl
 intro i h1 h2
 have := h i h1
 simpa [List.getD_eq_getElem?_getD, List.getElem?_eq_getElem h1, List.getElem?_eq_getElem h2] using this
theorem low_at (b : Nat) (r : List Nat) (i : Nat) (hi : i < 2 ^ (b - 1)) : (hlLow b r).getD i 0 = max (upR (r.getD (2 * i) 0)) (oneR (r.getD (2 * i + 1) 0)) := by
 simp [hlLow, List.getD_eq_getElem?_getD, hi]
theorem oneR_le (x : Nat) : oneR x ≤ 1 := by unfold oneR; split <;> omega
theorem hlTell_le (r : List Nat) (p k m : Nat) (hr : ∀ i, r.getD i 0 ≤ m) (hk : k ≤ m) : ∀ i, (hlTell r p k).getD i 0 ≤ m := fun i => by
 rw [tell_at]
 have := hr i
 split <;> omega
end Go.Proofs.YtcbbenncdainfaaGreatDoor

/- Words of my own, of no program: slices in memory, boxes, a range over a function in a plain walk. -/
import Derived.Test.YtjpnbkdhmjgdgaaDoorA0
import Derived.RangeFuncNested
import Derived.RangeFuncBound
import Derived.RangeFuncCalls
import Derived.RangeFuncLeaves
import Derived.Shelf.Abstract
import Derived.Shelf.RegionOpen
import Derived.OwnWalkIn
import Derived.TacticsInMore
import Derived.LoopNIn
import Derived.LoopIn
import Derived.Outline
import Derived.BigGuardIn
import Derived.WalkMore
namespace Go.Proofs.YtjpnbkdhmjgdgaaDoor
open Go Go.RowKit Go.Shelf

/-- The slice value sv has n elements, whose cells hold cs, in a block below n₀; or it is nil. -/
def SlAt (n₀ : Nat) (w : World) (sv : Value) (n : Nat) (cs : List Value) : Prop :=
  (sv = .slice none 0 0 ∧ n = 0 ∧ cs = []) ∨ ∃ b off cap, sv = .slice (some ⟨b, off, none⟩) n cap ∧ b < n₀ ∧ ∀ i, i < cs.length → w.cell? ⟨b, off + i, none⟩ = cs[i]?
theorem SlAt.below {n₀ : Nat} {A B : World} (h : Below n₀ A B) {sv : Value} {n : Nat} {cs : List Value} : SlAt n₀ A sv n cs → SlAt n₀ B sv n cs
  | .inl e => .inl e
  | .inr ⟨b, off, cap, e, hb, hc⟩ => .inr ⟨b, off, cap, e, hb, fun j hj => (h.cell (p := ⟨b, off + j, none⟩) hb).trans (hc j hj)⟩
theorem SlAt.mono {n₀ n₁ : Nat} (hn : n₀ ≤ n₁) {w : World} {sv : Value} {n : Nat} {cs : List Value} : SlAt n₀ w sv n cs → SlAt n₁ w sv n cs
  | .inl e => .inl e
  | .inr ⟨b, off, cap, e, hb, hc⟩ => .inr ⟨b, off, cap, e, Nat.lt_of_lt_of_le hb hn, hc⟩
theorem bBoxed {n : Nat} {W W' : World} (h : Below n W W') {B t : Nat} {v : Value} (hB : B < n) (hb : Boxed W B t v) : Boxed W' B t v := (h.block B hB).trans hb
theorem bKeeps {n B : Nat} {W W' : World} (h : Below n W W') (hn : W.heap.size ≤ n) : KeepsFrom B W W' :=
  ⟨h.size, fun k _ _ hk _ => (h.block k (by have := (Array.getElem?_eq_some_iff.1 hk).1; omega)).trans hk⟩
theorem kSetBox {B b : Nat} {W : World} (v : Value) : KeepsFrom B W (W.setCell ⟨b, 0, none⟩ v) := (KeepsOthers.setCell W _ v).from B

/-- A function whose body ranges over a function: into its body, plainly. -/
theorem calls_marks {P : Program} {f : FuncId} {fn : Func} {c : Code} {args : Array Value} {w : World} {R : Ending → World → Prop} (hf : P.funcs[f]? = some fn) (hb : fn.body = some c)
    (h : c.wp P (bodyPostM Fence.wide 9 P fn R) { tmps := args ++ Array.replicate (fn.ntmps - args.size) undef, defers := [] } w) : Calls P f args w R :=
  (callsIn_wide (n := 9)).1 (callsIn_of_wp_marks hf hb trivial (wpIn_wide.2 h) rfl)
/-- Its return, where no range over a function was begun. -/
theorem marks_ret0 {P : Program} {fn : Func} {R : Ending → World → Prop} {a : Act} {w : World} {v : Value} (hr : (results fn a.tmps).run P w = .ok v w) (hd : a.defers = []) (hR : R (.returned v) w) :
    bodyPostM Fence.wide 9 P fn R .ret a w := by
  show LeavesInM Fence.wide 9 P fn a.tmps R a.defers .returning w
  rw [hd]; exact ⟨v, hr, hR⟩
/-- Its return behind one range over a function: D is the loop's block for deferred calls. -/
theorem marks_ret1 {P : Program} {fn : Func} {R : Ending → World → Prop} {tmps : Array Value} {w : World} {D : Nat} {v : Value} (hK : w.heap[D]? = some (.deferred (some [])))
    (hr : (results fn tmps).run P (w.putObj D (.deferred none)) = .ok v (w.putObj D (.deferred none))) (hR : R (.returned v) (w.putObj D (.deferred none))) :
    bodyPostM Fence.wide 9 P fn R .ret { tmps := tmps, defers := [{ target := .collected D, args := #[] }] } w := by
  refine ⟨by simp, .inl ⟨_, _, rfl, run_takeDeferred hK, ?_⟩⟩
  exact ⟨v, hr, hR⟩
theorem bPutD {n D : Nat} {w0 W : World} (h : Below n w0 W) (hD : n ≤ D) (hK : W.heap[D]? = some (.deferred (some []))) : Below n w0 (W.putObj D (.deferred none)) :=
  h.trans ((Below.refl n W).grown (grownBy_putObj' W D _) (by have := (Array.getElem?_eq_some_iff.1 hK).1; omega) (fun k e => by cases e; omega))

/-- THE LAW OF A RANGE OVER A FUNCTION, in a plain walk, for an iterator that gives the elements xs and reads memory below n₀. -/
theorem wp_range {α : Type} {P : Program} {g : Operand} {ps : Array Tmp} {assign body : Code} {Q : Exit → Act → World → Prop} {a : Act} {w : World}
    {gf : Nat} {lb : Array Value} (hg : a.eval g = .func (.func gf) #[] lb) (eg : ∀ args w, (callFunc gf args).run P w = .ok (.enter gf args) w)
    {encs : α → Array Value} {n₀ : Nat} {xs : List α} {N : Nat} {w0 : World} (hseq : SeqStopsK Fence.wide 8 P gf lb encs (Below n₀) (fun ys => ys = xs) (fun pre => pre <+: xs) N w0)
    (hn₀ : n₀ ≤ w.heap.size) (hb0 : Below w0.heap.size w0 w) (hps : ∀ x, (encs x).size = ps.size)
    (I : List α → World → Prop) (Ix : Code → List α → World → Prop) (hI : OwnFrom w.heap.size I) (hIx : ∀ c, OwnFrom w.heap.size (Ix c)) (h0 : I [] w) (Ax : α → Act → World → Prop) (hAx : ∀ x a', OwnFrom w.heap.size (fun (_ : Unit) W => Ax x a' W))
    (hassign : ∀ (l : Nat) (pre : List α) (x : α) (W : World) (K : Act → World → Prop), I pre W → (∀ a' W', KeepsFrom w.heap.size W W' → Below n₀ W W' → I pre W' → Ax x a' W' → K a' W') →
      assign.wpIn (Fence.wide.inRound l) 7 P (Exit.then K (fun _ _ _ => False)) { tmps := (ps.zip (encs x)).foldl (fun t (p, v) => t.setIfInBounds p v) a.tmps, defers := [] } W)
    (hbody : ∀ (l : Nat) (pre : List α) (x : α) (a' : Act) (W : World), I pre W → Ax x a' W → pre.length < N → body.wpIn (Fence.wide.inRound l) 7 P (ownPostG w.heap.size (Below n₀) I Ix (pre ++ [x]) W) a' W)
    (hdone : ∀ (D : Nat) (W : World), w.heap.size ≤ D → I xs W → W.heap[D]? = some (.deferred (some [])) → Q .normal { a with defers := { target := .collected D, args := #[] } :: a.defers } W)
    (hstop : ∀ (D : Nat) (c : Code) (pre : List α) (W : World), w.heap.size ≤ D → pre <+: xs → Ix c pre W → W.heap[D]? = some (.deferred (some [])) → c.wp P Q { a with defers := { target := .collected D, args := #[] } :: a.defers } W) :
    (Code.rangeFunc g ps assign body).wp P Q a w :=
  (wpIn_wide (n := 9)).1 (wpIn_rangeFunc_ownH rfl (by omega) hg trivial eg hseq belowK_t (belowK_b hn₀) hb0 hps I Ix hI hIx h0 Ax hAx hassign
    (fun l pre x a' W _ _ hi hax hlt => hbody l pre x a' W hi hax hlt) (fun D ys W hD e hi hK => by subst e; exact hdone D W hD hi hK) (fun D c pre W hD hp hi hK => wpIn_wide.2 (hstop D c pre W hD hp hi hK)))

theorem ownBox {β : Type} (C B : Nat) (t : TypeId) (f : β → Value) : OwnFrom C (fun s W => Boxed W B t (f s)) := Own.from (boxed_own B t f) C
/-- A block of cells, whatever it holds, is the caller's own. -/
theorem ownCells {β : Type} (C B : Nat) (f : β → Array Value) (t : TypeId) : OwnFrom C (fun s W => W.heap[B]? = some (.cells (f s) t (0, 0))) := fun s X Y row hs hg hr => by
  refine (hg.block B (Array.getElem?_eq_some_iff.1 hs).1 (fun e => ?_)).trans hs
  obtain ⟨_, o, ho, hc⟩ := hr B e.symm
  rw [hs] at ho; cases ho; cases hc
theorem cell_of_cells {W : World} {B : Nat} {c : Array Value} {t : TypeId} {fz : Nat × Nat} (h : W.heap[B]? = some (.cells c t fz)) (i : Nat) : W.cell? ⟨B, i, none⟩ = c[i]? := by simp [World.cell?, h]
theorem frozen_of_cells {W : World} {B : Nat} {c : Array Value} {t : TypeId} (h : W.heap[B]? = some (.cells c t (0, 0))) (i : Nat) : W.frozen? ⟨B, i, none⟩ = false := by simp [World.frozen?, h]
/-- What a round's boxed loop variable leaves: its box, in slot s. -/
def BoxAx {α : Type} (N : Nat) (t : TypeId) (cs : α → Array Value) (T : α → Array Value) (s : Nat) (x : α) (a' : Act) (W : World) : Prop :=
  ∃ Bx, N ≤ Bx ∧ W.heap[Bx]? = some (.cells (cs x) t (0, 0)) ∧ a' = { tmps := (T x).setIfInBounds s (.pointer (some ⟨Bx, 0, none⟩)), defers := [] }
theorem boxAx_own {α : Type} {N C : Nat} {t : TypeId} {cs : α → Array Value} {T : α → Array Value} {s : Nat} (x : α) (a' : Act) : OwnFrom C (fun (_ : Unit) W => BoxAx N t cs T s x a' W) := fun u X Y row hs hg hr => by
  obtain ⟨Bx, h1, h2, h3⟩ := hs
  exact ⟨Bx, h1, ownCells C Bx (fun _ => cs x) t u X Y row h2 hg hr, h3⟩
theorem ownFrom_size {β : Type} (C n : Nat) : OwnFrom C (fun (_ : β) W => n ≤ W.heap.size) := fun _ _ _ _ hs hg _ => Nat.le_trans hs hg.size
/-- wp_range, where the loop variable lies in a box of its own: slot s, type t. -/
theorem wp_range_box {α : Type} {P : Program} {g : Operand} {ps : Array Tmp} {assign body : Code} {Q : Exit → Act → World → Prop} {a : Act} {w : World} (t : TypeId) (cs : α → Array Value) (s : Nat)
    {gf : Nat} {lb : Array Value} (hg : a.eval g = .func (.func gf) #[] lb) (eg : ∀ args w, (callFunc gf args).run P w = .ok (.enter gf args) w)
    {encs : α → Array Value} {n₀ : Nat} {xs : List α} {N : Nat} {w0 : World} (hseq : SeqStopsK Fence.wide 8 P gf lb encs (Below n₀) (fun ys => ys = xs) (fun pre => pre <+: xs) N w0)
    (hn₀ : n₀ ≤ w.heap.size) (hb0 : Below w0.heap.size w0 w) (hps : ∀ x, (encs x).size = ps.size)
    (I : List α → World → Prop) (Ix : Code → List α → World → Prop) (hI : OwnFrom w.heap.size I) (hIx : ∀ c, OwnFrom w.heap.size (Ix c)) (h0 : I [] w)
    (hassign : ∀ (l : Nat) (pre : List α) (x : α) (W : World) (K : Act → World → Prop), I pre W → w.heap.size ≤ W.heap.size →
      (I pre (W.alloc (.cells (cs x) t)) → K { tmps := ((ps.zip (encs x)).foldl (fun t (p, v) => t.setIfInBounds p v) a.tmps).setIfInBounds s (.pointer (some ⟨W.heap.size, 0, none⟩)), defers := [] } (W.alloc (.cells (cs x) t))) →
      assign.wpIn (Fence.wide.inRound l) 7 P (Exit.then K (fun _ _ _ => False)) { tmps := (ps.zip (encs x)).foldl (fun t (p, v) => t.setIfInBounds p v) a.tmps, defers := [] } W)
    (hbody : ∀ (l : Nat) (pre : List α) (x : α) (W : World) (Bx : Nat), I pre W → w.heap.size ≤ Bx → Bx < W.heap.size → W.heap[Bx]? = some (.cells (cs x) t (0, 0)) → pre.length < N →
      body.wpIn (Fence.wide.inRound l) 7 P (ownPostG w.heap.size (Below n₀) I Ix (pre ++ [x]) W) { tmps := ((ps.zip (encs x)).foldl (fun t (p, v) => t.setIfInBounds p v) a.tmps).setIfInBounds s (.pointer (some ⟨Bx, 0, none⟩)), defers := [] } W)
    (hdone : ∀ (D : Nat) (W : World), w.heap.size ≤ D → I xs W → W.heap[D]? = some (.deferred (some [])) → Q .normal { a with defers := { target := .collected D, args := #[] } :: a.defers } W)
    (hstop : ∀ (D : Nat) (c : Code) (pre : List α) (W : World), w.heap.size ≤ D → pre <+: xs → Ix c pre W → W.heap[D]? = some (.deferred (some [])) → c.wp P Q { a with defers := { target := .collected D, args := #[] } :: a.defers } W) :
    (Code.rangeFunc g ps assign body).wp P Q a w :=
  wp_range hg eg hseq hn₀ hb0 hps (fun pre W => I pre W ∧ w.heap.size ≤ W.heap.size) Ix (hI.and (ownFrom_size _ _)) hIx ⟨h0, Nat.le_refl _⟩
    (BoxAx w.heap.size t cs (fun x => (ps.zip (encs x)).foldl (fun t (p, v) => t.setIfInBounds p v) a.tmps) s) boxAx_own
    (fun l pre x W K hi hK => hassign l pre x W K hi.1 hi.2 (fun hi' => hK _ _ ((KeepsOthers.alloc _ _).from _) ((Below.refl _ W).alloc (Nat.le_trans hn₀ hi.2) _) ⟨hi', by simp; omega⟩ ⟨W.heap.size, hi.2, World.alloc_heap_new _ _, rfl⟩))
    (fun l pre x a' W hi hax hlt => by
      obtain ⟨Bx, h1, h2, rfl⟩ := hax
      refine wpIn_mono (hbody l pre x W Bx hi.1 h1 (Array.getElem?_eq_some_iff.1 h2).1 h2 hlt) ?_
      rintro e a3 W3 hp
      cases e with
      | normal => exact ⟨hp.1, hp.2.1, hp.2.2, Nat.le_trans hi.2 hp.1.size⟩
      | _ => exact hp)
    (fun D W hD hi hK => hdone D W hD hi.1 hK) hstop

/-- 'append(v, x)' of one element to a slice of the call's own: what it gives, as an equation that the walk takes. -/
theorem append_one (P : Program) {t e : TypeId} {z : Value} {size bytes : Nat} (ty : TypeId) (ht : P.underlying t = some (.slice e)) (hinfo : (P.info? e).map (fun i => (i.zero, i.size, i.bytes)) = some (some z, size, bytes)) (hzs : z.cells.size = size) (hsz : 0 < size)
    {W w0 : World} {B base : Nat} {v : Value} {n : Nat} {xs : List Value} (hown : W.ownsRow base e size v n xs) (hB : Below B w0 W) (hBb : B ≤ base) (hbase : base ≤ W.heap.size) (news : List Value) (hl : news.length = size) (h1 : ∀ u ∈ news, u.oneCell' = true)
    (hn : n < 4294967281) (hby : bytes ≤ 4096) :
    ∃ g cap w1, (Builtin.append_ #[t, t] ty #[v, .slice (some ⟨W.heap.size, 0, none⟩) 1 1]).run P (W.alloc (.cells news.toArray e)) = .ok (.slice (some ⟨g, 0, none⟩) (n + 1) cap) w1 ∧
      w1.ownsRow base e size (.slice (some ⟨g, 0, none⟩) (n + 1) cap) (n + 1) (xs ++ news) ∧ Below B w0 w1 ∧ W.heap.size < w1.heap.size ∧ (∀ k, k < base → w1.heap[k]? = W.heap[k]?) ∧ (∀ k, k < W.heap.size → some k ≠ v.ownBlock → w1.heap[k]? = W.heap[k]?) := by
  obtain ⟨i0, hi, hz0, hz1, hz2⟩ := info_parts hinfo
  have hcell : ∀ j u, news[j]? = some u → (W.alloc (.cells news.toArray e)).cell? ((⟨W.heap.size, 0, none⟩ : Addr).add j) = some u := fun j u hj => by
    have := cell_of_cells (World.alloc_heap_new W (.cells news.toArray e)) j
    have ea : (⟨W.heap.size, 0, none⟩ : Addr).add j = ⟨W.heap.size, j, none⟩ := by unfold Addr.add; split <;> simp_all
    rw [ea, this]
    simpa using hj
  obtain ⟨v', w1, hr, h2, h3, h4⟩ := run_append_own (P := P) (W.alloc (.cells news.toArray e)) base t ty e i0 z size bytes ht hi hz0 hz1 hz2 hzs hsz v n xs (hown.alloc _) ⟨W.heap.size, 0, none⟩ 1 1 news (by omega) hcell h1 (by unfold maxLen; omega) (by have := Nat.mul_le_mul (show n + 1 ≤ 4294967281 by omega) hby; omega) (by simp; omega)
  obtain ⟨g, cap, rfl⟩ := ownsRow_succ h2
  have hlt : ∀ k, v.ownBlock = some k → base ≤ k := fun k hk => (hown.lt k hk).1
  refine ⟨g, cap, w1, hr, h2, (hB.alloc (by omega) _).grown h3 (by simp; omega) (fun k hk => Nat.le_trans hBb (hlt k hk)), by have := h3.size; simp at this; omega, fun k hk => ?_, fun k hk hne => ?_⟩
  · exact (h3.block k (by simp; omega) (fun e => by have := hlt k e.symm; omega)).trans (Below.heap_alloc _ _ _ (by omega))
  · exact (h3.block k (by simp; omega) hne).trans (Below.heap_alloc _ _ _ hk)
theorem slAt_of_owns {w : World} {base e size n : Nat} {v : Value} {xs : List Value} (h : w.ownsRow base e size v n xs) : SlAt w.heap.size w v n xs := by
  rcases h.2 with ⟨rfl, rfl⟩ | ⟨g, cap, cur, rfl, hg, hh, hnc, hcm, hcs, ht⟩
  · exact .inl ⟨rfl, rfl, List.eq_nil_of_length_eq_zero (by simpa using h.1)⟩
  · refine .inr ⟨g, 0, cap, rfl, (Array.getElem?_eq_some_iff.1 hh).1, fun i hi => ?_⟩
    rw [Nat.zero_add, cell_of_cells hh i, ← ht, List.getElem?_take_of_lt (by have := h.1; omega)]
    simp

theorem box1 (w : World) (v0 : Value) (t0 : TypeId) : ∃ W, w.alloc (.cells #[v0] t0) = W ∧ Boxed W w.heap.size t0 v0 ∧ Below w.heap.size w W ∧ W.heap.size = w.heap.size + 1 :=
  ⟨_, rfl, Boxed.new w t0 v0, (Below.refl _ w).alloc (Nat.le_refl _) _, by simp⟩
theorem box2 (w : World) (v0 : Value) (t0 : TypeId) (v1 : Value) (t1 : TypeId) : ∃ W, (w.alloc (.cells #[v0] t0)).alloc (.cells #[v1] t1) = W ∧ Boxed W w.heap.size t0 v0 ∧ Boxed W (w.heap.size + 1) t1 v1 ∧ Below w.heap.size w W ∧ W.heap.size = w.heap.size + 2 := by
  obtain ⟨X, rfl, b0, hB, hs⟩ := box1 w v0 t0
  have b1 := Boxed.new (w.alloc (.cells #[v0] t0)) t1 v1
  rw [hs] at b1
  exact ⟨_, rfl, b0.alloc _, b1, hB.alloc hB.size _, by simp⟩
theorem box3 (w : World) (v0 : Value) (t0 : TypeId) (v1 : Value) (t1 : TypeId) (v2 : Value) (t2 : TypeId) : ∃ W, ((w.alloc (.cells #[v0] t0)).alloc (.cells #[v1] t1)).alloc (.cells #[v2] t2) = W ∧ Boxed W w.heap.size t0 v0 ∧ Boxed W (w.heap.size + 1) t1 v1 ∧ Boxed W (w.heap.size + 2) t2 v2 ∧ Below w.heap.size w W ∧ W.heap.size = w.heap.size + 3 := by
  obtain ⟨X, rfl, b0, b1, hB, hs⟩ := box2 w v0 t0 v1 t1
  have b2 := Boxed.new ((w.alloc (.cells #[v0] t0)).alloc (.cells #[v1] t1)) t2 v2
  rw [hs] at b2
  exact ⟨_, rfl, b0.alloc _, b1.alloc _, b2, hB.alloc hB.size _, by simp⟩
theorem box4 (w : World) (v0 : Value) (t0 : TypeId) (v1 : Value) (t1 : TypeId) (v2 : Value) (t2 : TypeId) (v3 : Value) (t3 : TypeId) : ∃ W, (((w.alloc (.cells #[v0] t0)).alloc (.cells #[v1] t1)).alloc (.cells #[v2] t2)).alloc (.cells #[v3] t3) = W ∧ Boxed W w.heap.size t0 v0 ∧ Boxed W (w.heap.size + 1) t1 v1 ∧ Boxed W (w.heap.size + 2) t2 v2 ∧ Boxed W (w.heap.size + 3) t3 v3 ∧ Below w.heap.size w W ∧ W.heap.size = w.heap.size + 4 := by
  obtain ⟨X, rfl, b0, b1, b2, hB, hs⟩ := box3 w v0 t0 v1 t1 v2 t2
  have b3 := Boxed.new (((w.alloc (.cells #[v0] t0)).alloc (.cells #[v1] t1)).alloc (.cells #[v2] t2)) t3 v3
  rw [hs] at b3
  exact ⟨_, rfl, b0.alloc _, b1.alloc _, b2.alloc _, b3, hB.alloc hB.size _, by simp⟩

theorem bxPut {W : World} {B D : Nat} {t : TypeId} {v : Value} (h : Boxed W B t v) {o : Obj} (hK : W.heap[D]? = some o) (ho : o.isCells = false) (o' : Obj) : Boxed (W.putObj D o') B t v :=
  h.kept (grownBy_putObj' W D o') (fun e => by cases e; have := (show W.heap[B]? = _ from h).symm.trans hK; cases this; cases ho)
theorem dfSet {W : World} {D : Nat} (hK : W.heap[D]? = some (.deferred (some []))) (a : Addr) (v : Value) : (W.setCell a v).heap[D]? = some (.deferred (some [])) := (KeepsOthers.setCell W a v).same D _ hK rfl

/-- What is owned from base on stays owned where only a block below base has changed. -/
theorem owns_of_blocks {w w' : World} {base e size n : Nat} {v : Value} {xs : List Value} (h : w.ownsRow base e size v n xs) (hs : ∀ j, base ≤ j → j < w.heap.size → w'.heap[j]? = w.heap[j]?) : w'.ownsRow base e size v n xs := by
  refine ⟨h.1, ?_⟩
  rcases h.2 with h2 | ⟨g, cap, cur, hv, hg, hh, r⟩
  · exact .inl h2
  · exact .inr ⟨g, cap, cur, hv, hg, (hs g hg (Array.getElem?_eq_some_iff.1 hh).1).trans hh, r⟩

/-- A builtin append (or any builtin of two operands) whose run is known: at the operation, plainly and in a round. -/
theorem wp_append_eq {P : Program} {w : World} {ops : Array Oper} {rest : List Oper} {o : Oper} {a : Act} {Q : Exit → Act → World → Prop} (hgd : o.guard = none) (s x : Operand) (t : TypeId)
    (ho : o.op = .call { callee := .builtin .append, args := #[s, x], argTypes := #[t, t] }) {v xv v' : Value} {w' : World} (hs : a.eval s = v) (hx : a.eval x = xv)
    (hr : (Builtin.append_ #[t, t] o.type #[v, xv]).run P w = .ok v' w') (h : wpList P ops Q rest (a.put o.dst v') w') : wpList P ops Q (o :: rest) a w := by
  refine wpList_plain hgd fun _ hK => ?_
  unfold Oper.wp execOp
  simp only [ho, resolve, invoke, builtin, Sem.run_bind, Sem.run_pure, Result.andThen_ok, List.map_toArray, List.map_cons, List.map_nil, hs, hx, hr]
  exact hK _ _ h
theorem wpIn_append_eq {F : Fence} {n : Nat} {P : Program} {w : World} {ops : Array Oper} {rest : List Oper} {o : Oper} {a : Act} {Q : Exit → Act → World → Prop} (hgd : o.guard = none) (s x : Operand) (t : TypeId)
    (hop : o.op = .call { callee := .builtin .append, args := #[s, x], argTypes := #[t, t] }) {v xv v' : Value} {w' : World} (hs : a.eval s = v) (hx : a.eval x = xv)
    (hr : (Builtin.append_ #[t, t] o.type #[v, xv]).run P w = .ok v' w') (h : wpListIn F n P ops Q rest (a.put o.dst v') w') : wpListIn F n P ops Q (o :: rest) a w := by
  refine wpListIn_plain hgd fun K hK' => ?_
  unfold Oper.wpIn
  refine ⟨?_, ?_⟩
  · simp [Oper.about, hop, resolve, Target.leads, Sem.run_pure]
  · rw [Oper.semAt_plain F _ _ (by rw [hop]; intro c hc'; cases hc')]
    simp [execOp, hop, resolve, invoke, builtin, hs, hx, hr, Result.andThen]
    exact hK' _ _ h
end Go.Proofs.YtjpnbkdhmjgdgaaDoor

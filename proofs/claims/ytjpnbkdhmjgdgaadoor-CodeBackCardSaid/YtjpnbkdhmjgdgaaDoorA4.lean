/- Appends of many cells, makes: as run equations. -/
import Derived.Test.YtjpnbkdhmjgdgaaDoorA3
import Derived.Deep.RegionLaw
import Derived.BigQuiet
import Derived.BigRegion
namespace Go.Proofs.YtjpnbkdhmjgdgaaDoor
open Go Go.RowKit

/-- 'append(v, s...)' to a slice of the call's own, from whatever slice. -/
theorem append_list (P : Program) {t e : TypeId} {z : Value} {size bytes : Nat} (ty : TypeId) (ht : P.underlying t = some (.slice e)) (hinfo : (P.info? e).map (fun i => (i.zero, i.size, i.bytes)) = some (some z, size, bytes)) (hzs : z.cells.size = size) (hsz : 0 < size)
    {W w0 : World} {B base : Nat} {v sv : Value} {n m : Nat} {xs cs : List Value} (hown : W.ownsRow base e size v n xs) (hB : Below B w0 W) (hBb : B ≤ base) (hbase : base ≤ W.heap.size) (hsrc : SlAt W.heap.size W sv m cs) (hl : cs.length = m * size) (h1 : ∀ u ∈ cs, u.oneCell' = true)
    (hn : n < 2147483648) (hm : m < 2147483648) (hby : bytes ≤ 4096) :
    ∃ v' w1, (Builtin.append_ #[t, t] ty #[v, sv]).run P W = .ok v' w1 ∧ w1.ownsRow base e size v' (n + m) (xs ++ cs) ∧ Below B w0 w1 ∧ W.heap.size ≤ w1.heap.size ∧ (∀ k, k < base → w1.heap[k]? = W.heap[k]?) ∧ (∀ k, k < W.heap.size → some k ≠ v.ownBlock → w1.heap[k]? = W.heap[k]?) := by
  obtain ⟨i0, hi, hz0, hz1, hz2⟩ := info_parts hinfo
  rcases hsrc with ⟨rfl, rfl, rfl⟩ | ⟨b, off, cap, rfl, hb, hc⟩
  · refine ⟨v, W, ?_, by simpa using hown, hB, Nat.le_refl _, fun _ _ => rfl, fun _ _ _ => rfl⟩
    obtain ⟨a, c, rfl⟩ : ∃ a c, v = .slice a n c := by
      rcases hown.2 with ⟨rfl, rfl⟩ | ⟨g, cap, cur, rfl, _⟩
      · exact ⟨none, 0, rfl⟩
      · exact ⟨_, cap, rfl⟩
    rcases hown.2 with ⟨he, hn0⟩ | ⟨g, cap, cur, he, hg, hgg, hnc, _⟩
    · obtain ⟨rfl, _, rfl⟩ : a = none ∧ n = 0 ∧ c = 0 := by simpa using he
      subst hn0
      simp [Builtin.append_, run_underlying ht, sizeOf, typeInfo, hi, Builtin.lenOf, Builtin.firstCells]
    · obtain ⟨rfl, rfl⟩ : a = some ⟨g, 0, none⟩ ∧ c = cap := by simpa using he
      simp [Builtin.append_, run_underlying ht, sizeOf, typeInfo, hi, Builtin.lenOf, Builtin.firstCells, hnc, storeCells]
  · have hcell : ∀ j u, cs[j]? = some u → W.cell? ((⟨b, off, none⟩ : Addr).add j) = some u := fun j u hj => by
      have ea : (⟨b, off, none⟩ : Addr).add j = ⟨b, off + j, none⟩ := by unfold Addr.add; split <;> simp_all
      rw [ea, hc j (List.getElem?_eq_some_iff.1 hj).1, hj]
    have hbig := Nat.mul_le_mul (show n + m ≤ 4294967296 by omega) hby
    obtain ⟨v', w1, hr, h2, h3, h4⟩ := run_append_own (P := P) W base t ty e i0 z size bytes ht hi hz0 hz1 hz2 hzs hsz v n xs hown ⟨b, off, none⟩ m cap cs hl hcell h1 (by unfold maxLen; omega) (by omega) hbase
    have hlt : ∀ k, v.ownBlock = some k → base ≤ k := fun k hk => (hown.lt k hk).1
    exact ⟨v', w1, hr, h2, hB.grown h3 (by omega) (fun k hk => Nat.le_trans hBb (hlt k hk)), h3.size, fun k hk => h3.block k (by omega) (fun e => by have := hlt k e.symm; omega), fun k hk hne => h3.block k hk hne⟩
/-- append as one step of a region that draws its order, its run known. -/
theorem step_append_eq {P : Program} {ops : Array Oper} {o : Oper} {a : Act} {w : World} {K : Act → World → Prop} {Q : Exit → Act → World → Prop} {E : Prop}
    (hg : o.guard = none) (s x : Operand) (t : TypeId) (hop : o.op = Op.call { callee := Callee.builtin Builtin.append, args := #[s, x], argTypes := #[t, t] })
    {v xv v' : Value} {w' : World} (hs : a.eval s = v) (hx : a.eval x = xv) (hr : (Builtin.append_ #[t, t] o.type #[v, xv]).run P w = .ok v' w') (hK : K (a.put o.dst v') w') :
    if Region.wanted o (yielded ops a.tmps) = true then Oper.wp P o a w K Q else E := by
  have hw : Region.wanted o (yielded ops a.tmps) = true := by simp [Region.wanted, hg]
  rw [if_pos hw]
  unfold Oper.wp
  simp [execOp, hop, resolve, invoke, builtin, hs, hx, hr, Result.andThen]
  exact hK

theorem heap_set_known {W : World} {B i : Nat} {c : Array Value} {t : TypeId} {fz : Nat × Nat} (h : W.heap[B]? = some (.cells c t fz)) (v : Value) : (W.setCell ⟨B, i, none⟩ v).heap[B]? = some (.cells (c.setIfInBounds i v) t fz) := by
  obtain ⟨hlt, hk⟩ := Array.getElem?_eq_some_iff.1 h
  show (W.heap.modify B _)[B]? = _
  rw [Array.getElem?_eq_getElem (by rw [Array.size_modify]; exact hlt), Array.getElem_modify_self, hk]
  rfl
theorem set_cells2 {W : World} {B : Nat} {x y u v : Value} {t : TypeId} (h : W.heap[B]? = some (.cells #[x, y] t (0, 0))) : ((W.setCell ⟨B, 0, none⟩ u).setCell ⟨B, 1, none⟩ v).heap[B]? = some (.cells #[u, v] t (0, 0)) := heap_set_known (heap_set_known h u) v

theorem SlAt.drew {n m : Nat} {w : World} {sv : Value} {cs : List Value} (h : SlAt n w sv m cs) : SlAt n w.drew sv m cs := h
/-- A slice that is cut at its beginning, its end: cells of it. -/
theorem cell_setCells_in {W : World} {b o : Nat} {vs : List Value} (hc : ∀ j, j < vs.length → (W.cell? ⟨b, o + j, none⟩).isSome = true) (j : Nat) (hj : j < vs.length) : (W.setCells b o vs).cell? ⟨b, o + j, none⟩ = vs[j]? := by
  rw [World.cell?_setCells_in b vs o W hc j hj]; simp [hj]
theorem below_setCells {B : Nat} {w0 W : World} (h : Below B w0 W) {b : Nat} (hb : B ≤ b) : ∀ (vs : List Value) (o : Nat), Below B w0 (W.setCells b o vs) := by
  intro vs
  induction vs generalizing W with
  | nil => intro o; exact h
  | cons v r ih => intro o; exact ih (h.setCell (p := ⟨b, o, none⟩) hb v) (o + 1)
theorem size_setCells (b : Nat) : ∀ (vs : List Value) (o : Nat) (W : World), (W.setCells b o vs).heap.size = W.heap.size
  | [], _, _ => rfl
  | v :: r, o, W => by show ((W.setCell ⟨b, o, none⟩ v).setCells b (o + 1) r).heap.size = _; rw [size_setCells b r]; simp [World.setCell]
end Go.Proofs.YtjpnbkdhmjgdgaaDoor

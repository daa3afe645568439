/- Rows of laws: what a call that answers true and changes nothing leaves; arguments opened to the walks' words. Of no program. -/
import Derived.Test.YtjpnbkdhmjgdgaaDoorA3
import Derived.ProofKit
import Derived.OpenShut
import Derived.Carry
import Derived.Deep.Slices
import Derived.Deep.Fields
import Derived.Deep.DeepHandedRow
import Derived.Lib.SmallJoins
namespace Go.Proofs.YtjpnbkdhmjgdgaaDoor
open Go Go.RowKit Go.ChangeShapes Go.WideShapes Go.Deep

section
variable {H : Type} {enc : TypeId × Value → H} {P : Program}

/-- The arguments read behind the call as they read before, whatever new memory was made. -/
theorem trodAll_stays (hl : laidOutB P = true) {W W' : World} {sp : Nat → Bool} (hb : Below W.heap.size W W') : ∀ (ts : List TypeId) (vs : List Value) (ds : List (DataW H)) (ps : List MemPlace),
    (∀ t ∈ ts, P.readableRec t = true ∧ t < P.types.size) → (∀ p ∈ ps, p.block < W.heap.size ∧ sp p.block = true) →
    DataW.TrodAll enc P W 0 (fun _ => true) true ts vs ds ps → DataW.TrodAll enc P W' 0 sp true ts vs ds ps := by
  intro ts
  induction ts with
  | nil => intro vs ds ps _ _ h; obtain ⟨h1, rfl, rfl⟩ := trodAll_nil h; rw [h1]; exact trodAll_mk0
  | cons t ts ih =>
    intro vs ds ps hr hp h
    obtain ⟨v, vs', d, ds', p, q, rfl, rfl, rfl, h0, hs⟩ := trodAll_cons h
    have ht := hr t List.mem_cons_self
    refine trodAll_cons_mk (WideElems.Trod_stays hl ht.1 ht.2 h0 (fun x hx => hb.same (hp x (List.mem_append_left _ hx)).1) (fun x hx => (hp x (List.mem_append_left _ hx)).2)) ?_
    exact ih vs' ds' q (fun t ht => hr t (List.mem_cons_of_mem _ ht)) (fun x hx => hp x (List.mem_append_right _ hx)) hs

/-- The post of a law: it answered true, below the heap's old size nothing has changed. -/
theorem law_post {f : Func} {s : ChangeSpec} {W W' : World} {args : Array Value} {ds gs : List (DataW H)} {before : List MemPlace} {tb : TypeId} (hl : laidOutB P = true)
    (hr : ∀ t ∈ f.params.toList, P.readableRec t = true ∧ t < P.types.size) (hv : s.vars = []) (hW : DataW.Whole enc P f.params.toList s.vars false W args.toList ds gs before)
    (hs : s.fn H (ds ++ gs) = { results := [.lit (.bool true)], args := ds }) (hres : f.resultTypes = #[tb]) (hb : P.underlying tb = some .bool) (hB : Below W.heap.size W W') :
    s.post enc P f false true false false W args (.bool true) W' := by
  have hlt : ∀ p ∈ before, p.block < W.heap.size := fun p hp => hW.lt p hp
  have hW2 := hW
  obtain ⟨p, q, hA, hV, rfl, _, _⟩ := hW2
  rw [hv] at hV
  obtain ⟨rfl, rfl⟩ := trodVars_none hV
  rw [List.append_nil] at hlt hW
  refine ⟨ds, [], p, [], p, [], hW, ?_, ?_, ?_, World.keptBut_mono (fun x hx => ⟨hx, Or.inr (Or.inl hx)⟩) (hB.frame (· ∈ p)), fun h => by cases h⟩
  · rw [hs, hres]
    exact trodAll_cons_mk (shut_bool hb _) trodAll_mk0
  · rw [hs]
    exact trodAll_stays hl hB _ _ _ _ hr (fun x hx => ⟨hlt x hx, by simpa using hlt x hx⟩) hA
  · rw [hs, hv]
    exact hV

variable {w : World} {base : Nat} {spare : Nat → Bool} {held : Bool}

/-- The cells of a struct of one-cell fields. -/
theorem struct_cells {e : TypeId} {fs : Array Field} {fuel : Nat} {cs : List Value} {x : DataW H × List MemPlace} (he : P.underlying e = some (.struct fs)) (hone : oneCellFields P fs = true) (hC : P.cellsOf e = fs.size)
    (h : DataW.trod enc P w base spare held fuel e cs = some x) : cs.length = fs.size ∧ ∃ n, ∀ (j : Nat) (f : Field), fs[j]? = some f → ∃ v y, cs[j]? = some v ∧ DataW.trod enc P w base spare held n f.type [v] = some y := by
  obtain ⟨xs, n, _, _, hlen, hxl, hf⟩ := DataW.trod_struct he h
  rw [hC] at hlen
  refine ⟨hlen, n, fun j f hj => ?_⟩
  obtain ⟨ho, hk⟩ := hone_of hone j f hj
  have hjl : j < fs.size := (Array.getElem?_eq_some_iff.1 hj).1
  have h1 := hf j f hj
  rw [ho, hk, List.drop_eq_getElem_cons (by omega), List.getElem?_eq_getElem (by omega)] at h1
  exact ⟨_, _, List.getElem?_eq_getElem (by omega), h1⟩
theorem slice_has {r : Reach} {b0 : Nat} {t e : TypeId} {a : Addr} {len cap : Nat} (ht : P.underlying t = some (.slice e)) (h : Cell.okWide P w r b0 t (.slice (some a) len cap)) : a.spot = none ∧ a.block < w.heap.size := by
  simp only [Cell.okWide, ht, Cell.ok] at h
  obtain ⟨_, _, _, h1, row, cells, h2, _⟩ := h
  refine ⟨h1, ?_⟩
  unfold World.shape? at h2
  cases hx : w.heap[a.block]? with
  | none => simp [hx] at h2
  | some o => exact (Array.getElem?_eq_some_iff.1 hx).1
theorem add_none {a : Addr} (h : a.spot = none) (n : Nat) : a.add n = ⟨a.block, a.off + n, none⟩ := by
  obtain ⟨b, o, s⟩ := a
  dsimp only at h
  subst h
  unfold Addr.add
  split
  · simp_all
  · rfl
/-- A slice whose elements take k cells each, opened to the walks' word. -/
theorem slAt_of_trod {α : Type} {t e : TypeId} {k : Nat} {encA : α → List Value} (hlen : ∀ x, (encA x).length = k) (ht : P.underlying t = some (.slice e)) (hc : P.cellsOf e = k)
    (hel : ∀ n cs x, DataW.trod enc P w base spare held n e cs = some x → ∃ y, cs = encA y) {fuel : Nat} {a : Option Addr} {len cap : Nat} {x : DataW H × List MemPlace}
    (hok : ∀ a', a = some a' → a'.spot = none ∧ a'.block < w.heap.size) (h : DataW.trod enc P w base spare held fuel t [.slice a len cap] = some x) :
    ∃ l : List α, SlAt w.heap.size w (.slice a len cap) l.length (l.flatMap encA) := by
  rcases open_slice ht h with ⟨h0, _⟩ | ⟨a', len', cap', m, n, D, Pl, hcs, -, hl, -, hm, -, hi⟩
  · simp only [List.cons.injEq, and_true] at h0
    exact ⟨[], .inl ⟨h0, rfl, rfl⟩⟩
  · simp only [List.cons.injEq, and_true, Value.slice.injEq] at hcs
    obtain ⟨rfl, rfl, rfl⟩ := hcs
    obtain ⟨hs, hb⟩ := hok a' rfl
    have hlm : len ≤ m := by rw [hm]; split <;> omega
    have hall : ∀ i, i < len → ∃ y, ∀ j, j < k → w.cell? ⟨a'.block, a'.off + i * k + j, none⟩ = (encA y)[j]? := fun i hil => by
      obtain ⟨cs', h1, h2⟩ := hi i (by omega)
      obtain ⟨y, rfl⟩ := hel _ _ _ h2
      rw [hc] at h1
      obtain ⟨_, _, hat⟩ := World.cells?_some h1
      refine ⟨y, fun j hj => ?_⟩
      have := hat j hj
      rw [add_none hs, add_none rfl] at this
      exact this
    have hex : ∃ l : List α, l.length = len ∧ ∀ i y, l[i]? = some y → ∀ j, j < k → w.cell? ⟨a'.block, a'.off + i * k + j, none⟩ = (encA y)[j]? := by
      clear hi hm hlm hl h
      induction len with
      | zero => exact ⟨[], rfl, fun i y h => by simp at h⟩
      | succ n ih =>
        obtain ⟨l, h1, h2⟩ := ih (fun i hi => hall i (by omega))
        obtain ⟨y, hy⟩ := hall n (by omega)
        refine ⟨l ++ [y], by simp [h1], fun i z hz j hj => ?_⟩
        by_cases hil : i < l.length
        · rw [List.getElem?_append_left hil] at hz
          exact h2 i z hz j hj
        · have hi2 := (List.getElem?_eq_some_iff.1 hz).1
          have : i = n := by simp at hi2; omega
          subst this
          rw [List.getElem?_append_right (by omega), h1] at hz
          simp at hz
          subst hz
          exact hy j hj
    obtain ⟨l, hll, hcell⟩ := hex
    refine ⟨l, .inr ⟨a'.block, a'.off, cap, by rw [hll]; congr 2; cases a'; simp_all, hb, fun i hil => ?_⟩⟩
    rw [flat_len encA k hlen] at hil
    have hk : 0 < k := by
      rcases Nat.eq_zero_or_pos k with h0 | h0
      · subst h0; simp at hil
      · exact h0
    have hdm := Nat.div_add_mod i k
    have hq : i / k < l.length := Nat.div_lt_of_lt_mul (by rw [Nat.mul_comm]; exact hil)
    have hr : i % k < k := Nat.mod_lt _ hk
    obtain ⟨y, hy⟩ : ∃ y, l[i / k]? = some y := ⟨_, List.getElem?_eq_getElem hq⟩
    have h1 := hcell _ y hy _ hr
    have h2 := flat_cell encA k hlen l (i / k) (i % k) y hy hr
    have e1 : i / k * k + i % k = i := by rw [Nat.mul_comm]; exact hdm
    rw [Nat.add_assoc, e1] at h1
    rw [e1] at h2
    rw [h1, h2]
/-- What is known of each cell of a struct that came by value. -/
theorem agg_cells {r : Reach} {b0 : Nat} {t : TypeId} {fs : Array Field} {cs : Array Value} (ht : P.underlying t = some (.struct fs)) (h : Value.okWide P w r b0 t (.agg cs)) :
    ∃ ts, P.cellTypes P.depth t = some ts ∧ ∀ i v, cs[i]? = some v → ∃ u, ts[i % ts.length]? = some u ∧ Cell.okWide P w r b0 u v := by
  simp only [Value.okWide, ht] at h
  obtain ⟨cs', h1, _, ts, h2, _, h3⟩ := h
  cases h1
  exact ⟨ts, h2, h3⟩
end
end Go.Proofs.YtjpnbkdhmjgdgaaDoor

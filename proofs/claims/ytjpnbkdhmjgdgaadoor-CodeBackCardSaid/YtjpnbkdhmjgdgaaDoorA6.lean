/- Slices by their elements: whatever address an empty one has. Of no program. -/
import Derived.Test.YtjpnbkdhmjgdgaaDoorR0
import Derived.Test.YtjpnbkdhmjgdgaaDoorA5
namespace Go.Proofs.YtjpnbkdhmjgdgaaDoor
open Go Go.RowKit Go.ChangeShapes Go.WideShapes Go.Deep

def U64 (n : Int) : Prop := 0 ≤ n ∧ n ≤ 18446744073709551615

/-- A slice of len elements, k cells each, that hold l; nothing is said of where an empty one lies. -/
def SlE {α : Type} (enc : α → List Value) (k : Nat) (n₀ : Nat) (w : World) (a : Option Addr) (len : Nat) (l : List α) : Prop :=
  len = l.length ∧ ∀ j x, l[j]? = some x → ∃ b off, a = some ⟨b, off, none⟩ ∧ b < n₀ ∧ ∀ i, i < k → w.cell? ⟨b, off + j * k + i, none⟩ = (enc x)[i]?
section
variable {α : Type} {enc : α → List Value} {k n₀ n₁ : Nat} {w A B : World} {a : Option Addr} {len cap : Nat} {l : List α}
theorem SlE.below (h : Below n₀ A B) (hs : SlE enc k n₀ A a len l) : SlE enc k n₀ B a len l :=
  ⟨hs.1, fun j x hx => let ⟨b, off, e, hb, hc⟩ := hs.2 j x hx; ⟨b, off, e, hb, fun i hi => (h.cell (p := ⟨b, off + j * k + i, none⟩) hb).trans (hc i hi)⟩⟩
theorem SlE.mono (hn : n₀ ≤ n₁) (hs : SlE enc k n₀ w a len l) : SlE enc k n₁ w a len l :=
  ⟨hs.1, fun j x hx => let ⟨b, off, e, hb, hc⟩ := hs.2 j x hx; ⟨b, off, e, Nat.lt_of_lt_of_le hb hn, hc⟩⟩
theorem SlE.go (hs : SlE enc k A.heap.size A a len l) (h : Below A.heap.size A B) : SlE enc k B.heap.size B a len l := (hs.below h).mono h.size
theorem SlE.of_at (hk : ∀ x, (enc x).length = k) (h : SlAt n₀ w (.slice a len cap) l.length (l.flatMap enc)) : SlE enc k n₀ w a len l := SlAt.elems hk h
theorem SlE.nil : SlE enc k n₀ w a 0 [] := ⟨rfl, fun j x h => by simp at h⟩
theorem SlE.drew (hs : SlE enc k n₀ w a len l) : SlE enc k n₀ w.drew a len l := hs
theorem SlE.take (hs : SlE enc k n₀ w a len l) (m : Nat) (hm : m ≤ len) : SlE enc k n₀ w a m (l.take m) :=
  ⟨by have := hs.1; simp; omega, fun j x hx => hs.2 j x (by rw [List.getElem?_take] at hx; split at hx; exact hx; cases hx)⟩
theorem SlE.drop {b off : Nat} (hs : SlE enc k n₀ w (some ⟨b, off, none⟩) len l) (m : Nat) : SlE enc k n₀ w (some ⟨b, off + m * k, none⟩) (len - m) (l.drop m) :=
  ⟨by have := hs.1; simp; omega, fun j x hx => by
    rw [List.getElem?_drop] at hx
    obtain ⟨b', off', e, hb, hc⟩ := hs.2 (m + j) x hx
    injection e with e1
    injection e1 with e1 e2
    subst e1; subst e2
    refine ⟨b, off + m * k, rfl, hb, fun i hi => ?_⟩
    rw [← hc i hi]
    congr 2
    rw [Nat.add_mul]; omega⟩
/-- One element: where it lies, its cells. -/
theorem SlE.at (hs : SlE enc k n₀ w a len l) {j : Nat} (hj : j < len) : ∃ x b off, l[j]? = some x ∧ a = some ⟨b, off, none⟩ ∧ b < n₀ ∧ ∀ i, i < k → w.cell? ⟨b, off + j * k + i, none⟩ = (enc x)[i]? := by
  have hl := hs.1
  obtain ⟨x, hx⟩ : ∃ x, l[j]? = some x := ⟨_, List.getElem?_eq_getElem (by omega)⟩
  obtain ⟨b, off, e, hb, hc⟩ := hs.2 j x hx
  exact ⟨x, b, off, hx, e, hb, hc⟩
theorem SlE.set_far {p : Addr} (hp : ∀ x, a = some x → p.block ≠ x.block) (v : Value) (hs : SlE enc k n₀ w a len l) : SlE enc k n₀ (w.setCell p v) a len l :=
  ⟨hs.1, fun j x hx => let ⟨b, off, e, hb, hc⟩ := hs.2 j x hx; ⟨b, off, e, hb, fun i hi => by rw [World.cell?_setCell_other (h := fun h => hp _ e (by rw [h]))]; exact hc i hi⟩⟩
end

/-- A slice with its capacity. -/
def SlC {α : Type} (enc : α → List Value) (k : Nat) (n₀ : Nat) (w : World) (a : Option Addr) (len cap : Nat) (l : List α) : Prop :=
  SlE enc k n₀ w a len l ∧ len ≤ cap ∧ cap ≤ maxLen ∧ (a = none → cap = 0) ∧ ∀ x, a = some x → 0 < cap → x.spot = none ∧ x.block < n₀
section
variable {α : Type} {enc : α → List Value} {k n₀ n₁ : Nat} {w A B : World} {a : Option Addr} {len cap : Nat} {l : List α}
theorem SlC.below (h : Below n₀ A B) (hs : SlC enc k n₀ A a len cap l) : SlC enc k n₀ B a len cap l := ⟨hs.1.below h, hs.2⟩
theorem SlC.mono (hn : n₀ ≤ n₁) (hs : SlC enc k n₀ w a len cap l) : SlC enc k n₁ w a len cap l :=
  ⟨hs.1.mono hn, hs.2.1, hs.2.2.1, hs.2.2.2.1, fun x e hc => let ⟨h1, h2⟩ := hs.2.2.2.2 x e hc; ⟨h1, Nat.lt_of_lt_of_le h2 hn⟩⟩
theorem SlC.go (hs : SlC enc k A.heap.size A a len cap l) (h : Below A.heap.size A B) : SlC enc k B.heap.size B a len cap l := (hs.below h).mono h.size
theorem SlC.take (hs : SlC enc k n₀ w a len cap l) (m : Nat) (hm : m ≤ len) : SlC enc k n₀ w a m cap (l.take m) := ⟨hs.1.take m hm, Nat.le_trans hm hs.2.1, hs.2.2⟩
theorem SlC.nil : SlC enc k n₀ w none 0 0 ([] : List α) := ⟨SlE.nil, Nat.le_refl _, Nat.zero_le _, fun _ => rfl, fun x h => by cases h⟩
theorem SlC.set_far {p : Addr} (hp : ∀ x, a = some x → p.block ≠ x.block) (v : Value) (hs : SlC enc k n₀ w a len cap l) : SlC enc k n₀ (w.setCell p v) a len cap l := ⟨hs.1.set_far hp v, hs.2⟩
end

section
variable {α : Type} {enc : α → List Value} {k n₀ : Nat} {w : World} {a : Option Addr} {len cap : Nat} {l : List α}
theorem SlE.to_at (hk : ∀ x, (enc x).length = k) (hpos : 0 < len) (h : SlE enc k n₀ w a len l) : SlAt n₀ w (.slice a len cap) l.length (l.flatMap enc) := by
  obtain ⟨x0, b, off, -, ea, hb, -⟩ := h.at hpos
  refine .inr ⟨b, off, cap, by rw [ea, h.1], hb, fun i hil => ?_⟩
  rw [flat_len enc k hk] at hil
  have hk0 : 0 < k := by
    rcases Nat.eq_zero_or_pos k with h0 | h0
    · subst h0; simp at hil
    · exact h0
  have hdm := Nat.div_add_mod i k
  have hq : i / k < l.length := Nat.div_lt_of_lt_mul (by rw [Nat.mul_comm]; exact hil)
  have hr : i % k < k := Nat.mod_lt _ hk0
  obtain ⟨y, hy⟩ : ∃ y, l[i / k]? = some y := ⟨_, List.getElem?_eq_getElem hq⟩
  obtain ⟨b', off', ea', _, hc⟩ := h.2 _ y hy
  rw [ea] at ea'
  injection ea' with e1
  injection e1 with e1 e2
  subst e1; subst e2
  have h1 := hc _ hr
  have h2 := flat_cell enc k hk l (i / k) (i % k) y hy hr
  have e1 : i / k * k + i % k = i := by rw [Nat.mul_comm]; exact hdm
  rw [Nat.add_assoc, e1] at h1
  rw [e1] at h2
  rw [h1, h2]
end
/-- 'append(v, s...)' to a slice of the call's own, from whatever slice. -/
theorem append_elems (P : Program) {α : Type} {enc : α → List Value} {t e : TypeId} {z : Value} {size bytes : Nat} (ty : TypeId) (ht : P.underlying t = some (.slice e)) (hinfo : (P.info? e).map (fun i => (i.zero, i.size, i.bytes)) = some (some z, size, bytes)) (hzs : z.cells.size = size) (hsz : 0 < size)
    {W w0 : World} {B base : Nat} {v : Value} {a : Option Addr} {n m cap : Nat} {xs : List Value} {l : List α} (hown : W.ownsRow base e size v n xs) (hB : Below B w0 W) (hBb : B ≤ base) (hbase : base ≤ W.heap.size) (hk : ∀ x, (enc x).length = size) (hsrc : SlE enc size W.heap.size W a m l) (h1 : ∀ x, ∀ u ∈ enc x, u.oneCell' = true)
    (hn : n < 2147483648) (hm : m < 2147483648) (hby : bytes ≤ 4096) :
    ∃ v' w1, (Builtin.append_ #[t, t] ty #[v, .slice a m cap]).run P W = .ok v' w1 ∧ w1.ownsRow base e size v' (n + m) (xs ++ l.flatMap enc) ∧ Below B w0 w1 ∧ W.heap.size ≤ w1.heap.size ∧ (∀ k, k < base → w1.heap[k]? = W.heap[k]?) ∧ (∀ k, k < W.heap.size → some k ≠ v.ownBlock → w1.heap[k]? = W.heap[k]?) := by
  rcases Nat.eq_zero_or_pos m with h0 | hpos
  · subst h0
    obtain rfl : l = [] := List.eq_nil_of_length_eq_zero hsrc.1.symm
    obtain ⟨i0, hi, hz0, hz1, hz2⟩ := info_parts hinfo
    refine ⟨v, W, ?_, by simpa using hown, hB, Nat.le_refl _, fun _ _ => rfl, fun _ _ _ => rfl⟩
    obtain ⟨a', c, rfl⟩ : ∃ a c, v = .slice a n c := by
      rcases hown.2 with ⟨rfl, rfl⟩ | ⟨g, cap, cur, rfl, _⟩
      · exact ⟨none, 0, rfl⟩
      · exact ⟨_, cap, rfl⟩
    cases a <;>
    · rcases hown.2 with ⟨he, hn0⟩ | ⟨g, cap, cur, he, hg, hgg, hnc, _⟩
      · obtain ⟨rfl, _, rfl⟩ : a' = none ∧ n = 0 ∧ c = 0 := by simpa using he
        subst hn0
        simp [Builtin.append_, run_underlying ht, sizeOf, typeInfo, hi, Builtin.lenOf, Builtin.firstCells, loadCells, loadCellsFrom]
      · obtain ⟨rfl, rfl⟩ : a' = some ⟨g, 0, none⟩ ∧ c = cap := by simpa using he
        simp [Builtin.append_, run_underlying ht, sizeOf, typeInfo, hi, Builtin.lenOf, Builtin.firstCells, hnc, storeCells, loadCells, loadCellsFrom]
  · have hat := hsrc.to_at (cap := cap) hk hpos
    rw [← hsrc.1] at hat
    have hfl : (l.flatMap enc).length = m * size := by rw [flat_len enc size hk, hsrc.1]
    exact append_list P ty ht hinfo hzs hsz hown hB hBb hbase hat hfl (fun u hu => by obtain ⟨x, _, hx⟩ := List.mem_flatMap.1 hu; exact h1 x u hx) hn hm hby
/-- What a call owns, by its elements. -/
theorem slC_of_owns {α : Type} {enc : α → List Value} {w : World} {base e size : Nat} {v : Value} {l : List α} (hk : ∀ x, (enc x).length = size) (h : w.ownsRow base e size v l.length (l.flatMap enc)) :
    ∃ a cap, v = .slice a l.length cap ∧ SlC enc size w.heap.size w a l.length cap l ∧ ∀ x, a = some x → base ≤ x.block := by
  have hsl := slAt_of_owns h
  rcases h.2 with ⟨rfl, hn⟩ | ⟨g, cap, cur, rfl, hg, hh, hnc, hcm, hcs, ht⟩
  · have hl : l = [] := List.eq_nil_of_length_eq_zero hn
    subst hl
    exact ⟨none, 0, rfl, SlC.nil, fun x h => by cases h⟩
  · refine ⟨_, cap, rfl, ⟨SlE.of_at hk hsl, hnc, hcm, (fun h => by cases h), fun x hx _ => ?_⟩, fun x hx => ?_⟩
    · cases hx; exact ⟨rfl, (Array.getElem?_eq_some_iff.1 hh).1⟩
    · cases hx; exact hg

section
variable {H : Type} {enc : TypeId × Value → H} {P : Program} {w : World} {base : Nat} {held : Bool}
/-- A slice that is read up to its capacity, opened by its elements. -/
theorem slC_of_trod {α : Type} {t e : TypeId} {k : Nat} {encA : α → List Value} (hk : 0 < k) (ht : P.underlying t = some (.slice e)) (hc : P.cellsOf e = k)
    (hel : ∀ n cs x, DataW.trod enc P w base (fun _ => true) held n e cs = some x → ∃ y, cs = encA y) {fuel : Nat} {a : Option Addr} {len cap : Nat} {x : DataW H × List MemPlace}
    (h : DataW.trod enc P w base (fun _ => true) held fuel t [.slice a len cap] = some x) :
    ∃ l : List α, SlC encA k w.heap.size w a len cap l := by
  rcases open_slice ht h with ⟨h0, _⟩ | ⟨a', len', cap', m, n, D, Pl, hcs, -, hl, hmx, hm, -, hi⟩
  · simp only [List.cons.injEq, and_true, Value.slice.injEq] at h0
    obtain ⟨rfl, rfl, rfl⟩ := h0
    exact ⟨[], SlC.nil⟩
  · simp only [List.cons.injEq, and_true, Value.slice.injEq] at hcs
    obtain ⟨rfl, rfl, rfl⟩ := hcs
    rw [if_pos rfl] at hm
    subst hm
    have hall : ∀ i, i < m → ∃ y, a'.spot = none ∧ a'.block < w.heap.size ∧ ∀ j, j < k → w.cell? ⟨a'.block, a'.off + i * k + j, none⟩ = (encA y)[j]? := fun i him => by
      obtain ⟨cs', h1, h2⟩ := hi i him
      obtain ⟨y, rfl⟩ := hel _ _ _ h2
      rw [hc] at h1
      obtain ⟨_, hlen, hat⟩ := World.cells?_some h1
      have hsp : a'.spot = none ∧ a'.block < w.heap.size := by
        obtain ⟨cs0, h10, h20⟩ := hi 0 (by omega)
        rw [hc, Nat.zero_mul] at h10
        obtain ⟨_, hlen0, hat0⟩ := World.cells?_some h10
        have e0 := hat0 0 hk
        have ea : (a'.add 0).add 0 = a' := by simp [Addr.add]
        rw [ea, List.getElem?_eq_getElem (by omega)] at e0
        refine ⟨?_, World.block_lt_of_cell? w _ e0⟩
        unfold World.cell? at e0
        cases hs : a'.spot with
        | none => rfl
        | some z =>
          rw [hs] at e0
          split at e0 <;> simp at e0
      refine ⟨y, hsp.1, hsp.2, fun j hj => ?_⟩
      have := hat j hj
      rw [add_none hsp.1, add_none rfl] at this
      exact this
    have hex : ∃ l : List α, l.length = len ∧ ∀ i y, l[i]? = some y → a'.spot = none ∧ a'.block < w.heap.size ∧ ∀ j, j < k → w.cell? ⟨a'.block, a'.off + i * k + j, none⟩ = (encA y)[j]? := by
      have hall' : ∀ i, i < len → ∃ y, a'.spot = none ∧ a'.block < w.heap.size ∧ ∀ j, j < k → w.cell? ⟨a'.block, a'.off + i * k + j, none⟩ = (encA y)[j]? := fun i hi => hall i (by omega)
      clear hi hl h hall
      induction len with
      | zero => exact ⟨[], rfl, fun i y h => by simp at h⟩
      | succ n ih =>
        obtain ⟨l, h1, h2⟩ := ih (fun i hi => hall' i (by omega))
        obtain ⟨y, hy⟩ := hall' n (by omega)
        refine ⟨l ++ [y], by simp [h1], fun i z hz => ?_⟩
        by_cases hil : i < l.length
        · rw [List.getElem?_append_left hil] at hz
          exact h2 i z hz
        · have hi2 := (List.getElem?_eq_some_iff.1 hz).1
          have : i = n := by simp at hi2; omega
          subst this
          rw [List.getElem?_append_right (by omega), h1] at hz
          simp at hz
          subst hz
          exact hy
    obtain ⟨l, hll, hcell⟩ := hex
    refine ⟨l, ⟨hll.symm, fun j y hy => ?_⟩, hl, hmx, fun h => by (cases h), fun y hy hpos => ?_⟩
    · obtain ⟨h1, h2, h3⟩ := hcell j y hy
      exact ⟨a'.block, a'.off, by congr 1; cases a'; simp_all, h2, h3⟩
    · cases hy
      obtain ⟨_, h1, h2, _⟩ := hall 0 hpos
      exact ⟨h1, h2⟩
end
def cutN (n : Int) (s : ByteArray) : ByteArray := s.extract 0 (min (s.size : Int) n).toNat
theorem cutN_size (n : Nat) (s : ByteArray) : (cutN n s).size = min s.size n := by simp [cutN]; omega
theorem cutN_lt (n : Nat) (hn : n < 4294967281) (s : ByteArray) : (cutN n s).size < 4294967281 := by rw [cutN_size]; omega
end Go.Proofs.YtjpnbkdhmjgdgaaDoor

/- Sets of ints as map[int]struct{}: run equations, of no program. -/
import Derived.Test.YtpnlmfilmbodfaaGreatDoorVH0
import Derived.Maps.RangeWalk
import Derived.Maps.OwnSet
namespace Go.Proofs.YtpnlmfilmbodfaaGreatDoor
open Go Go.RowKit Go.Shelf Go.Maps
def wfI (i : Int) : Prop := (Lit.int .i64 i).wf = true
def SetAt (P : Program) (kt : TypeId) (w : World) (b n : Nat) (S : Int → Bool) : Prop :=
  ∃ D : DataW Unit, w.ownsMap P kt unitElem b n D ∧ ∀ i, wfI i → Maps.has D (.int .i64 i) = S i
section
variable {P : Program} {kt mt et : TypeId} (hk : P.underlying kt = some (.int .i64)) (hm : P.underlying mt = some (.map kt et)) (hz : ∀ w, (zeroValue et).run P w = .ok (.agg #[]) w)
theorem SetAt.kept {w w' : World} {b n : Nat} {S : Int → Bool} {row : Option Nat} (h : SetAt P kt w b n S) (hg : w.grownBy w' row) (hne : some b ≠ row) : SetAt P kt w' b n S :=
  let ⟨D, h1, h2⟩ := h; ⟨D, h1.kept hg hne, h2⟩
theorem SetAt.lt {w : World} {b n : Nat} {S : Int → Bool} (h : SetAt P kt w b n S) : b < w.heap.size := let ⟨_, h1, _⟩ := h; h1.lt
theorem SetAt.below {w w' : World} {B b n : Nat} {S : Int → Bool} (h : SetAt P kt w b n S) (hb : Below B w w') (hB : b < B) : SetAt P kt w' b n S := by
  obtain ⟨D, ⟨es, clock, h1, h2, h3, h4⟩, h5⟩ := h
  exact ⟨D, ⟨es, clock, (hb.block b hB).trans h1, h2, h3, h4⟩, h5⟩
theorem SetAt.mono {w : World} {b n m : Nat} {S : Int → Bool} (h : SetAt P kt w b n S) (hm : n ≤ m) : SetAt P kt w b m S :=
  let ⟨D, h1, h2⟩ := h; ⟨D, h1.mono hm, h2⟩
include hk hm in
theorem SetAt.add {w : World} {b n : Nat} {S : Int → Bool} (h : SetAt P kt w b n S) (hn : n < maxLen) {i : Int} (hi : wfI i) :
    ∃ w', (Instr.mapUpdate mt (.map (some b)) (.int .i64 i) (.agg #[])).run P w = .ok () w' ∧ SetAt P kt w' b (n + 1) (fun j => S j || j == i) ∧ w.grownBy w' (some b) := by
  obtain ⟨D, h1, h2⟩ := h
  obtain ⟨w', hr, h3, h4⟩ := h1.update (int_keyed hk) hm hn (keyOf_int_mk hk hi) unitElem_mk
  refine ⟨w', hr, ⟨_, h3, fun j hj => ?_⟩, h4⟩
  by_cases e : j = i
  · subst e
    rw [Maps.has_put_same h1.isMap ((int_keyed hk).key (keyOf_int_mk hk hi))]; simp
  · rw [Maps.has_put_other (by simpa using e), h2 j hj]; simp [e]
include hk hm hz in
theorem SetAt.look {w : World} {b n : Nat} {S : Int → Bool} (h : SetAt P kt w b n S) {i : Int} (hi : wfI i) : (Instr.lookup mt (.map (some b)) (.int .i64 i) true).run P w = .ok (.tuple #[.agg #[], .bool (S i)]) w := by
  obtain ⟨D, h1, h2⟩ := h
  obtain ⟨v, ps, hr, hv⟩ := h1.look_ok (int_keyed hk) hm (hz w) unitElem_mk (keyOf_int_mk hk hi)
  obtain ⟨rfl, _⟩ := unitElem_inv hv
  rw [hr, h2 i hi]
include hk hm in
theorem SetAt.len {w : World} {b n : Nat} {S : Int → Bool} (h : SetAt P kt w b n S) : ∃ k : Nat, (∀ ty, (Builtin.len_ #[mt] ty #[.map (some b)]).run P w = .ok (.int .i64 k) w) ∧ (k = 0 ↔ ∀ i, wfI i → S i = false) := by
  obtain ⟨D, h1, h2⟩ := h
  refine ⟨Maps.size D, fun ty => h1.len hm ty, ?_⟩
  obtain ⟨es, clock, hb, F, hs, hD⟩ := h1
  constructor
  · intro h0 i hi
    rw [← h2 i hi]
    subst hD
    have : ((es.toList.map (WideElems.rg P kt unitElem)).foldr DataW.insert [] : List (Lit × DataW Unit)) = [] := List.eq_nil_of_length_eq_zero h0
    rw [this]; rfl
  · intro hall
    subst hD
    rcases Nat.eq_zero_or_pos es.size with h0 | h0
    · simp [Maps.size, length_sorted, h0]
    · exfalso
      have hx : es[0]'h0 ∈ es.toList := by simp
      obtain ⟨y, hy⟩ := F.reads _ hx
      have hky := WideElems.rd_key hy
      obtain ⟨x, hkx, hly, hwx⟩ := Maps.keyOf_int_inv hk hky
      have h3 : Maps.has (DataW.map ((es.toList.map (WideElems.rg P kt unitElem)).foldr DataW.insert [])) (.int .i64 x) = true :=
        List.any_eq_true.2 ⟨WideElems.rg P kt unitElem (es[0]'h0), mem_sorted.2 (List.mem_map.2 ⟨_, hx, rfl⟩), by rw [WideElems.rg_of hy, hly]; exact WideAt.sameKey_self trivial⟩
      rw [h2 x hwx, hall x hwx] at h3
      cases h3
include hk in
def RangeAt (P : Program) (kt : TypeId) (w : World) (b r n : Nat) (S L : Int → Bool) (cnt : Nat) : Prop :=
  ∃ (D : DataW Unit) (left : Lit → Bool), w.ranges P kt unitElem b r n D left cnt ∧ (∀ i, wfI i → Maps.has D (.int .i64 i) = S i) ∧ (∀ i, wfI i → left (.int .i64 i) = L i)
theorem RangeAt.left_eq {w : World} {b r n : Nat} {S L : Int → Bool} {cnt : Nat} (h : RangeAt P kt w b r n S L cnt) : w.rangeLeft b r = cnt := let ⟨_, _, h1, _⟩ := h; h1.left_eq
theorem RangeAt.kept {w w' : World} {b r n : Nat} {S L : Int → Bool} {cnt : Nat} {row : Option Nat} (h : RangeAt P kt w b r n S L cnt) (hg : w.grownBy w' row) (h1 : some b ≠ row) (h2 : some r ≠ row) : RangeAt P kt w' b r n S L cnt :=
  let ⟨D, left, h3, h4, h5⟩ := h; ⟨D, left, h3.kept hg h1 h2, h4, h5⟩
theorem RangeAt.below {w w' : World} {B b r n : Nat} {S L : Int → Bool} {cnt : Nat} (h : RangeAt P kt w b r n S L cnt) (hb : Below B w w') (h1 : b < B) (h2 : r < B) : RangeAt P kt w' b r n S L cnt := by
  obtain ⟨D, left, ⟨es, clock, since, seen, c0, e1, e2, e3, e4, e5, e6⟩, h4, h5⟩ := h
  exact ⟨D, left, ⟨es, clock, since, seen, c0, (hb.block b h1).trans e1, e2, e3, e4, (hb.block r h2).trans e5, e6⟩, h4, h5⟩
theorem RangeAt.lt {w : World} {b r n : Nat} {S L : Int → Bool} {cnt : Nat} (h : RangeAt P kt w b r n S L cnt) : r < w.heap.size := let ⟨_, _, h1, _⟩ := h; h1.lt
include hk hm in
theorem SetAt.range {w : World} {b n : Nat} {S : Int → Bool} (h : SetAt P kt w b n S) :
    ∃ w' cnt, (Instr.range mt (.map (some b))).run P w = .ok (.pointer (some ⟨w.heap.size, 0, none⟩)) w' ∧ RangeAt P kt w' b w.heap.size n S S cnt ∧ w.grownBy w' none ∧ w'.heap.size = w.heap.size + 1 := by
  obtain ⟨D, h1, h2⟩ := h
  obtain ⟨w', hr, h3, h4, h5⟩ := h1.range (int_keyed hk) hm
  exact ⟨w', _, hr, ⟨D, _, h3, h2, h2⟩, h4, h5⟩
include hk in
theorem RangeAt.next {w : World} {b r n : Nat} {S L : Int → Bool} {cnt : Nat} (h : RangeAt P kt w b r n S L cnt) (ty : TypeId) :
    ((∀ i, wfI i → L i = false) ∧ (Instr.next (.pointer (some ⟨r, 0, none⟩)) false ty).run P w = .ok (.tuple #[.bool false]) w) ∨
    ∃ i w' cnt', wfI i ∧ L i = true ∧ S i = true ∧ (Instr.next (.pointer (some ⟨r, 0, none⟩)) false ty).run P w = .ok (.tuple #[.bool true, .int .i64 i, .agg #[]]) w' ∧
      RangeAt P kt w' b r n S (fun j => L j && !(j == i)) cnt' ∧ cnt' < cnt ∧ w.grownBy w' (some r) ∧ w'.heap.size = w.heap.size ∧ (Instr.entry (.pointer (some ⟨r, 0, none⟩))).run P w' = .ok (.tuple #[.int .i64 i, .agg #[]]) w' := by
  obtain ⟨D, left, h1, h2, h3⟩ := h
  rcases h1.next (int_keyed hk) ty with ⟨_, hl, hr⟩ | ⟨key, v, kl, y, w', cnt', hkey, hlk, hv, hat, hr, hrg, hlt, hgr, hsz, hen⟩
  · exact .inl ⟨fun i hi => by rw [← h3 i hi]; exact hl _, hr⟩
  · obtain ⟨x, rfl, rfl, hwx⟩ := Maps.keyOf_int_inv hk hkey
    obtain ⟨rfl, _⟩ := unitElem_inv hv
    refine .inr ⟨x, w', cnt', hwx, by rw [← h3 x hwx]; exact hlk, by rw [← h2 x hwx]; exact Maps.has_true_of_atKey hat, hr, ⟨D, _, hrg, h2, fun j hj => ?_⟩, hlt, hgr, hsz, hen⟩
    rw [h3 j hj]
    exact Bool.eq_iff_iff.2 (by simp [Lit.sameKey])
end
end Go.Proofs.YtpnlmfilmbodfaaGreatDoor

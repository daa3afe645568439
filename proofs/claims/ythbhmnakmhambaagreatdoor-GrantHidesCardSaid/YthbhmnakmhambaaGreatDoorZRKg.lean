/- Rows of laws: what a call that answers true and changes nothing leaves; arguments opened to the walks' words. Of no program. Series of Go's sizes; aviarylaw12.shown. What rows have in common: series opened, the tables of unicode/utf8. Printed by gen_rz.py. The plain law of tables: labels are in a strict order; a series put in is inserted; two of different labels may be put in either way about. No program. What SeriesOrders and SeriesOwn have in common: boxes of series that are stored into; Put as a function. What is lent, in plain data: to whom all is lent, to whom nothing; what may not be read changes nothing. aviarylaw15.cut, Few. Grants as an argument, opened. -/
import Derived.Test.YthbhmnakmhambaaGreatDoorZJ3S1
import Derived.Test.YthbhmnakmhambaaGreatDoorZWR
namespace Go.Proofs.YthbhmnakmhambaaGreatDoor
open Go Go.RowKit Go.ChangeShapes Go.WideShapes Go.Deep
section
variable {H : Type} {enc : TypeId × Value → H} {P : Program}
variable {w : World} {base : Nat} {spare : Nat → Bool} {held : Bool}
theorem slice_has {r : Reach} {b0 : Nat} {t e : TypeId} {a : Addr} {len cap : Nat} (ht : P.underlying t = some (.slice e)) (h : Cell.okWide P w r b0 t (.slice (some a) len cap)) : a.spot = none ∧ a.block < w.heap.size := by
 simp only [Cell.okWide, ht, Cell.ok] at h
 obtain ⟨_, _, _, h1, row, cells, h2, _⟩ := h
 refine ⟨h1, ?_⟩
 unfold World.shape? at h2
 cases hx : w.heap[a.block]? with
 | none => simp [hx] at h2
 | some o => exact (Array.getElem?_eq_some_iff.1 hx).1
theorem slAt_of_trod {α : Type} {t e : TypeId} {k : Nat} {encA : α → List Value} (hlen : ∀ x, (encA x).length = k) (ht : P.underlying t = some (.slice e)) (hc : P.cellsOf e = k)
  (hel : ∀ n cs x, DataW.trod enc P w base spare held n e cs = some x → ∃ y, cs = encA y) {fuel : Nat} {a : Option Addr} {len cap : Nat} {x : DataW H × List MemPlace}
  (hok : ∀ a', a = some a' → a'.spot = none ∧ a'.block < w.heap.size) (h : DataW.trod enc P w base spare held fuel t [.slice a len cap] = some x) :
  ∃ l : List α, SlAt w.heap.size w (.slice a len cap) l.length (l.flatMap encA) := by
 rcases open_slice ht h with ⟨h0, _⟩ | ⟨a', len', cap', m, n, D, Pl, hcs, -, hl, -, hm, -, hi⟩
 ·simp only [List.cons.injEq, and_true] at h0
  exact ⟨[], .inl ⟨h0, rfl, rfl⟩⟩
 ·simp only [List.cons.injEq, and_true, Value.slice.injEq] at hcs
  obtain ⟨rfl, rfl, rfl⟩ := hcs
  obtain ⟨hs, hb⟩ := hok a' rfl
  have hlm : len ≤ m := by rw [hm]; split <;> omega
  have hall : ∀ i, i < len → ∃ y, ∀ j, j < k → w.cell? ⟨a'.block, a'.off + i * k + j, none⟩ = (encA y)[j]? := fun i hil => by
   obtain ⟨cs', h1, h2⟩ := hi i (by omega)
   obtain ⟨y, rfl⟩ := hel _ _ _ h2
   rw [hc] at h1
   obtain ⟨_, _, hat⟩ := World.cells?_some h1
   refine ⟨y, fun j hj => ?_⟩
   have := hat j hj
   rw [add_none hs, add_none rfl] at this
   exact this
  have hex : ∃ l : List α, l.length = len ∧ ∀ i y, l[i]? = some y → ∀ j, j < k → w.cell? ⟨a'.block, a'.off + i * k + j, none⟩ = (encA y)[j]? := by
   clear hi hm hlm hl h
   induction len with
   | zero => exact ⟨[], rfl, fun i y h => by simp at h⟩
   | succ n ih =>
    obtain ⟨l, h1, h2⟩ := ih (fun i hi => hall i (by omega))
    obtain ⟨y, hy⟩ := hall n (by omega)
    refine ⟨l ++ [y], by simp [h1], fun i z hz j hj => ?_⟩
    by_cases hil : i < l.length
    ·rw [List.getElem?_append_left hil] at hz
     exact h2 i z hz j hj
    ·have hi2 := (List.getElem?_eq_some_iff.1 hz).1
     have : i = n := by simp at hi2; omega
     subst this
     rw [List.getElem?_append_right (by omega), h1] at hz
     simp at hz
     subst hz
     exact hy j hj
  obtain ⟨l, hll, hcell⟩ := hex
  refine ⟨l, .inr ⟨a'.block, a'.off, cap, by rw [hll]; congr 2; cases a'; simp_all, hb, fun i hil => ?_⟩⟩
  rw [flat_len encA k hlen] at hil
  have hk : 0 < k := by
   rcases Nat.eq_zero_or_pos k with h0 | h0
   ·subst h0; simp at hil
   ·exact h0
  have hdm := Nat.div_add_mod i k
  have hq : i / k < l.length := Nat.div_lt_of_lt_mul (by rw [Nat.mul_comm]; exact hil)
  have hr : i % k < k := Nat.mod_lt _ hk
  obtain ⟨y, hy⟩ : ∃ y, l[i / k]? = some y := ⟨_, List.getElem?_eq_getElem hq⟩
  have h1 := hcell _ y hy _ hr
  have h2 := flat_cell encA k hlen l (i / k) (i % k) y hy hr
  have e1 : i / k * k + i % k = i := by rw [Nat.mul_comm]; exact hdm
  rw [Nat.add_assoc, e1] at h1
  rw [e1] at h2
  rw [h1, h2]
theorem agg_cells {r : Reach} {b0 : Nat} {t : TypeId} {fs : Array Field} {cs : Array Value} (ht : P.underlying t = some (.struct fs)) (h : Value.okWide P w r b0 t (.agg cs)) :
  ∃ ts, P.cellTypes P.depth t = some ts ∧ ∀ i v, cs[i]? = some v → ∃ u, ts[i % ts.length]? = some u ∧ Cell.okWide P w r b0 u v := by
 simp only [Value.okWide, ht] at h
 obtain ⟨cs', h1, _, ts, h2, _, h3⟩ := h
 cases h1
 exact ⟨ts, h2, h3⟩
end
end Go.Proofs.YthbhmnakmhambaaGreatDoor
namespace Go.Proofs.YthbhmnakmhambaaGreatDoor
open Go Go.RowKit Go.Shelf
theorem fine_put {l : List Ser} {x : Ser} (h : ∀ y ∈ l, y.fine) (hx : x.fine) : ∀ y ∈ putL l x, y.fine := fun y hy => by
 simp only [putL, List.mem_append, List.mem_cons] at hy
 rcases hy with hy | rfl | hy
 ·exact h y (List.mem_of_mem_take hy)
 ·exact hx
 ·exact h y (List.mem_of_mem_drop hy)
end Go.Proofs.YthbhmnakmhambaaGreatDoor
namespace Go.Proofs.YthbhmnakmhambaaGreatDoor
open Go Go.ChangeShapes Go.WideShapes Go.ChangeAt Go.RowKit Go.Lib Go.Deep Go.Shelf
section
variable {H : Type} {enc : TypeId × Value → H} {w : World} {base : Nat} {held : Bool}
set_option maxRecDepth 100000 in
theorem open_ser {r : Reach} {b0 : Nat} {v : Value} {d : DataW H} {p : List MemPlace} (hv : Value.okWide Tryz.prog w r b0 43 v) (h : DataW.Trod enc Tryz.prog w base (fun _ => true) held 43 v d p) :
  ∃ x p, v = .agg (serVals x p).toArray ∧ p.At w.heap.size w x ∧ x.wn := by
 obtain ⟨cs, rfl, -⟩ := okWide_struct und_series hv
 obtain ⟨fuel, hf⟩ := h
 obtain ⟨e, h1, h2, h3⟩ := ser_elem _ _ _ hf
 refine ⟨e.1, e.2, ?_, h2, h3⟩
 have h1' : cs.toList = serEnc e := h1
 rw [← Array.toArray_toList (xs := cs), h1']; rfl
end
end Go.Proofs.YthbhmnakmhambaaGreatDoor
namespace Go.Proofs.YthbhmnakmhambaaGreatDoor
open Go Go.RowKit Go.Shelf
theorem bl_tri : ∀ a b : List UInt8, Op.bytesLess a b = false → Op.bytesLess b a = false → a = b
 | [], [], _, _ => rfl
 | [], _ :: _, h, _ => by simp [Op.bytesLess] at h
 | _ :: _, [], _, h => by simp [Op.bytesLess] at h
 | a :: x, b :: y, h1, h2 => by
  simp only [Op.bytesLess, Bool.or_eq_false_iff, decide_eq_false_iff_not] at h1 h2
  have hab : a = b := UInt8.le_antisymm (UInt8.not_lt.1 h2.1) (UInt8.not_lt.1 h1.1)
  subst hab
  simp only [BEq.rfl, Bool.true_and] at h1 h2
  rw [bl_tri x y h1.2 h2.2]
theorem ba_list {a b : ByteArray} (h : a.toList = b.toList) : a = b := by
 rw [Lib.toList_data, Lib.toList_data] at h
 cases a; cases b
 simp only [ByteArray.mk.injEq]
 exact Array.toList_inj.1 h
theorem lab_eq {x y : Lab} (h1 : x.name = y.name) (h2 : x.value = y.value) : x = y := by cases x; cases y; simp_all
theorem ll_irr : ∀ a : List Lab, labLess a a = false
 | [] => rfl
 | x :: a => by simp [labLess, ll_irr a]
theorem ll_tri : ∀ a b : List Lab, labLess a b = false → labLess b a = false → a = b
 | [], [], _, _ => rfl
 | [], _ :: _, h, _ => by simp [labLess] at h
 | _ :: _, [], _, h => by simp [labLess] at h
 | x :: a, y :: b, h1, h2 => by
  simp only [labLess] at h1 h2
  by_cases h : x.name = y.name ∧ x.value = y.value
  ·rw [if_pos h] at h1
   rw [if_pos ⟨h.1.symm, h.2.symm⟩] at h2
   rw [ll_tri a b h1 h2, lab_eq h.1 h.2]
  ·rw [if_neg h] at h1
   rw [if_neg (fun k => h ⟨k.1.symm, k.2.symm⟩)] at h2
   by_cases hn : x.name = y.name
   ·rw [if_neg (by simp [hn])] at h1
    rw [if_neg (by simp [hn])] at h2
    exact absurd ⟨hn, ba_list (bl_tri _ _ h1 h2)⟩ h
   ·rw [if_pos hn] at h1
    rw [if_pos (fun k => hn k.symm)] at h2
    exact absurd (ba_list (bl_tri _ _ h1 h2)) hn
theorem ll_asym {a b : List Lab} (h : labLess a b = true) : labLess b a = false := by
 cases h2 : labLess b a with
 | false => rfl
 | true => have := ll_tr _ _ _ h h2; rw [ll_irr] at this; cases this
theorem decide_beq (a b : List Lab) : (a == b) = decide (a = b) := by
 by_cases h : a = b <;> simp [h]
def insL (l : List Ser) (x : Ser) : List Ser := l.filter (fun y => labLess y.l x.l) ++ x :: l.filter (fun y => labLess x.l y.l)
theorem find_sorted (q : List Lab) : ∀ l : List Ser, Sorted l → l.take (findAt l q) = l.filter (fun y => labLess y.l q) ∧ l.drop (findAt l q + (if thereAt l q then 1 else 0)) = l.filter (fun y => labLess q y.l) ∧ (thereAt l q = true ↔ ∃ x ∈ l, x.l = q)
 | [], _ => by simp [findAt, thereAt]
 | y :: r, h => by
  obtain ⟨hy, hr⟩ := List.pairwise_cons.1 h
  by_cases hl : labLess y.l q = true
  ·obtain ⟨i1, i2, i3⟩ := find_sorted q r hr
   have hf : findAt (y :: r) q = findAt r q + 1 := by simp [findAt, hl]
   have ht : thereAt (y :: r) q = thereAt r q := by unfold thereAt; rw [hf, List.getElem?_cons_succ]
   have hne : y.l ≠ q := fun e => by rw [e, ll_irr] at hl; cases hl
   refine ⟨?_, ?_, ?_⟩
   ·rw [hf, List.take_succ_cons, i1, List.filter_cons, if_pos hl]
   ·rw [hf, ht, List.filter_cons_of_neg (by rw [ll_asym hl]; simp), ← i2, show findAt r q + 1 + (if thereAt r q = true then 1 else 0) = (findAt r q + (if thereAt r q = true then 1 else 0)) + 1 by omega, List.drop_succ_cons]
   ·rw [ht, i3]; simp [hne]
  ·have hl' : labLess y.l q = false := by simpa using hl
   have hf : findAt (y :: r) q = 0 := by simp [findAt, hl']
   have ht : thereAt (y :: r) q = decide (y.l = q) := by unfold thereAt; rw [hf, List.getElem?_cons_zero]; exact decide_beq _ _
   have hnone : ∀ z ∈ r, labLess z.l q = false := fun z hz => by
    cases hz2 : labLess z.l q with
    | false => rfl
    | true => exact absurd (ll_tr _ _ _ (hy z hz) hz2) hl
   have hF : r.filter (fun y => labLess y.l q) = [] := List.filter_eq_nil_iff.2 (fun z hz => by rw [hnone z hz]; simp)
   by_cases he : y.l = q
   ·have hA : r.filter (fun y => labLess q y.l) = r := List.filter_eq_self.2 (fun z hz => by rw [← he]; exact hy z hz)
    refine ⟨by rw [hf, List.filter_cons, if_neg hl, hF]; rfl, ?_, by rw [ht]; simp [he]⟩
    rw [hf, ht, List.filter_cons_of_neg (by rw [he, ll_irr]; simp), hA]; simp [he]
   ·have hq : labLess q y.l = true := by
     cases h2 : labLess q y.l with
     | true => rfl
     | false => exact absurd (ll_tri _ _ hl' h2) he
    have hA : r.filter (fun y => labLess q y.l) = r := List.filter_eq_self.2 (fun z hz => ll_tr _ _ _ hq (hy z hz))
    refine ⟨by rw [hf, List.filter_cons, if_neg hl, hF]; rfl, ?_, ?_⟩
    ·rw [hf, ht, List.filter_cons_of_pos (by exact hq), hA]; simp [he]
    ·rw [ht]
     simp only [he, decide_false, Bool.false_eq_true, List.mem_cons, exists_eq_or_imp, false_or, false_iff]
     rintro ⟨z, hz, e⟩
     have := ll_tr _ _ _ hq (hy z hz)
     rw [e, ll_irr] at this
     cases this
theorem putL_ins {l : List Ser} (h : Sorted l) (x : Ser) : putL l x = insL l x := by
 obtain ⟨h1, h2, -⟩ := find_sorted x.l l h
 rw [putL, h1, h2]; rfl
theorem mem_ins {l : List Ser} {x y : Ser} : y ∈ insL l x ↔ (y ∈ l ∧ (labLess y.l x.l = true ∨ labLess x.l y.l = true)) ∨ y = x := by
 simp only [insL, List.mem_append, List.mem_filter, List.mem_cons]
 constructor
 ·rintro (⟨h1, h2⟩ | h | ⟨h1, h2⟩)
  ·exact .inl ⟨h1, .inl h2⟩
  ·exact .inr h
  ·exact .inl ⟨h1, .inr h2⟩
 ·rintro (⟨h1, h2 | h2⟩ | h)
  ·exact .inl ⟨h1, h2⟩
  ·exact .inr (.inr ⟨h1, h2⟩)
  ·exact .inr (.inl h)
theorem sorted_ins {l : List Ser} (h : Sorted l) (x : Ser) : Sorted (insL l x) := by
 refine List.pairwise_append.2 ⟨h.filter _, List.pairwise_cons.2 ⟨fun y hy => (List.mem_filter.1 hy).2, h.filter _⟩, fun a ha b hb => ?_⟩
 have h1 := (List.mem_filter.1 ha).2
 rcases List.mem_cons.1 hb with rfl | hb
 ·exact h1
 ·exact ll_tr _ _ _ h1 (List.mem_filter.1 hb).2
theorem len_put {l : List Ser} (x : Ser) : (putL l x).length + (if thereAt l x.l then 1 else 0) = l.length + 1 := by
 have h1 : findAt l x.l ≤ l.length := (List.takeWhile_prefix _).length_le
 have h2 : thereAt l x.l = true → findAt l x.l < l.length := fun h => by
  unfold thereAt at h
  cases hx : l[findAt l x.l]? with
  | none => rw [hx] at h; cases h
  | some y => exact (List.getElem?_eq_some_iff.1 hx).1
 unfold putL
 rw [List.length_append, List.length_take, List.length_cons, List.length_drop]
 cases ht : thereAt l x.l with
 | false => simp; omega
 | true => have := h2 ht; simp; omega
theorem right_put {l : List Ser} {x : Ser} (h : putOk l x = true) : tabRight (putL l x) = true := by
 simp only [putOk, Bool.and_eq_true, Bool.or_eq_true, Bool.not_eq_true'] at h
 obtain ⟨⟨h1, h2⟩, h3⟩ := h
 obtain ⟨hl, ha, hs⟩ := (tabRight_iff l).1 h1
 have hlen := len_put (l := l) x
 refine (tabRight_iff _).2 ⟨?_, ?_, ?_⟩
 ·rcases h3 with h3 | h3
  ·rw [if_pos h3] at hlen; omega
  ·have : l.length ≠ 20 := by simpa using h3
   split at hlen <;> omega
 ·rw [putL_ins hs]
  intro y hy
  rcases mem_ins.1 hy with ⟨h4, -⟩ | rfl
  ·exact ha y h4
  ·exact h2
 ·rw [putL_ins hs]; exact sorted_ins hs x
end Go.Proofs.YthbhmnakmhambaaGreatDoor
namespace Go.Proofs.YthbhmnakmhambaaGreatDoor
open Go Go.RowKit Go.Shelf
theorem box12 {W : World} {B : Nat} {x0 x1 x2 x3 x4 x5 x6 x7 x8 x9 x10 x11 : Value} {t : TypeId} (h : W.heap[B]? = some (.cells #[x0, x1, x2, x3, x4, x5, x6, x7, x8, x9, x10, x11] t (0, 0))) (v0 v1 v2 v3 v4 v5 v6 v7 v8 v9 v10 v11 : Value) :
  ∃ V, ((((((((((((W.setCell ⟨B, 0, none⟩ v0).setCell ⟨B, 1, none⟩ v1).setCell ⟨B, 2, none⟩ v2).setCell ⟨B, 3, none⟩ v3).setCell ⟨B, 4, none⟩ v4).setCell ⟨B, 5, none⟩ v5).setCell ⟨B, 6, none⟩ v6).setCell ⟨B, 7, none⟩ v7).setCell ⟨B, 8, none⟩ v8).setCell ⟨B, 9, none⟩ v9).setCell ⟨B, 10, none⟩ v10).setCell ⟨B, 11, none⟩ v11) = V ∧
   V.heap[B]? = some (.cells #[v0, v1, v2, v3, v4, v5, v6, v7, v8, v9, v10, v11] t (0, 0)) ∧ Apart B W V ∧ (∀ n w0, n ≤ B → Below n w0 W → Below n w0 V) ∧ V.heap.size ≤ W.heap.size ∧ W.heap.size ≤ V.heap.size :=
 ⟨_, rfl, set12 h, (((((((((((Apart.set 0 v0).trans (Apart.set 1 v1)).trans (Apart.set 2 v2)).trans (Apart.set 3 v3)).trans (Apart.set 4 v4)).trans (Apart.set 5 v5)).trans (Apart.set 6 v6)).trans (Apart.set 7 v7)).trans (Apart.set 8 v8)).trans (Apart.set 9 v9)).trans (Apart.set 10 v10)).trans (Apart.set 11 v11),
  fun _ _ hn hb => below_sets12 hb hn .., Nat.le_of_eq (sets12_size W B ..), Nat.le_of_eq (sets12_size W B ..).symm⟩
theorem cut_off {p p' : SerP} {n m : Nat} (h : p.Off (· < n)) (e : p'.ss = p.ss.cut) (hl : ∀ z, p'.la = some z → m ≤ z.block) : p'.Off (fun b => b < n ∨ m ≤ b) := by
 obtain ⟨la, ll, lc, s⟩ := p'
 dsimp only at e hl
 subst e
 exact ⟨fun z hz _ => .inr (hl z hz), fun z h1 h2 => .inl (h.e z h1 h2), fun z h1 h2 => .inl (h.c z h1 h2), fun z h1 h2 => .inl (h.g z h1 h2)⟩
end Go.Proofs.YthbhmnakmhambaaGreatDoor
namespace Go.Proofs.YthbhmnakmhambaaGreatDoor
open Go Go.RowKit
theorem pick_may (g : Grants) (tn : Int) (s : StrK) (kind : Int) : ∀ (L P : List Ser), pickAt (P ++ L) kind ((meantGo s P.length L).filter (mayAt g tn (P ++ L))) = pick (fun x => (meansS s x.l).1 && mayS g tn x.l) kind L
 | [], P => rfl
 | x :: r, P => by
  have ih := pick_may g tn s kind r (P ++ [x])
  rw [List.append_assoc, List.length_append] at ih
  replace ih : pickAt (P ++ x :: r) kind ((meantGo s (P.length + 1) r).filter (mayAt g tn (P ++ x :: r))) = pick (fun x => (meansS s x.l).1 && mayS g tn x.l) kind r := ih
  have hx : (P ++ x :: r)[P.length]? = some x := by simp
  show pickAt (P ++ x :: r) kind ((if (meansS s x.l).1 then P.length :: meantGo s (P.length + 1) r else meantGo s (P.length + 1) r).filter (mayAt g tn (P ++ x :: r))) = _
  unfold pick at ih ⊢
  rw [List.filter_cons]
  cases (meansS s x.l).1 with
  | false => exact ih
  | true =>
   rw [if_pos rfl, List.filter_cons, mayAt_at hx, Bool.true_and]
   cases mayS g tn x.l with
   | false => exact ih
   | true =>
    rw [if_pos rfl, if_pos rfl, List.flatMap_cons, ← ih, ← pickAt_at hx kind, ← pickAt_app]
    rfl
theorem lentR_pick (g : Grants) (tn : Int) {L : List Ser} {s : StrK} (hg : grRight g = true) (h1 : tabRight L = true) (h2 : scRight s = true) (kind : Int) : pickAt L kind (lentR g tn L s) = pick (fun x => (meansS s x.l).1 && mayS g tn x.l) kind L := by
 unfold lentR
 rw [hg, if_pos rfl, meantR_ok h1 h2]
 exact pick_may g tn s kind L []
theorem hides_plain (g : Grants) (tn : Int) {L : List Ser} {x : Ser} (s : StrK) (kind : Int) (hp : putOk L x = true) (hm : mayS g tn x.l = false) :
  lentE g (putL L x) s = lentE g L s ∧ (lentE g L s = 0 → pickAt (putL L x) kind (lentR g tn (putL L x) s) = pickAt L kind (lentR g tn L s)) := by
 have htr : tabRight L = true := by
  unfold putOk at hp
  simp only [Bool.and_eq_true] at hp
  exact hp.1.1
 have htp := right_put hp
 refine ⟨?_, fun h0 => ?_⟩
 ·unfold lentE meantE
  rw [htr, htp]
 ·have hgr : grRight g = true := by
   unfold lentE at h0
   cases h : grRight g
   ·rw [h] at h0; cases h0
   ·rfl
  have hsr : scRight s = true := by
   unfold lentE at h0
   rw [hgr, if_pos rfl] at h0
   exact (meantE_0 h0).2
  rw [lentR_pick g tn hgr htp hsr, lentR_pick g tn hgr htr hsr]
  have hc : ∀ (y : Ser) (r : List Ser), y.l = x.l → pick (fun x => (meansS s x.l).1 && mayS g tn x.l) kind (y :: r) = pick (fun x => (meansS s x.l).1 && mayS g tn x.l) kind r := fun y r hy => by
   unfold pick
   rw [List.filter_cons, hy, hm, Bool.and_false, if_neg (by simp)]
  have hL : ∀ n, pick (fun x => (meansS s x.l).1 && mayS g tn x.l) kind L = pick (fun x => (meansS s x.l).1 && mayS g tn x.l) kind (L.take n) ++ pick (fun x => (meansS s x.l).1 && mayS g tn x.l) kind (L.drop n) := fun n => by rw [← pick_app, List.take_append_drop]
  rw [hL (findAt L x.l), putL, pick_app, hc x _ rfl]
  congr 1
  cases ht : thereAt L x.l with
  | false => rfl
  | true =>
   unfold thereAt at ht
   cases hy : L[findAt L x.l]? with
   | none => rw [hy] at ht; cases ht
   | some y =>
    rw [hy] at ht
    rw [drop_cons' hy, hc y _ (by simpa using ht)]
    rfl
end Go.Proofs.YthbhmnakmhambaaGreatDoor
namespace Go.Proofs.YthbhmnakmhambaaGreatDoor
open Go Go.RowKit Go.Shelf
def cutK (n : Nat) (hn : n < 4294967281) (s : ByteArray) : StrK := ⟨cutN n s, cutN_lt n hn s⟩
structure RGr where
 id : Int
 tnt : Int
 scope : ByteArray
def RGr.enc (g : RGr) : List Value := [.int .u64 g.id, .int .u64 g.tnt, .string g.scope]
theorem rgr_enc_len (g : RGr) : g.enc.length = 3 := rfl
def RGr.cut (g : RGr) : Gr := ⟨g.id, g.tnt, cutK 200 (by decide) g.scope⟩
def RGrs (n₀ : Nat) (w : World) (sv : Value) (l : List RGr) : Prop := SlAt n₀ w sv l.length (l.flatMap RGr.enc)
def few15 (next : Int) (l : List RGr) : Grants := ⟨next, (l.take 12).map RGr.cut⟩
theorem ownsRow_of_heap {w w' : World} {base size n : Nat} {e : TypeId} {v : Value} {xs : List Value} (h : w.ownsRow base e size v n xs) (hk : ∀ g, v.ownBlock = some g → w'.heap[g]? = w.heap[g]?) : w'.ownsRow base e size v n xs := by
 refine ⟨h.1, ?_⟩
 rcases h.2 with h | ⟨g, cap, cur, rfl, h1, h2, h3⟩
 ·exact .inl h
 ·exact .inr ⟨g, cap, cur, rfl, h1, (hk g rfl).trans h2, h3⟩
theorem few_step {l : List RGr} {k : Nat} {x : RGr} (hx : l[k]? = some x) : ((l.take (k + 1)).map RGr.cut).flatMap Gr.enc = ((l.take k).map RGr.cut).flatMap Gr.enc ++ [.int .u64 x.id, .int .u64 x.tnt, .string (cutN 200 x.scope)] := by
 rw [take_snoc' hx]
 simp [RGr.cut, Gr.enc, cutK]
set_option maxRecDepth 100000 in
set_option maxHeartbeats 2000000 in
theorem few15_any (next : Int) (l : List RGr) (a : Option Addr) (len cap : Nat) (w : World) (hL : RGrs w.heap.size w (.slice a len cap) l) :
  Calls Tryz.prog 21 #[.agg #[.int .u64 next, .slice a len cap]] w fun e w' => ∃ v, e = .returned v ∧ GrantsAt w.heap.size w'.heap.size w' v (few15 next l) ∧ Below w.heap.size w w' := by
 obtain ⟨hlen, -⟩ := SlAt.elems rgr_enc_len hL
 subst hlen
 have hB1 : Below w.heap.size w (w.alloc (.cells #[.int .u64 next, .slice a l.length cap] 49)) := (Below.refl _ w).alloc (Nat.le_refl _) _
 have hX := World.alloc_heap_new w (.cells #[.int .u64 next, .slice a l.length cap] 49)
 obtain ⟨W0, hW0⟩ : ∃ W0, (w.alloc (.cells #[.int .u64 next, .slice a l.length cap] 49)).alloc (.cells #[.int .u64 0, .slice none 0 0] 49) = W0 := ⟨_, rfl⟩
 have hB0 : Below w.heap.size w W0 := by rw [← hW0]; exact hB1.alloc (by simp) _
 have hs0 : W0.heap.size = w.heap.size + 2 := by rw [← hW0]; simp
 have hX0 : W0.heap[w.heap.size]? = some (.cells #[.int .u64 next, .slice a l.length cap] 49 (0, 0)) := by rw [← hW0]; exact (Below.heap_alloc _ _ _ (by simp)).trans hX
 have hY0 : W0.heap[w.heap.size + 1]? = some (.cells #[.int .u64 0, .slice none 0 0] 49 (0, 0)) := by rw [← hW0]; have := World.alloc_heap_new (w.alloc (.cells #[.int .u64 next, .slice a l.length cap] 49)) (.cells #[.int .u64 0, .slice none 0 0] 49); rwa [World.size_alloc] at this
 obtain ⟨W1, hW1⟩ : ∃ W1, W0.alloc (.cells #[.int .u64 next, .slice none 0 0] 49) = W1 := ⟨_, rfl⟩
 have hB2 : Below w.heap.size w W1 := by rw [← hW1]; exact hB0.alloc (by omega) _
 have hs1 : W1.heap.size = w.heap.size + 3 := by rw [← hW1]; simp; omega
 have hX1 : W1.heap[w.heap.size]? = some (.cells #[.int .u64 next, .slice a l.length cap] 49 (0, 0)) := by rw [← hW1]; exact (Below.heap_alloc _ _ _ (by omega)).trans hX0
 have hY1 : W1.heap[w.heap.size + 1]? = some (.cells #[.int .u64 0, .slice none 0 0] 49 (0, 0)) := by rw [← hW1]; exact (Below.heap_alloc _ _ _ (by omega)).trans hY0
 have hZ1 : W1.heap[w.heap.size + 2]? = some (.cells #[.int .u64 next, .slice none 0 0] 49 (0, 0)) := by rw [← hW1, ← hs0]; exact World.alloc_heap_new W0 _
 have HW1 := Lib.hid hW1
 have c0 := cCc hX0 0
 simp at c0
 clear hB1 hX hW1
 go_enter Tryz.func21, Tryz.ntmps21
 go_wp2_with fail
 rw [HW1.out]
 have hown0 : W1.ownsRow (w.heap.size + 3) 89 3 (.slice none 0 0) 0 [] := World.ownsRow_nil _ _ _ _
 clear hW0 HW1 c0 hX0 hY0
 go_loopw [4] (fun i wr => ∃ (k : Nat) (v : Value), i = .int .i64 k ∧ k ≤ l.length ∧ k ≤ 12 ∧ Below w.heap.size w wr ∧ w.heap.size + 3 ≤ wr.heap.size ∧
  wr.heap[w.heap.size]? = some (.cells #[.int .u64 next, .slice a l.length cap] 49 (0, 0)) ∧ wr.heap[w.heap.size + 1]? = some (.cells #[.int .u64 0, .slice none 0 0] 49 (0, 0)) ∧
  wr.heap[w.heap.size + 2]? = some (.cells #[.int .u64 next, v] 49 (0, 0)) ∧ wr.ownsRow (w.heap.size + 3) 89 3 v k (((l.take k).map RGr.cut).flatMap Gr.enc)) (fun i _ => l.length - (intOf i).toNat)
 case atStart => exact ⟨0, _, rfl, Nat.zero_le _, by omega, hB2, by omega, hX1, hY1, hZ1, hown0⟩
 case round =>
  obtain ⟨k, v, rfl, hk, hk12, hB, hsz, hX, hY, hZ, hown⟩ := hrel
  clear hX1 hY1 hZ1 hown0 hB0 hB2 hs0 hs1
  have q1 := cCc hX 1
  simp at q1
  by_cases hlt : k < l.length ∧ k < 12
  ·obtain ⟨hlt, hlt12⟩ := hlt
   obtain ⟨x, hx⟩ : ∃ x, l[k]? = some x := ⟨_, List.getElem?_eq_getElem hlt⟩
   obtain ⟨b, off, rfl, hbb, hc⟩ := (SlAt.elems rgr_enc_len (SlAt.below hB hL)).2 k x hx
   have c0 : wr.cell? ⟨b, off + k * 3, none⟩ = some (.int .u64 x.id) := hc 0 (by omega)
   have c1 : wr.cell? ⟨b, off + k * 3 + 1, none⟩ = some (.int .u64 x.tnt) := hc 1 (by omega)
   have c2 : wr.cell? ⟨b, off + k * 3 + 2, none⟩ = some (.string x.scope) := hc 2 (by omega)
   obtain ⟨va, vc, rfl⟩ := owns_form hown
   have HS := Lib.hid (few_step hx)
   have q2 := cCc hZ 1
   simp at q2
   obtain ⟨X, hXe⟩ : ∃ X, X = wr.alloc (.cells #[.int .u64 x.id, .int .u64 x.tnt, .string (x.scope.extract 0 (min (x.scope.size : Int) 200).toNat)] 89) := ⟨_, rfl⟩
   have hszX : X.heap.size = wr.heap.size + 1 := by rw [hXe, World.size_alloc]
   have hBX : Below wr.heap.size wr X := by rw [hXe]; exact (Below.refl _ _).alloc (Nat.le_refl _) _
   have hownX : X.ownsRow (w.heap.size + 3) 89 3 (.slice va k vc) k (((l.take k).map RGr.cut).flatMap Gr.enc) := ownsRow_of_heap hown (fun g hg => hBX.block g (hown.lt g hg).2)
   obtain ⟨g5, cap5, w5, hap5, hown5, hB5, hz5, hbl5, -⟩ := append_one Tryz.prog 47 und_grants info_grant rfl (by decide) hownX (hB.trans (hBX.mono (by omega))) (by omega) (by omega) [.int .u64 x.id, .int .u64 x.tnt, .string (x.scope.extract 0 (min (x.scope.size : Int) 200).toNat)] rfl (by simp [Value.oneCell']) (by omega) (by decide)
   rw [hszX, hXe] at hap5
   have hX5 := (hbl5 w.heap.size (by omega)).trans ((hBX.block _ (by omega)).trans hX)
   have hY5 := (hbl5 (w.heap.size + 1) (by omega)).trans ((hBX.block _ (by omega)).trans hY)
   have hZ5 := (hbl5 (w.heap.size + 2) (by omega)).trans ((hBX.block _ (by omega)).trans hZ)
   have d1 := cCc hZ5 1
   have d2 := cFz hZ5 1
   simp at d1
   have e1 : w.heap.size + 2 < wr.heap.size := by omega
   have e2 : w.heap.size < wr.heap.size := by omega
   have e3 : w.heap.size + 3 ≤ w5.heap.size := by omega
   have e4 : (k : Int) < 12 := by omega
   have HO := Lib.hid hown5
   clear hc hx hL hown hownX hBX hXe hszX hown5 hbl5 hz5 hsz
   go_wp2_with (at_builtin; refine wp_append_eq rfl (.tmp 34) (.tmp 36) _ rfl rfl rfl hap5 ?_)
   go_roundw
   case rel =>
    refine ⟨k + 1, _, by go_num, by omega, by omega, hB5.setCell (p := ⟨w.heap.size + 2, 1, none⟩) (by show _ ≤ w.heap.size + 2; omega) _, by simpa [World.setCell] using e3, ?_, ?_, hSk hZ5 _, ?_⟩
    ·exact (Below.block (B := w.heap.size + 2) ((Below.refl _ w5).setCell (p := ⟨w.heap.size + 2, 1, none⟩) (Nat.le_refl _) _) _ (by omega)).trans hX5
    ·exact (Below.block (B := w.heap.size + 2) ((Below.refl _ w5).setCell (p := ⟨w.heap.size + 2, 1, none⟩) (Nat.le_refl _) _) _ (by omega)).trans hY5
    ·rw [HS.out]
     exact ownsRow_setCell_below HO.out (a := ⟨w.heap.size + 2, 1, none⟩) (by show w.heap.size + 2 < _; omega) _
   case measure => simp [intOf]; omega
  ·have HK : Hid (k = min l.length 12) := by rw [Hid]; omega
   have hT : Hid (((l.take k).map RGr.cut) = (few15 next l).l) := by
    rw [HK.out, few15, Hid]
    show List.map RGr.cut (l.take (min l.length 12)) = List.map RGr.cut (l.take 12)
    rw [Nat.min_comm]
    exact congrArg _ List.take_eq_take_min.symm
   have HL : Hid (((l.take k).map RGr.cut).length = k) := by rw [Hid, List.length_map, List.length_take]; omega
   obtain ⟨va, vc, rfl⟩ := owns_form hown
   have HO := Lib.hid hown
   clear hL hown
   have z0 := cCc hZ 0
   have z1 := cCc hZ 1
   have y0 := cCc hY 0
   have y1 := cCc hY 1
   have y2 := cFz hY 0
   have y3 := cFz hY 1
   simp at z0 z1 y0 y1
   clear HK
   have fin : ∀ tm : Array Value, tm[2]?.getD undef = .pointer (some ⟨w.heap.size + 1, 0, none⟩) → bodyPost Tryz.prog Tryz.f21 (fun e w' => ∃ v, e = Ending.returned v ∧ GrantsAt w.heap.size w'.heap.size w' v (few15 next l) ∧ Below w.heap.size w w') Exit.ret { tmps := tm, defers := [] } ((wr.setCell ⟨w.heap.size + 1, 0, none⟩ (.int .u64 next)).setCell ⟨w.heap.size + 1, 1, none⟩ (.slice va k vc)) := by
    intro tm ht
    have hf := set_cells2 (u := .int .u64 next) (v := .slice va k vc) hY
    have f0 := cCc hf 0
    have f1 := cCc hf 1
    simp at f0 f1
    have hq := ownsRow_setCell_below (ownsRow_setCell_below HO.out (a := ⟨w.heap.size + 1, 0, none⟩) (by show w.heap.size + 1 < _; omega) (.int .u64 next)) (a := ⟨w.heap.size + 1, 1, none⟩) (by show w.heap.size + 1 < _; omega) (.slice va k vc)
    have hsl := slAt_of_owns hq
    refine bodyPost_ret (v := .agg #[.int .u64 next, .slice va k vc]) (by simp [results, Tryz.f21, go_sem, f0, f1, ht]) rfl ⟨_, rfl, ⟨_, _, _, rfl, ?_, fun x h => by subst h; have := (HO.out.lt x.block rfl).1; omega⟩, (hB.setCell (p := ⟨w.heap.size + 1, 0, none⟩) (Nat.le_succ _) _).setCell (p := ⟨w.heap.size + 1, 1, none⟩) (Nat.le_succ _) _⟩
    unfold Grs
    rw [← hT.out, HL.out]
    exact hsl
   have FI := Lib.hid fin
   clear fin
   go_wp2_with fail
   all_goals exact FI.out _ rfl
end Go.Proofs.YthbhmnakmhambaaGreatDoor
namespace Go.Proofs.YthbhmnakmhambaaGreatDoor
open Go Go.ChangeShapes Go.WideShapes Go.ChangeAt Go.RowKit Go.Lib Go.Deep Go.Shelf
section
variable {H : Type} {enc : TypeId × Value → H} {w : World} {base : Nat} {spare : Nat → Bool} {held : Bool}
theorem grant_elem (n : Nat) (cs : List Value) (x : DataW H × List MemPlace) (h : DataW.trod enc Tryz.prog w base spare held n 89 cs = some x) : ∃ y : RGr, cs = y.enc := by
 obtain ⟨hl, m, hf⟩ := struct_cells Tryz.underlying89 (by kernel_rfl) (by kernel_rfl) h
 obtain ⟨v0, y0, e0, h0⟩ := hf 0 _ rfl
 obtain ⟨v1, y1, e1, h1⟩ := hf 1 _ rfl
 obtain ⟨v2, y2, e2, h2⟩ := hf 2 _ rfl
 obtain ⟨s0, c0, -, -⟩ := DataW.trod_int undU64 h0
 obtain ⟨s1, c1, -, -⟩ := DataW.trod_int undU64 h1
 obtain ⟨s2, c2, -, -⟩ := DataW.trod_string undStr h2
 match cs, hl with
 | [a, b, c], _ =>
  simp only [List.getElem?_cons_zero, List.getElem?_cons_succ, Option.some.injEq, List.cons.injEq, and_true] at e0 e1 e2 c0 c1 c2
  exact ⟨⟨s0, s1, s2⟩, by rw [e0, e1, e2, c0, c1, c2]; rfl⟩
set_option maxRecDepth 100000 in
theorem open_grants {r : Reach} {b0 : Nat} {v : Value} {d : DataW H} {p : List MemPlace} (hv : Value.okWide Tryz.prog w r b0 49 v) (h : DataW.Trod enc Tryz.prog w base spare held 49 v d p) :
  ∃ next a len cap l, v = .agg #[.int .u64 next, .slice a len cap] ∧ U64 next ∧ RGrs w.heap.size w (.slice a len cap) l := by
 obtain ⟨v0, v1, y0, y1, n, rfl, -, -, h0, h1⟩ := Joins.open_agg2 Tryz.underlying49 (by kernel_rfl) (by kernel_rfl) hv h
 obtain ⟨s0, c0, -, w0⟩ := DataW.trod_int undU64 h0
 simp only [List.cons.injEq, and_true] at c0
 subst c0
 obtain ⟨ts, hts, hcs⟩ := agg_cells Tryz.underlying49 hv
 have hts2 : Tryz.prog.cellTypes Tryz.prog.depth 49 = some [41, 47] := by kernel_rfl
 obtain rfl := Option.some.inj (hts.symm.trans hts2)
 obtain ⟨u, hu, hc⟩ := hcs 1 v1 rfl
 obtain rfl : u = 47 := by simpa using hu.symm
 have hv1 : Value.okWide Tryz.prog w r b0 47 v1 := by simpa only [Value.okWide, Tryz.underlying47] using hc
 obtain ⟨a, len, cap, rfl⟩ := okWide_slice Tryz.underlying47 hv1
 obtain ⟨l, hl⟩ := slAt_of_trod (encA := RGr.enc) (k := 3) (fun _ => rfl) Tryz.underlying47 (by kernel_rfl) grant_elem (fun a' e => slice_has (a := a') Tryz.underlying47 (by rw [← e]; exact hc)) h1
 refine ⟨s0, a, len, cap, l, rfl, ?_, hl⟩
 simp only [Lit.wf, IntKind.min, IntKind.max, IntKind.signed, IntKind.bits, Bool.and_eq_true] at w0
 exact ⟨by simpa using w0.1, by have := w0.2; simp at this; omega⟩
end
end Go.Proofs.YthbhmnakmhambaaGreatDoor

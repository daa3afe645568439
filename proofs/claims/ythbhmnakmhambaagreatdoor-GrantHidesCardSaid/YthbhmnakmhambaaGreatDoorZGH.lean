/- Package hist: done. Package hist: Add. Package hist: Lower. -/
import Derived.Test.YthbhmnakmhambaaGreatDoorZGE
namespace Go.Proofs.YthbhmnakmhambaaGreatDoor
open Go Go.RowKit Go.Shelf Go.Maps Go.Sort
theorem binAt_done : ∀ (l : List (Int × Int)) (p : Int), BinUp l → binAt (hiDone l) p = match binAt l p with
  | some x => if x = 0 then none else some x
  | none => none
 | [], p, _ => rfl
 | (q, m) :: t, p, h => by
  obtain ⟨h1, h2⟩ := binUp_tail h
  have ih := binAt_done t p h1
  have hno : q = p → binAt (hiDone t) p = none := fun e => binAt_none (fun c hc => by have := h2 c (List.mem_filter.1 hc).1; rw [← e]; exact this)
  rw [binAt_cons]
  unfold hiDone
  rw [List.filter_cons]
  by_cases hm : m = 0
  ·subst hm
   rw [if_neg (by simp)]
   by_cases hq : q = p
   ·rw [if_pos hq]; exact hno hq
   ·rw [if_neg hq]; exact ih
  ·rw [if_pos (by simpa using hm), binAt_cons]
   by_cases hq : q = p
   ·rw [if_pos hq, if_pos hq]; simp [hm]
   ·rw [if_neg hq, if_neg hq]; exact ih
theorem binAt_of : ∀ {l : List (Int × Int)} {p x : Int}, binAt l p = some x → p ∈ l.map Prod.fst
 | b :: t, p, x, h => by
  rw [binAt_cons] at h
  split at h
  ·rename_i e; simp [e]
  ·exact List.mem_cons_of_mem _ (binAt_of h)
theorem binAt_mem : ∀ {l : List (Int × Int)} {p : Int}, p ∈ l.map Prod.fst → binAt l p ≠ none
 | b :: t, p, h => by
  rw [binAt_cons]
  split
  ·simp
  ·rename_i hne
   rcases List.mem_cons.1 h with e | h
   ·exact absurd e.symm hne
   ·exact binAt_mem h
theorem binAt_get : ∀ {l : List (Int × Int)}, BinUp l → ∀ {b : Int × Int}, b ∈ l → binAt l b.1 = some b.2
 | c :: t, hu, b, h => by
  obtain ⟨h1, h2⟩ := binUp_tail hu
  rw [binAt_cons]
  rcases List.mem_cons.1 h with rfl | h
  ·simp
  ·have := h2 b h
   rw [if_neg (by omega)]
   exact binAt_get h1 h
def Swept (l : List (Int × Int)) (left : Lit → Bool) (D : DataW Unit) : Prop := ∀ p z, D.atKey (.int .i64 p) z = match binAt l p with
 | some x => if x = 0 ∧ left (.int .i64 p) = false then z else .lit (.int .u64 x)
 | none => z
theorem swept_start {l : List (Int × Int)} {D : DataW Unit} (h : ∀ p z, D.atKey (.int .i64 p) z = match binAt l p with
 | some x => .lit (.int .u64 x)
 | none => z) : Swept l (Maps.has D) D := fun p z => by
 have h1 := h p
 rw [h1 z]
 cases hb : binAt l p with
 | none => rfl
 | some x =>
  rw [hb] at h1
  have := has_true_of_atKey (k := .int .i64 p) h1
  simp [this]
theorem swept_val {l : List (Int × Int)} {left : Lit → Bool} {D : DataW Unit} {x c : Int} (h : Swept l left D) (hat : ∀ zd, D.atKey (.int .i64 x) zd = .lit (.int .u64 c)) : binAt l x = some c := by
 have h1 := (h x (.lit (.bool true))).symm.trans (hat _)
 cases hb : binAt l x with
 | none => rw [hb] at h1; simp at h1
 | some v =>
  rw [hb] at h1
  simp only at h1
  split at h1
  ·simp at h1
  ·simp at h1; rw [h1]
theorem sameKey_int (q x : Int) : (Lit.int .i64 q).sameKey (.int .i64 x) = decide (q = x) := by
 by_cases h : q = x
 ·subst h; rw [WideAt.sameKey_self (a := .int .i64 q) trivial]; simp
 ·rw [sameKey_ne (by simpa using h)]; simp [h]
theorem swept_struck {l : List (Int × Int)} {left : Lit → Bool} {D : DataW Unit} {x : Int} (h : Swept l left D) (hat : ∀ zd, D.atKey (.int .i64 x) zd = .lit (.int .u64 0)) : Swept l (fun z => left z && !z.sameKey (.int .i64 x)) (D.del (.int .i64 x)) := fun q z => by
 have hv := swept_val h hat
 by_cases hq : q = x
 ·subst hq
  rw [atKey_del_same, hv]
  simp [sameKey_int]
 ·rw [atKey_del_other (by simpa using hq), h q z]
  simp [sameKey_int, hq]
theorem swept_stays {l : List (Int × Int)} {left : Lit → Bool} {D : DataW Unit} {x c : Int} (h : Swept l left D) (hc : c ≠ 0) (hat : ∀ zd, D.atKey (.int .i64 x) zd = .lit (.int .u64 c)) : Swept l (fun z => left z && !z.sameKey (.int .i64 x)) D := fun q z => by
 have hv := swept_val h hat
 rw [h q z]
 by_cases hq : q = x
 ·subst hq
  rw [hv]
  simp [hc]
 ·simp [sameKey_int, hq]
theorem swept_end {l : List (Int × Int)} {left : Lit → Bool} {D : DataW Unit} (hu : BinUp l) (h : Swept l left D) (hl : ∀ k, left k = false) : ∀ p z, D.atKey (.int .i64 p) z = match binAt (hiDone l) p with
 | some x => .lit (.int .u64 x)
 | none => z := fun p z => by
 rw [h p z, binAt_done l p hu]
 cases binAt l p with
 | none => rfl
 | some x =>
  by_cases hx : x = 0
  ·simp [hx, hl]
  ·simp [hx]
theorem done_keys {w : World} {b nn : Nat} {D : DataW Unit} {l : List (Int × Int)} (hown : w.ownsMap Tryz.prog 3 (plainElem Tryz.prog 41) b nn D) (hu : BinUp l) (hE : ∀ p z, D.atKey (.int .i64 p) z = match binAt l p with
  | some x => .lit (.int .u64 x)
  | none => z) {ss : List Int} (h : ss.Perm (intKeys D)) : ss.mergeSort (fun x y => decide (x ≤ y)) = l.map Prod.fst := by
 obtain ⟨es, hD, hpw, _⟩ := hown.entries lawI
 obtain ⟨es', hD', hko⟩ := hown.keysOf
 obtain rfl : es = es' := by rw [hD] at hD'; simpa using hD'
 subst hD
 have hup : (l.map Prod.fst).Pairwise (· < ·) := List.pairwise_map.2 hu
 have hp := perm_intKeys hpw (fun p hp => by obtain ⟨v, hv⟩ := hko p hp; obtain ⟨x, _, hx, _⟩ := Maps.keyOf_i64 Tryz.underlying3 hv; exact ⟨x, hx⟩) (ss := l.map Prod.fst) (hup.imp (fun {a b} h => by omega)) (fun x => by
  cases hb : binAt l x with
  | none =>
   have h1 : ∀ z, (DataW.map es).atKey (.int .i64 x) z = z := fun z => by rw [hE x z, hb]
   rw [has_false_of_atKey h1]
   refine ⟨fun hx => ?_, fun h => by simp at h⟩
   exact absurd hb (binAt_mem hx)
  | some y =>
   have h1 : ∀ z, (DataW.map es).atKey (.int .i64 x) z = .lit (.int .u64 y) := fun z => by rw [hE x z, hb]
   rw [has_true_of_atKey h1]
   exact ⟨fun _ => rfl, fun _ => binAt_of hb⟩)
 rw [show (fun x y : Int => decide (x ≤ y)) = leI from rfl, mergeSort_of_perm_i (h.trans hp.symm)]
 exact List.mergeSort_of_pairwise (hup.imp (fun {a b} h => by simp; omega))
theorem gb_below {A B C : World} {row : Option Nat} (h : A.grownBy B row) (hb : Below A.heap.size B C) : A.grownBy C row := ⟨hb.os.trans h.os, hb.tape.trans h.tape, hb.output.trans h.output, Nat.le_trans h.size hb.size, fun k hk hne => (hb.block k hk).trans (h.block k hk hne)⟩
theorem meas_succ {k n : Nat} (h : k < n) : n - (k + 1) < n - k := by omega
theorem slC_of_owns_set {α : Type} {enc : α → List Value} {w : World} {base e size : Nat} {v : Value} {l : List α} (hk : ∀ x, (enc x).length = size) (h : w.ownsRow base e size v l.length (l.flatMap enc)) {b : Nat} (hb : b < base) (u z : Value) :
  ∃ a cap, v = .slice a l.length cap ∧ SlC enc size ((w.setCell ⟨b, 0, none⟩ u).setCell ⟨b, 1, none⟩ z).heap.size ((w.setCell ⟨b, 0, none⟩ u).setCell ⟨b, 1, none⟩ z) a l.length cap l ∧ ∀ x, a = some x → base ≤ x.block :=
 slC_of_owns hk (ownsRow_setCell_below (ownsRow_setCell_below h (a := ⟨b, 0, none⟩) hb u) (a := ⟨b, 1, none⟩) hb z)
abbrev encI : Int → List Value := fun x => [encZ x]
theorem flat_encI : ∀ l : List Int, l.flatMap encI = l.map encZ
 | [] => rfl
 | x :: t => by rw [List.flatMap_cons, flat_encI t]; rfl
theorem int_cell {n₀ : Nat} {w : World} {a : Option Addr} {len : Nat} {l : List Int} (h : SlE encI 1 n₀ w a len l) {j : Nat} (hj : j < len) : ∃ x b off, l[j]? = some x ∧ a = some ⟨b, off, none⟩ ∧ b < n₀ ∧ w.cell? ⟨b, off + j, none⟩ = some (.int .i64 x) := by
 obtain ⟨x, b, off, hx, e, hb, hc⟩ := h.at hj
 have := hc 0 (by omega)
 rw [Nat.mul_one, Nat.add_zero] at this
 exact ⟨x, b, off, hx, e, hb, this⟩
attribute [-go_sem] Builtin.append_
theorem sorted_done (b nn : Nat) (D : DataW Unit) (w : World) (l : List (Int × Int)) (hown : w.ownsMap Tryz.prog 3 (plainElem Tryz.prog 41) b nn D) (hs : Maps.size D ≤ 100000) (hu : BinUp l) (hE : ∀ p z, D.atKey (.int .i64 p) z = match binAt l p with
  | some x => .lit (.int .u64 x)
  | none => z) :
  Calls Tryz.prog 252 #[.func (.func 256) #[] #[.pointer (some ⟨w.heap.size, 0, none⟩)]] (w.alloc (.cells #[.map (some b)] 342)) fun e w' => ∃ a5 c5, e = .returned (.slice a5 l.length c5) ∧
   SlC encI 1 w'.heap.size w' a5 l.length c5 (l.map Prod.fst) ∧ (∀ x, a5 = some x → w.heap.size ≤ x.block) ∧ Below w.heap.size w w' := by
 refine (sorted_any b nn D w hown hs).mono ?_
 rintro e w5 ⟨v5, ss, rfl, hperm, hrow, hnil, hb5⟩
 have hk := done_keys hown hu hE hperm
 have hlss : ss.length = l.length := by have := congrArg List.length hk; simpa using this
 rw [hk, hlss] at hrow
 obtain ⟨a5, c5, rfl, hs5, hb5'⟩ := slC_of_owns (enc := encI) (l := l.map Prod.fst) (fun _ => rfl) (by rw [List.length_map]; rw [flat_encI]; exact hrow)
 rw [List.length_map] at hs5 ⊢
 exact ⟨a5, c5, rfl, hs5, hb5', hb5⟩
set_option maxRecDepth 100000 in
set_option maxHeartbeats 2000000 in
theorem hdone9_any (b K : Nat) (f : Int) (l : List (Int × Int)) (w : World) (hm : MapIs w b K l) (hu : BinUp l) (hb : BinsU l) (hi : ∀ c ∈ l, I64 c.1) (hlen : l.length ≤ 5000) (hK : K ≤ 5000) :
  Calls Tryz.prog 249 #[.agg #[.map (some b), .int .i64 f]] w fun e w' => ∃ a len cap, e = .returned (.agg #[.int .i64 f, .slice a len cap]) ∧ SlC encB 2 w'.heap.size w' a len cap (hiDone l) ∧ (∀ x, a = some x → w.heap.size ≤ x.block) ∧ w.grownBy w' (some b) := by
 obtain ⟨W1, hW1, hX1, hR1, hB1, hs1⟩ := boxes2 w #[.map (some b), .int .i64 f] 344 #[.int .i64 0, .slice none 0 0] 37
 obtain ⟨nn, D0, hown0, hnn, hD0⟩ := hm
 have hbl := hown0.lt
 have hown : W1.ownsMap Tryz.prog 3 (plainElem Tryz.prog 41) b nn D0 := hown0.kept (below_gb hB1 none) (by simp)
 obtain ⟨c0, c1⟩ := cl2 hX1
 go_enter Tryz.func249, Tryz.ntmps249
 go_wp2_with (first
  | (at_range; refine wpList_range_own _ rfl _ 342 rfl 3 41 lawI und_counts _ b nn _ rfl hown ?_; intro w0 hrg0 hg0 hs0)
  | go_in)
 go_frame
 have hz0 : w0.heap.size = w.heap.size + 3 := by rw [hs0, hs1]
 rw [hs1] at hrg0 ⊢
 have HZ0 : Hid (w0.heap.size = w.heap.size + 3) := hz0
 have HS1 : Hid (W1.heap.size = w.heap.size + 2) := hs1
 have HX1 := Lib.hid hX1
 have HR1 := Lib.hid hR1
 have HB1 := Lib.hid hB1
 clear hs0 hs1 hz0 hX1 hR1 hB1
 go_loopw [3, 4] (fun _ _ wr => ∃ (left : Lit → Bool) (cnt : Nat) (D : DataW Unit), wr.ranges Tryz.prog 3 (plainElem Tryz.prog 41) b (w.heap.size + 2) nn D left cnt ∧ Swept l left D ∧ W1.grownBy wr (some b))
  (fun _ _ wr => wr.rangeLeft b (w.heap.size + 2))
 case atStart => exact ⟨_, _, _, hrg0, swept_start hD0, hg0.but _⟩
 case round =>
  obtain ⟨left, cnt, D, hrg, hS, hgw⟩ := hrel
  have hXr := (hgw.block w.heap.size (by have := HS1.out; omega) (fun e => by have := Option.some.inj e; omega)).trans HX1.out
  have hRr := (hgw.block (w.heap.size + 1) (by have := HS1.out; omega) (fun e => by have := Option.some.inj e; omega)).trans HR1.out
  have HRr := Lib.hid hRr
  have HXr := Lib.hid hXr
  have HS := Lib.hid hS
  have HGW := Lib.hid hgw
  clear hXr hRr hS hgw
  go_wp2_with (first
   | (at_next; refine wpList_next_ranges_ii _ rfl _ rfl 3 41 .i64 .u64 lawI Tryz.underlying3 Tryz.underlying41 b (w.heap.size + 2) nn _ _ _ rfl hrg ?_ ?_)
   | go_in)
  ·intro _ hl0
   have hE := swept_end hu HS.out hl0
   have hown2 := hrg.owns
   obtain ⟨u0, u1⟩ := cl2 HXr.out
   obtain ⟨W2, hW2, hX2, hB2, hs2⟩ := boxes1 wr #[.int .i64 f, .slice none 0 0] 37
   have hown3 : W2.ownsMap Tryz.prog 3 (plainElem Tryz.prog 41) b nn D := hown2.kept (below_gb hB2 none) (by simp)
   have hXw2 := known hB2 (Nat.le_refl _) HXr.out
   have hX3 : (W2.setCell ⟨wr.heap.size, 1, none⟩ (.slice none 0 0)).heap[wr.heap.size]? = some (.cells #[.int .i64 f, .slice none 0 0] 37 (0, 0)) := hSk hX2 (.slice none 0 0)
   have hX3w := (Below.heap_setCell W2 ⟨wr.heap.size, 1, none⟩ (.slice none 0 0) w.heap.size (by have := (Array.getElem?_eq_some_iff.1 HXr.out).1; simp; omega)).trans hXw2
   have hown4 := hown3.kept (gb_set W2 wr.heap.size 1 (.slice none 0 0)) (by have := hown2.lt; simp; omega)
   have hB3 := hB2.setCell (p := ⟨wr.heap.size, 1, none⟩) (Nat.le_refl _) (.slice none 0 0)
   obtain ⟨v0, v1⟩ := cl2 hXw2
   obtain ⟨x0, x1⟩ := cl2 hX2
   obtain ⟨y0, y1⟩ := cz2 hX2
   obtain ⟨W3, hW3⟩ : ∃ W3, W2.setCell ⟨wr.heap.size, 1, none⟩ (.slice none 0 0) = W3 := ⟨_, rfl⟩
   rw [hW3] at hX3 hX3w hown4 hB3
   have hs3 : W3.heap.size = wr.heap.size + 1 := by rw [← hW3]; simpa using hs2
   have HSO := Lib.hid (sorted_done b nn D W3 (hiDone l) hown4 (by have := hown4.size_le; omega) (hiDone_up hu) hE)
   have HX3 := Lib.hid hX3
   have HXW3 := Lib.hid hX3w
   have HB3 := Lib.hid hB3
   have HS3 := Lib.hid hs3
   have HM3 : Hid (MapIs W3 b nn (hiDone l)) := ⟨nn, D, hown4, Nat.le_refl _, hE⟩
   have HL : Hid (BinUp (hiDone l) ∧ BinsU (hiDone l) ∧ (∀ c ∈ hiDone l, I64 c.1) ∧ (hiDone l).length ≤ 5000) := ⟨hiDone_up hu, hiDone_u64 hb, fun c hc => hi c (List.mem_filter.1 hc).1, Nat.le_trans (hiDone_len l) hlen⟩
   obtain ⟨L, hLe⟩ : ∃ L, hiDone l = L := ⟨_, rfl⟩
   have HLe := Lib.hid hLe
   rw [hLe] at HM3 HSO HL hE
   clear hLe
   obtain ⟨z0, z1⟩ := cl2 hX3w
   clear hrg hXw2 hX2 u0 hX3 hX3w hB3 hs3 hown4 hown3 hown2 hB2
   go_wp2_with (first | (go_at_call 253; refine (keys_any _ _).mono ?_; rintro e w' ⟨rfl, rfl⟩) | (go_at_call 252; refine HSO.out.mono ?_; rintro e w5 ⟨a5, c5, rfl, hs5, hb5', hb5⟩) | fail)
   obtain ⟨X, hX⟩ : ∃ X, wr.heap.size = X := ⟨_, rfl⟩
   have HX := Lib.hid hX
   rw [hX] at HX3 HS3 HB3 ⊢
   have HS5 := Lib.hid hs5
   have HB5 := Lib.hid hb5
   have HB5' := Lib.hid hb5'
   have hx5 := known hb5 (Nat.le_refl _) HX3.out
   have hy5 := known hb5 (Nat.le_refl _) HXW3.out
   have HXW5 := Lib.hid hy5
   have HM5 : Hid (MapIs w5 b nn L) := HM3.out.kept (below_gb hb5 none) (by simp)
   have hz5 : W3.heap.size ≤ w5.heap.size := hb5.size
   have HR5 : Hid (w5.heap[w.heap.size + 1]? = some (.cells #[.int .i64 0, .slice none 0 0] 37 (0, 0))) := known hb5 (Nat.le_refl _) (known HB3.out (by omega) HRr.out)
   have HG5 : Hid (w.grownBy w5 (some b)) := ((below_gb HB1.out (some b)).trans (gb_below (gb_below HGW.out (HB3.out.mono (by rw [← hX]; exact HGW.out.size))) (hb5.mono (by have := HGW.out.size; have := HS3.out; omega))))
   have HZ5 := Lib.hid hz5
   clear hy5 hs5 hb5 hb5' HXr HS HGW HSO HXW3 HM3 hX u1 v0 v1 x0 x1 y0 y1 z0 z1 hE hl0 hs2 hW2 hW3 hz5
   go_loopw [7, 29] (fun _ i wk => ∃ (k : Nat) (v : Value), k ≤ L.length ∧ i = .int .i64 k ∧ wk.heap[X]? = some (.cells #[.int .i64 f, v] 37 (0, 0)) ∧ wk.ownsRow w5.heap.size 137 2 v k ((L.take k).flatMap encB) ∧ w5.grownBy wk (some X)) (fun _ i _ => L.length - (intOf i).toNat)
   case atStart => exact ⟨0, _, Nat.zero_le _, rfl, hx5, ⟨rfl, Or.inl ⟨rfl, rfl⟩⟩, World.grownBy.refl _ _⟩
   case round =>
    obtain ⟨k, v, hk, rfl, hXk, hrow, hG⟩ := hrel
    have hXb : X < w5.heap.size := (Array.getElem?_eq_some_iff.1 hx5).1
    have hwX : w.heap.size < X := by have := HX.out; have := (Array.getElem?_eq_some_iff.1 HXW5.out).1; have := HB3.out.size; have := (Array.getElem?_eq_some_iff.1 HRr.out).1; omega
    have hXw := (hG.block _ (Array.getElem?_eq_some_iff.1 HXW5.out).1 (fun e => by have := Option.some.inj e; omega)).trans HXW5.out
    have hGs := hG.size
    by_cases hlt : k < L.length
    ·obtain ⟨y, hy⟩ : ∃ y, L[k]? = some y := ⟨_, List.getElem?_eq_getElem hlt⟩
     obtain ⟨x, b5, o5, hx, rfl, hb5, hc5⟩ := int_cell HS5.out.1 hlt
     obtain rfl : x = y.1 := by rw [List.getElem?_map, hy] at hx; simpa using hx.symm
     have hb3 : W3.heap.size ≤ b5 := HB5'.out _ rfl
     have hbX : b5 ≠ X := by have := HS3.out; omega
     have hck : wr.cell? ⟨b5, o5 + k, none⟩ = some (.int .i64 y.1) := by rw [← hc5]; exact World.cell?_of_block (hG.block _ hb5 (fun e => hbX (Option.some.inj e)))
     have hmk : MapIs wr b nn L := HM5.out.kept hG (by simp; omega)
     have hget : binGet L y.1 = y.2 := by unfold binGet; rw [binAt_get HL.out.1 (List.mem_of_getElem? hy)]; rfl
     have hy1 : I64 y.1 := HL.out.2.2.1 y (List.mem_of_getElem? hy)
     have hlk := hmk.look hy1
     rw [hget] at hlk
     obtain ⟨g, cap, w1, hap, hrow1, hB1, hz1, hbl1, hoth1⟩ := append_one Tryz.prog 35 und_bin info_bin rfl (by decide) hrow (Below.refl w5.heap.size wr) (Nat.le_refl _) hGs (encB y) rfl (one_bin y) (by have := HL.out.2.2.2; omega) (by decide)
     obtain ⟨p0, p1⟩ := cl2 hXw
     obtain ⟨q0, q1⟩ := cl2 hXk
     obtain ⟨r0, r1⟩ := cz2 hXk
     rw [show (encB y).toArray = #[.int .i64 y.1, .int .u64 y.2] from rfl] at hap
     have hX1k := (hbl1 X hXb).trans hXk
     obtain ⟨s0, s1⟩ := cl2 hX1k
     obtain ⟨t0, t1⟩ := cz2 hX1k
     have hX2k : (w1.setCell ⟨X, 1, none⟩ (.slice (some ⟨g, 0, none⟩) (k + 1) cap)).heap[X]? = some (.cells #[.int .i64 f, .slice (some ⟨g, 0, none⟩) (k + 1) cap] 37 (0, 0)) := hSk hX1k _
     have hrow2 := ownsRow_setCell_below hrow1 (a := ⟨X, 1, none⟩) hXb (.slice (some ⟨g, 0, none⟩) (k + 1) cap)
     have hG2 : w5.grownBy (w1.setCell ⟨X, 1, none⟩ (.slice (some ⟨g, 0, none⟩) (k + 1) cap)) (some X) := (gb_below hG hB1).trans (gb_set _ _ _ _)
     clear hbl1 hoth1 hrow1 hrow hXk hX1k hB1
     have hL5 : L.length ≤ 5000 := HL.out.2.2.2
     go_wp2_with fail
     go_roundw
     case rel => exact ⟨k + 1, _, hlt, by simp, hX2k, by rw [take_snoc' hy, List.flatMap_append]; simpa using hrow2, hG2⟩
     case measure => simp [intOf]; exact meas_succ hlt
    ·obtain rfl : k = L.length := by omega
     rw [List.take_length] at hrow
     have hbase : w.heap.size + 1 < w5.heap.size := (Array.getElem?_eq_some_iff.1 HR5.out).1
     obtain ⟨a, cap, rfl, hab⟩ : ∃ a cap, v = .slice a L.length cap ∧ ∀ x, a = some x → w5.heap.size ≤ x.block := by
      obtain ⟨a, cap, h1, h2, h3⟩ := slC_of_owns (enc := encB) (fun _ => rfl) hrow
      exact ⟨a, cap, h1, h3⟩
     have hSl : SlC encB 2 ((wr.setCell ⟨w.heap.size + 1, 0, none⟩ (.int .i64 f)).setCell ⟨w.heap.size + 1, 1, none⟩ (.slice a L.length cap)).heap.size ((wr.setCell ⟨w.heap.size + 1, 0, none⟩ (.int .i64 f)).setCell ⟨w.heap.size + 1, 1, none⟩ (.slice a L.length cap)) a L.length cap L := by
      obtain ⟨a', cap', h1, h2, h3⟩ := slC_of_owns_set (enc := encB) (fun _ => rfl) hrow hbase (.int .i64 f) (.slice a L.length cap)
      cases h1
      exact h2
     have hR := (hG.block _ (Array.getElem?_eq_some_iff.1 HR5.out).1 (fun e => by have := Option.some.inj e; have := HX.out; have := (Array.getElem?_eq_some_iff.1 HRr.out).1; omega)).trans HR5.out
     obtain ⟨s0, s1⟩ := cl2 hXk
     obtain ⟨o0, o1⟩ := cl2 hR
     obtain ⟨m0, m1⟩ := cz2 hR
     have hX6 := set_cells2 (u := .int .i64 f) (v := .slice a L.length cap) hR
     have HSl := Lib.hid hSl
     have Hab := Lib.hid hab
     clear hrow hSl hab hR
     go_wp2_with fail
     have hG6 : w.grownBy ((wr.setCell ⟨w.heap.size + 1, 0, none⟩ (.int .i64 f)).setCell ⟨w.heap.size + 1, 1, none⟩ (.slice a L.length cap)) (some b) := ((HG5.out.andThen hG (fun j hj => Or.inl (by have := Option.some.inj hj; omega))).andThen (gb_set _ _ _ _) (fun j hj => Or.inl (by have := Option.some.inj hj; omega))).andThen (gb_set _ _ _ _) (fun j hj => Or.inl (by have := Option.some.inj hj; omega))
     have hS6 := HSl.out
     generalize (wr.setCell ⟨w.heap.size + 1, 0, none⟩ (.int .i64 f)).setCell ⟨w.heap.size + 1, 1, none⟩ (.slice a L.length cap) = V at hX6 hG6 hS6 ⊢
     obtain ⟨j0, j1⟩ := cl2 hX6
     exact bodyPost_ret (v := .agg #[.int .i64 f, .slice a L.length cap]) (by simp [results, Tryz.f249, go_sem, j0, j1]) rfl ⟨a, L.length, cap, rfl, by rw [HLe.out]; exact hS6, (fun x hx => by have := Hab.out x hx; omega), hG6⟩
  ·intro x c w1 cnt1 hwx hwc hlx hat hrg1 hlt hg1 hs1 hen
   have hgw1 : W1.grownBy w1 (some b) := HGW.out.andThen hg1 (fun j hj => by obtain rfl := Option.some.inj hj; exact Or.inl (by have := HS1.out; omega))
   have hXw1 := (hg1.block _ (Array.getElem?_eq_some_iff.1 HXr.out).1 (fun e => by have := Option.some.inj e; omega)).trans HXr.out
   have q0 : w1.cell? ⟨w.heap.size, 0, none⟩ = some (.map (some b)) := cCc hXw1 0
   have HGW1 := Lib.hid hgw1
   clear hgw1 hXw1
   go_wp2_with (first
    | (at_delete; refine wpList_delete_ranges _ rfl _ _ 342 3 rfl 41 lawI und_counts _ b (w.heap.size + 2) nn _ _ _ rfl hrg1 _ _ rfl (keyOf_int_mk Tryz.underlying3 hwx) ?_; intro w2 cnt2 hrg2 hle hturn; go_frame)
    | go_in)
   ·have hc0 : c = 0 := by simpa using (by assumption : (c == 0) = true)
    subst hc0
    rw [strike_twice] at hrg2
    go_roundw
    case rel => exact ⟨_, cnt2, _, hrg2, swept_struck HS.out hat, HGW1.out.andThen hturn.grown (fun j hj => by cases hj; exact Or.inr rfl)⟩
    case measure => rw [hrg2.left_eq, hrg.left_eq]; omega
   ·have hc0 : c ≠ 0 := by simpa using (by assumption : (c == 0) = false)
    go_roundw
    case rel => exact ⟨_, cnt1, _, hrg1, swept_stays HS.out hc0 hat, HGW1.out⟩
    case measure => rw [hrg1.left_eq, hrg.left_eq]; exact hlt
end Go.Proofs.YthbhmnakmhambaaGreatDoor
namespace Go.Proofs.YthbhmnakmhambaaGreatDoor
open Go Go.RowKit Go.Shelf Go.Maps Go.Sort
theorem slC_block {α : Type} {enc : α → List Value} {k n : Nat} {w V : World} {a : Option Addr} {len cap : Nat} {l : List α} (h : SlC enc k n w a len cap l) (hk : ∀ x, a = some x → V.heap[x.block]? = w.heap[x.block]?) : SlC enc k n V a len cap l :=
 ⟨⟨h.1.1, fun j x hx => by
  obtain ⟨b, off, e, hb, hc⟩ := h.1.2 j x hx
  exact ⟨b, off, e, hb, fun i hi => (World.cell?_of_block (show V.heap[b]? = w.heap[b]? from hk _ e)).trans (hc i hi)⟩⟩, h.2⟩
def HistOut (n : Nat) (w w7 : World) (a : Option Addr) (len cap : Nat) (f : Int) (l : List (Int × Int)) : Prop :=
 ((w7.setCell ⟨n + 1, 0, none⟩ (.int .i64 f)).setCell ⟨n + 1, 1, none⟩ (.slice a len cap)).heap[n + 1]? = some (.cells #[.int .i64 f, .slice a len cap] 37 (0, 0)) ∧
 SlC encB 2 ((w7.setCell ⟨n + 1, 0, none⟩ (.int .i64 f)).setCell ⟨n + 1, 1, none⟩ (.slice a len cap)).heap.size ((w7.setCell ⟨n + 1, 0, none⟩ (.int .i64 f)).setCell ⟨n + 1, 1, none⟩ (.slice a len cap)) a len cap l ∧
 Below n w ((w7.setCell ⟨n + 1, 0, none⟩ (.int .i64 f)).setCell ⟨n + 1, 1, none⟩ (.slice a len cap))
theorem hist_out {w w6 w7 : World} {b : Nat} {a : Option Addr} {len cap : Nat} {f : Int} {l : List (Int × Int)} (hbn : w.heap.size + 1 < b) (hR6 : w6.heap[w.heap.size + 1]? = some (.cells #[.int .i64 0, .slice none 0 0] 37 (0, 0))) (hB6 : Below w.heap.size w w6) (hS7 : SlC encB 2 w7.heap.size w7 a len cap l) (ha7 : ∀ x, a = some x → w6.heap.size ≤ x.block) (hg7 : w6.grownBy w7 (some b)) :
  w7.heap[w.heap.size + 1]? = some (.cells #[.int .i64 0, .slice none 0 0] 37 (0, 0)) ∧ HistOut w.heap.size w w7 a len cap f l := by
 have hl := (Array.getElem?_eq_some_iff.1 hR6).1
 have hR7 := (hg7.block _ hl (fun e => by cases e; omega)).trans hR6
 refine ⟨hR7, set_cells2 hR7, ?_, ?_⟩
 ·have hsz : ((w7.setCell ⟨w.heap.size + 1, 0, none⟩ (.int .i64 f)).setCell ⟨w.heap.size + 1, 1, none⟩ (.slice a len cap)).heap.size = w7.heap.size := by simp
  rw [hsz]
  refine slC_block hS7 fun x hx => ?_
  have := ha7 x hx
  exact (Below.heap_setCell _ _ _ _ (fun e => by simp at e; omega)).trans (Below.heap_setCell _ _ _ _ (fun e => by simp at e; omega))
 ·have hB7 : Below w.heap.size w w7 := hB6.grown hg7 hB6.size (fun k e => by cases e; omega)
  exact (hB7.setCell (p := ⟨w.heap.size + 1, 0, none⟩) (Nat.le_succ _) _).setCell (p := ⟨w.heap.size + 1, 1, none⟩) (Nat.le_succ _) _
end Go.Proofs.YthbhmnakmhambaaGreatDoor
namespace Go.Proofs.YthbhmnakmhambaaGreatDoor
open Go Go.RowKit Go.Shelf Go.Maps Go.Sort
theorem puts_snoc (l : List (Int × Int)) (a : List (Int × Int)) (c : Int × Int) : hiPuts a (l ++ [c]) = binPut (hiPuts a l) c.1 c.2 := by simp [hiPuts]
theorem take_ups (l : List (Int × Int)) (k : Nat) : BinUp (hiPuts [] ((l.take k).map fun b => (hiHalf b.1, b.2))) := hiPuts_up _ [] List.Pairwise.nil
theorem half_fin (l : List (Int × Int)) (f : Nat) (hf : f ≤ 3) (hbd : ∀ b ∈ l, boundsB f b.1 = true) (hbu : BinsU l) : BinsU (hiPuts [] (l.map fun b => (hiHalf b.1, b.2))) ∧ ∀ c ∈ hiPuts [] (l.map fun b => (hiHalf b.1, b.2)), I64 c.1 := by
 refine ⟨hiPuts_u64 _ [] (fun b hb => by cases hb) (fun c hc => by obtain ⟨d, hd, rfl⟩ := List.mem_map.1 hc; exact hbu d hd), fun c hc => ?_⟩
 rcases hiPuts_mem _ [] c hc with hd | ⟨d, hd, e⟩ | ⟨d, hd, e⟩
 ·cases hd
 ·cases hd
 ·obtain ⟨x, hx, rfl⟩ := List.mem_map.1 hd
  rw [e]
  have := bounds_le f hf x.1 (hbd x hx)
  unfold hiHalf I64
  show _ ∧ _
  split <;> omega
set_option maxRecDepth 100000 in
set_option maxHeartbeats 4000000 in
theorem hiLower_any (f : Nat) (l : List (Int × Int)) (a : Option Addr) (len cap : Nat) (w : World) (h1 : 1 ≤ f) (hf : f ≤ 3) (hL : SlE encB 2 w.heap.size w a len l) (hr : hiRight f l = true) (hbd : ∀ b ∈ l, boundsB f b.1 = true) (hbu : BinsU l) (hlen : len ≤ 1000) :
  Calls Tryz.prog 243 #[.agg #[.int .i64 f, .slice a len cap]] w fun e w' => ∃ a' len' cap', e = .returned (.tuple #[.agg #[.int .i64 ((f : Int) - 1), .slice a' len' cap'], .int .i64 0]) ∧ SlC encB 2 w'.heap.size w' a' len' cap' (hiLow l) ∧ Below w.heap.size w w' := by
 have HLL := Lib.hid hL.1
 have hp : ∀ b ∈ l, I64 b.1 := fun b hb => by have := bounds_le f hf b.1 (hbd b hb); unfold I64; omega
 obtain ⟨W0, hW0, hXp, hX0, hB0, hs0⟩ := boxes2 w #[.int .i64 f, .slice a len cap] 37 #[.int .i64 0, .slice none 0 0] 37
 have HRt := Lib.hid (hist_Right_any f l a len cap W0 ((hL.below hB0).mono hB0.size) (by unfold maxLen; omega) (fun b hb => (hp b hb).2))
 rw [hr] at HRt
 obtain ⟨z0, z1⟩ := cl2 hXp
 have HX0 := Lib.hid hX0
 have HXP := Lib.hid hXp
 have HB0 := Lib.hid hB0
 have HL := Lib.hid hL
 have hw1 : wrap64 ((f : Int) - 1) = (f : Int) - 1 := by unfold wrap64; omega
 have hw2 : IntKind.i64.wrap ((f : Int) - 1) = (f : Int) - 1 := IntWalk.i64_in _ (by omega)
 have HBl : Hid (∀ w1, Calls Tryz.prog 245 #[.int .i64 ((f : Int) - 1)] w1 fun e w' => ∃ b, e = .returned (.tuple #[.agg #[.map (some b), .int .i64 ((f : Int) - 1)], .nilIface]) ∧ MapIs w' b 0 [] ∧ w1.heap.size ≤ b ∧ Below w1.heap.size w1 w') := fun w1 => by
  have := hblank_any (f - 1) w1 (by omega)
  rwa [show ((f - 1 : Nat) : Int) = (f : Int) - 1 by omega] at this
 clear hL hr hX0 hB0 hXp
 go_enter Tryz.func243, Tryz.ntmps243
 go_wp2_with fail
 refine HRt.out.mono ?_
 rintro e w1 ⟨rfl, hb1⟩
 have hXp1 := known hb1 (Nat.le_refl _) HXP.out
 obtain ⟨y0, y1⟩ := cl2 hXp1
 have HXP1 := Lib.hid hXp1
 clear hXp1
 go_wp2_with fail
 refine (HBl.out _).mono ?_
 rintro e w2 ⟨b, rfl, hm2, hb2, hB2⟩
 obtain ⟨W3, hW3, hX3, hB3, hs3⟩ := boxes1 w2 #[.map (some b), .int .i64 ((f : Int) - 1)] 344
 have hB2s := hB2.size
 have hXp3 := known (hB2.trans (hB3.mono hB2s)) (Nat.le_refl _) HXP1.out
 have hXr3 := known (hB2.trans (hB3.mono hB2s)) (Nat.le_refl _) (known hb1 (Nat.le_refl _) HX0.out)
 have hM3 : MapIs W3 b 0 [] := hm2.kept (below_gb hB3 none) (by simp)
 have hb1s := hb1.size
 have hB03 : Below w.heap.size w W3 := (HB0.out.trans (hb1.mono HB0.out.size)).trans ((hB2.mono (by omega)).trans (hB3.mono (by omega)))
 have HX3 := Lib.hid hX3
 have HXR := Lib.hid hXr3
 have HXP3 := Lib.hid hXp3
 have HB03 := Lib.hid hB03
 have hbl := hm2.lt
 obtain ⟨x0, x1⟩ := cl2 hX3
 obtain ⟨q0, q1⟩ := cl2 hXp3
 clear hX3 hXr3 hXp3 hm2 hB2 hB3 hb1 hB03
 go_wp2_with fail
 go_loopw [7, 8, 9, 10, 30] (fun _ _ _ _ i wr => ∃ k : Nat, k ≤ len ∧ i = .int .i64 k ∧ MapIs wr b k (hiPuts [] ((l.take k).map fun b => (hiHalf b.1, b.2))) ∧ W3.grownBy wr (some b)) (fun _ _ _ _ i _ => len - (intOf i).toNat)
 case atStart => exact ⟨0, Nat.zero_le _, rfl, hM3, World.grownBy.refl _ _⟩
 case round =>
  obtain ⟨k, hk, rfl, hM, hG⟩ := hrel
  have hXw := (hG.block _ (Array.getElem?_eq_some_iff.1 HXP3.out).1 (fun e => by cases e; omega)).trans HXP3.out
  have hXr := (hG.block _ (Array.getElem?_eq_some_iff.1 HXR.out).1 (fun e => by cases e; omega)).trans HXR.out
  have hXx := (hG.block _ (Array.getElem?_eq_some_iff.1 HX3.out).1 (fun e => by cases e; omega)).trans HX3.out
  have hBw : Below w.heap.size w wr := HB03.out.grown hG HB03.out.size (fun j e => by cases e; omega)
  have hGs := hG.size
  by_cases hlt : k < len
  ·obtain ⟨c, b1, o1, hx, ea, hb1, p0, p1⟩ := bin_cells (HL.out.below hBw) hlt
   subst ea
   have HX := Lib.hid hx
   have hcm := List.mem_of_getElem? hx
   have hxi : I64 c.1 := hp c hcm
   have hxu : U64 c.2 := hbu c hcm
   have hcb := hbd c hcm
   obtain ⟨hlh, hlu⟩ := least_half f h1 hf c.1 hcb
   have hhi : I64 (hiHalf c.1) := by have := bounds_le f hf c.1 hcb; unfold hiHalf I64; split <;> omega
   obtain ⟨x1, x2⟩ := c
   dsimp only at p0 p1 hxi hxu hcb hlh hlu hhi
   obtain ⟨W4, hW4, hX4, hB4, hs4⟩ := boxes1 wr #[.int .i64 x1, .int .u64 x2] 137
   have HBL := Lib.hid (Bounds_least f h1 hf x1 W4 hcb)
   obtain ⟨lo, hlo⟩ : ∃ lo, hiLeast f x1 = lo := ⟨_, rfl⟩
   rw [hlo] at HBL hlu hlh
   have hXw4 := known hB4 (Nat.le_refl _) hXw
   have hXx4 := known hB4 (Nat.le_refl _) hXx
   obtain ⟨u0, u1⟩ := cl2 hX4
   obtain ⟨v0, v1⟩ := cl2 hXw4
   have HM4 : Hid (MapIs W4 b k (hiPuts [] ((l.take k).map fun b => (hiHalf b.1, b.2)))) := hM.kept (below_gb hB4 none) (by simp)
   have HX4 := Lib.hid hX4
   have HXx4 := Lib.hid hXx4
   have HG4 := Lib.hid (hG.trans (below_gb hB4 (some b)))
   clear hXw hXr hXx hX4 hXw4 hXx4 hM hB4 hG hx hBw
   go_wp2_with fail
   refine HBL.out.mono ?_
   rintro e w5 ⟨hi, rfl, hb5⟩
   have HXx5 : Hid (w5.drew.heap[w2.heap.size]? = some (.cells #[.map (some b), .int .i64 ((f : Int) - 1)] 344 (0, 0))) := known hb5.drew (Nat.le_refl _) HXx4.out
   have HX5 : Hid (w5.drew.heap[wr.heap.size]? = some (.cells #[.int .i64 x1, .int .u64 x2] 137 (0, 0))) := known hb5.drew (Nat.le_refl _) HX4.out
   have HM5 : Hid (MapIs w5.drew b k (hiPuts [] ((l.take k).map fun b => (hiHalf b.1, b.2)))) := HM4.out.kept (gb_drew (below_gb hb5 none)) (by simp)
   have HG5 : Hid (W3.grownBy w5.drew (some b)) := HG4.out.trans (gb_drew (below_gb hb5 (some b)))
   have HBK : Hid (Calls Tryz.prog 248 #[.int .i64 ((f : Int) - 1), .int .u64 lo] w5.drew fun e w' => e = .returned (.int .i64 (hiHalf x1)) ∧ Below w5.drew.heap.size w5.drew w') := by
    have := Bucket_any (f - 1) lo.toNat w5.drew (by omega) (by unfold U64 at hlu; omega)
    rwa [show ((f - 1 : Nat) : Int) = (f : Int) - 1 by omega, show ((lo.toNat : Nat) : Int) = lo by unfold U64 at hlu; omega, hlh] at this
   have HUP := take_ups l k
   have HP : Hid (∀ w4, Below w5.drew.heap.size w5.drew w4 → Calls Tryz.prog 247 #[.agg #[.map (some b), .int .i64 ((f : Int) - 1)], .int .i64 (hiHalf x1), .int .u64 x2] w4 fun e w' => e = .returned (.tuple #[]) ∧ MapIs w' b (k + 1) (binPut (hiPuts [] ((l.take k).map fun b => (hiHalf b.1, b.2))) (hiHalf x1) x2) ∧ w4.grownBy w' (some b)) := fun w4 hb4 =>
    put_any b k ((f : Int) - 1) (hiHalf x1) x2 _ w4 (HM5.out.kept (below_gb hb4 none) (by simp)) hhi hxu (by omega) HUP (hiPuts_u64 _ [] (fun b hb => by cases hb) (fun c hc => by obtain ⟨d, hd, rfl⟩ := List.mem_map.1 hc; exact hbu d (List.mem_of_mem_take hd)))
   have HC : Hid (∀ w4, Below w5.drew.heap.size w5.drew w4 → w4.cell? ⟨w2.heap.size, 0, none⟩ = some (.map (some b)) ∧ w4.cell? ⟨w2.heap.size, 1, none⟩ = some (.int .i64 ((f : Int) - 1)) ∧ w4.cell? ⟨wr.heap.size, 1, none⟩ = some (.int .u64 x2)) := fun w4 hb4 => by
    have h1 := known hb4 (Nat.le_refl _) HXx5.out
    exact ⟨cCc h1 0, cCc h1 1, cCc (known hb4 (Nat.le_refl _) HX5.out) 1⟩
   have HRel : Hid (∀ w4 w6, Below w5.drew.heap.size w5.drew w4 → MapIs w6 b (k + 1) (binPut (hiPuts [] ((l.take k).map fun b => (hiHalf b.1, b.2))) (hiHalf x1) x2) → w4.grownBy w6 (some b) → MapIs w6 b (k + 1) (hiPuts [] ((l.take (k + 1)).map fun b => (hiHalf b.1, b.2))) ∧ W3.grownBy w6 (some b)) := fun w4 w6 hb4 hm6 hg6 => by
    rw [take_snoc' HX.out, List.map_append]
    exact ⟨by rw [List.map_singleton, puts_snoc]; exact hm6, (HG5.out.trans (below_gb hb4 _)).trans hg6⟩
   obtain ⟨y0, y1, y2⟩ := HC.out _ (Below.refl _ _)
   clear hb5 hxu hxi hhi hcb hlh hlu hlo u0 u1 v0 v1 p0 p1 q0 q1 x0 hcm
   go_wp2_with fail
   -- REGION
   refine wp_region_any (by kernel_rfl) ?_
   change wpAny _ _ _ _ _ _ _ (World.drew _)
   refine tk 1 (v := ?_) rfl ?_ ?_
   rotate_left
   ·intro w; go_simp; with_reducible rfl
   refine tk 3 (v := ?_) rfl ?_ ?_
   rotate_left
   ·intro w; go_simp; with_reducible rfl
   refine tk 5 (v := ?_) rfl ?_ ?_
   rotate_left
   ·intro w; go_simp; with_reducible rfl
   refine wpAny_ready (rs := [0, 2, 6]) (by kernel_rfl) (by simp) ?_
   refine AllReady.cons rfl (fun K hK => ?_) ?_
   ·go_simp
    refine hK _ _ ?_
    clear hK K
    refine wpAny_ready (rs := [2, 6]) (by kernel_rfl) (by simp) ?_
    refine AllReady.cons rfl (fun K hK => ?_) ?_
    ·go_simp
     refine hK _ _ ?_
     clear hK K
     refine wpAny_ready (rs := [4, 6]) (by kernel_rfl) (by simp) ?_
     refine AllReady.cons rfl (fun K hK => ?_) ?_
     ·go_simp
      refine HBK.out.mono ?_
      rintro e w4 ⟨rfl, hb4⟩
      have hP := HP.out w4 hb4
      obtain ⟨u0, u1, v1⟩ := HC.out w4 hb4
      refine hK _ _ ?_
      clear hK K
      refine wpAny_ready (rs := [6]) (by kernel_rfl) (by simp) ?_
      refine AllReady.cons rfl (fun K hK => ?_) ?_
      ·go_simp
       refine hK _ _ ?_
       clear hK K
       refine wpAny_ready (rs := [7]) (by kernel_rfl) (by simp) ?_
       refine AllReady.cons rfl (fun K hK => ?_) ?_
       ·go_simp
        refine hP.mono ?_
        rintro e w6 ⟨rfl, hm6, hg6⟩
        refine hK _ _ ?_
        clear hK K
        refine wpAny_done (by kernel_rfl) ?_ _
        obtain ⟨hR1, hR2⟩ := HRel.out w4 w6 hb4 hm6 hg6
        clear hm6 hg6 hP hb4 u0 u1 v1
        go_wp2_with fail
        go_roundw
        case rel => exact ⟨k + 1, hlt, by simp, hR1, hR2⟩
        case measure => simp [intOf]; exact meas_succ hlt
       exact AllReady.nil
      exact AllReady.nil
     refine AllReady.cons rfl (fun K hK => ?_) ?_
     ·go_simp
      refine hK _ _ ?_
      clear hK K
      refine wpAny_ready (rs := [4]) (by kernel_rfl) (by simp) ?_
      refine AllReady.cons rfl (fun K hK => ?_) ?_
      ·go_simp
       refine HBK.out.mono ?_
       rintro e w4 ⟨rfl, hb4⟩
       have hP := HP.out w4 hb4
       obtain ⟨u0, u1, v1⟩ := HC.out w4 hb4
       refine hK _ _ ?_
       clear hK K
       refine wpAny_ready (rs := [7]) (by kernel_rfl) (by simp) ?_
       refine AllReady.cons rfl (fun K hK => ?_) ?_
       ·go_simp
        refine hP.mono ?_
        rintro e w6 ⟨rfl, hm6, hg6⟩
        refine hK _ _ ?_
        clear hK K
        refine wpAny_done (by kernel_rfl) ?_ _
        obtain ⟨hR1, hR2⟩ := HRel.out w4 w6 hb4 hm6 hg6
        clear hm6 hg6 hP hb4 u0 u1 v1
        go_wp2_with fail
        go_roundw
        case rel => exact ⟨k + 1, hlt, by simp, hR1, hR2⟩
        case measure => simp [intOf]; exact meas_succ hlt
       exact AllReady.nil
      exact AllReady.nil
     exact AllReady.nil
    refine AllReady.cons rfl (fun K hK => ?_) ?_
    ·go_simp
     refine hK _ _ ?_
     clear hK K
     refine wpAny_ready (rs := [2]) (by kernel_rfl) (by simp) ?_
     refine AllReady.cons rfl (fun K hK => ?_) ?_
     ·go_simp
      refine hK _ _ ?_
      clear hK K
      refine wpAny_ready (rs := [4]) (by kernel_rfl) (by simp) ?_
      refine AllReady.cons rfl (fun K hK => ?_) ?_
      ·go_simp
       refine HBK.out.mono ?_
       rintro e w4 ⟨rfl, hb4⟩
       have hP := HP.out w4 hb4
       obtain ⟨u0, u1, v1⟩ := HC.out w4 hb4
       refine hK _ _ ?_
       clear hK K
       refine wpAny_ready (rs := [7]) (by kernel_rfl) (by simp) ?_
       refine AllReady.cons rfl (fun K hK => ?_) ?_
       ·go_simp
        refine hP.mono ?_
        rintro e w6 ⟨rfl, hm6, hg6⟩
        refine hK _ _ ?_
        clear hK K
        refine wpAny_done (by kernel_rfl) ?_ _
        obtain ⟨hR1, hR2⟩ := HRel.out w4 w6 hb4 hm6 hg6
        clear hm6 hg6 hP hb4 u0 u1 v1
        go_wp2_with fail
        go_roundw
        case rel => exact ⟨k + 1, hlt, by simp, hR1, hR2⟩
        case measure => simp [intOf]; exact meas_succ hlt
       exact AllReady.nil
      exact AllReady.nil
     exact AllReady.nil
    exact AllReady.nil
   refine AllReady.cons rfl (fun K hK => ?_) ?_
   ·go_simp
    refine hK _ _ ?_
    clear hK K
    refine wpAny_ready (rs := [0, 4, 6]) (by kernel_rfl) (by simp) ?_
    refine AllReady.cons rfl (fun K hK => ?_) ?_
    ·go_simp
     refine hK _ _ ?_
     clear hK K
     refine wpAny_ready (rs := [4, 6]) (by kernel_rfl) (by simp) ?_
     refine AllReady.cons rfl (fun K hK => ?_) ?_
     ·go_simp
      refine HBK.out.mono ?_
      rintro e w4 ⟨rfl, hb4⟩
      have hP := HP.out w4 hb4
      obtain ⟨u0, u1, v1⟩ := HC.out w4 hb4
      refine hK _ _ ?_
      clear hK K
      refine wpAny_ready (rs := [6]) (by kernel_rfl) (by simp) ?_
      refine AllReady.cons rfl (fun K hK => ?_) ?_
      ·go_simp
       refine hK _ _ ?_
       clear hK K
       refine wpAny_ready (rs := [7]) (by kernel_rfl) (by simp) ?_
       refine AllReady.cons rfl (fun K hK => ?_) ?_
       ·go_simp
        refine hP.mono ?_
        rintro e w6 ⟨rfl, hm6, hg6⟩
        refine hK _ _ ?_
        clear hK K
        refine wpAny_done (by kernel_rfl) ?_ _
        obtain ⟨hR1, hR2⟩ := HRel.out w4 w6 hb4 hm6 hg6
        clear hm6 hg6 hP hb4 u0 u1 v1
        go_wp2_with fail
        go_roundw
        case rel => exact ⟨k + 1, hlt, by simp, hR1, hR2⟩
        case measure => simp [intOf]; exact meas_succ hlt
       exact AllReady.nil
      exact AllReady.nil
     refine AllReady.cons rfl (fun K hK => ?_) ?_
     ·go_simp
      refine hK _ _ ?_
      clear hK K
      refine wpAny_ready (rs := [4]) (by kernel_rfl) (by simp) ?_
      refine AllReady.cons rfl (fun K hK => ?_) ?_
      ·go_simp
       refine HBK.out.mono ?_
       rintro e w4 ⟨rfl, hb4⟩
       have hP := HP.out w4 hb4
       obtain ⟨u0, u1, v1⟩ := HC.out w4 hb4
       refine hK _ _ ?_
       clear hK K
       refine wpAny_ready (rs := [7]) (by kernel_rfl) (by simp) ?_
       refine AllReady.cons rfl (fun K hK => ?_) ?_
       ·go_simp
        refine hP.mono ?_
        rintro e w6 ⟨rfl, hm6, hg6⟩
        refine hK _ _ ?_
        clear hK K
        refine wpAny_done (by kernel_rfl) ?_ _
        obtain ⟨hR1, hR2⟩ := HRel.out w4 w6 hb4 hm6 hg6
        clear hm6 hg6 hP hb4 u0 u1 v1
        go_wp2_with fail
        go_roundw
        case rel => exact ⟨k + 1, hlt, by simp, hR1, hR2⟩
        case measure => simp [intOf]; exact meas_succ hlt
       exact AllReady.nil
      exact AllReady.nil
     exact AllReady.nil
    refine AllReady.cons rfl (fun K hK => ?_) ?_
    ·go_simp
     refine HBK.out.mono ?_
     rintro e w4 ⟨rfl, hb4⟩
     have hP := HP.out w4 hb4
     obtain ⟨u0, u1, v1⟩ := HC.out w4 hb4
     refine hK _ _ ?_
     clear hK K
     refine wpAny_ready (rs := [0, 6]) (by kernel_rfl) (by simp) ?_
     refine AllReady.cons rfl (fun K hK => ?_) ?_
     ·go_simp
      refine hK _ _ ?_
      clear hK K
      refine wpAny_ready (rs := [6]) (by kernel_rfl) (by simp) ?_
      refine AllReady.cons rfl (fun K hK => ?_) ?_
      ·go_simp
       refine hK _ _ ?_
       clear hK K
       refine wpAny_ready (rs := [7]) (by kernel_rfl) (by simp) ?_
       refine AllReady.cons rfl (fun K hK => ?_) ?_
       ·go_simp
        refine hP.mono ?_
        rintro e w6 ⟨rfl, hm6, hg6⟩
        refine hK _ _ ?_
        clear hK K
        refine wpAny_done (by kernel_rfl) ?_ _
        obtain ⟨hR1, hR2⟩ := HRel.out w4 w6 hb4 hm6 hg6
        clear hm6 hg6 hP hb4 u0 u1 v1
        go_wp2_with fail
        go_roundw
        case rel => exact ⟨k + 1, hlt, by simp, hR1, hR2⟩
        case measure => simp [intOf]; exact meas_succ hlt
       exact AllReady.nil
      exact AllReady.nil
     refine AllReady.cons rfl (fun K hK => ?_) ?_
     ·go_simp
      refine hK _ _ ?_
      clear hK K
      refine wpAny_ready (rs := [0]) (by kernel_rfl) (by simp) ?_
      refine AllReady.cons rfl (fun K hK => ?_) ?_
      ·go_simp
       refine hK _ _ ?_
       clear hK K
       refine wpAny_ready (rs := [7]) (by kernel_rfl) (by simp) ?_
       refine AllReady.cons rfl (fun K hK => ?_) ?_
       ·go_simp
        refine hP.mono ?_
        rintro e w6 ⟨rfl, hm6, hg6⟩
        refine hK _ _ ?_
        clear hK K
        refine wpAny_done (by kernel_rfl) ?_ _
        obtain ⟨hR1, hR2⟩ := HRel.out w4 w6 hb4 hm6 hg6
        clear hm6 hg6 hP hb4 u0 u1 v1
        go_wp2_with fail
        go_roundw
        case rel => exact ⟨k + 1, hlt, by simp, hR1, hR2⟩
        case measure => simp [intOf]; exact meas_succ hlt
       exact AllReady.nil
      exact AllReady.nil
     exact AllReady.nil
    refine AllReady.cons rfl (fun K hK => ?_) ?_
    ·go_simp
     refine hK _ _ ?_
     clear hK K
     refine wpAny_ready (rs := [0, 4]) (by kernel_rfl) (by simp) ?_
     refine AllReady.cons rfl (fun K hK => ?_) ?_
     ·go_simp
      refine hK _ _ ?_
      clear hK K
      refine wpAny_ready (rs := [4]) (by kernel_rfl) (by simp) ?_
      refine AllReady.cons rfl (fun K hK => ?_) ?_
      ·go_simp
       refine HBK.out.mono ?_
       rintro e w4 ⟨rfl, hb4⟩
       have hP := HP.out w4 hb4
       obtain ⟨u0, u1, v1⟩ := HC.out w4 hb4
       refine hK _ _ ?_
       clear hK K
       refine wpAny_ready (rs := [7]) (by kernel_rfl) (by simp) ?_
       refine AllReady.cons rfl (fun K hK => ?_) ?_
       ·go_simp
        refine hP.mono ?_
        rintro e w6 ⟨rfl, hm6, hg6⟩
        refine hK _ _ ?_
        clear hK K
        refine wpAny_done (by kernel_rfl) ?_ _
        obtain ⟨hR1, hR2⟩ := HRel.out w4 w6 hb4 hm6 hg6
        clear hm6 hg6 hP hb4 u0 u1 v1
        go_wp2_with fail
        go_roundw
        case rel => exact ⟨k + 1, hlt, by simp, hR1, hR2⟩
        case measure => simp [intOf]; exact meas_succ hlt
       exact AllReady.nil
      exact AllReady.nil
     refine AllReady.cons rfl (fun K hK => ?_) ?_
     ·go_simp
      refine HBK.out.mono ?_
      rintro e w4 ⟨rfl, hb4⟩
      have hP := HP.out w4 hb4
      obtain ⟨u0, u1, v1⟩ := HC.out w4 hb4
      refine hK _ _ ?_
      clear hK K
      refine wpAny_ready (rs := [0]) (by kernel_rfl) (by simp) ?_
      refine AllReady.cons rfl (fun K hK => ?_) ?_
      ·go_simp
       refine hK _ _ ?_
       clear hK K
       refine wpAny_ready (rs := [7]) (by kernel_rfl) (by simp) ?_
       refine AllReady.cons rfl (fun K hK => ?_) ?_
       ·go_simp
        refine hP.mono ?_
        rintro e w6 ⟨rfl, hm6, hg6⟩
        refine hK _ _ ?_
        clear hK K
        refine wpAny_done (by kernel_rfl) ?_ _
        obtain ⟨hR1, hR2⟩ := HRel.out w4 w6 hb4 hm6 hg6
        clear hm6 hg6 hP hb4 u0 u1 v1
        go_wp2_with fail
        go_roundw
        case rel => exact ⟨k + 1, hlt, by simp, hR1, hR2⟩
        case measure => simp [intOf]; exact meas_succ hlt
       exact AllReady.nil
      exact AllReady.nil
     exact AllReady.nil
    exact AllReady.nil
   refine AllReady.cons rfl (fun K hK => ?_) ?_
   ·go_simp
    refine hK _ _ ?_
    clear hK K
    refine wpAny_ready (rs := [0, 2]) (by kernel_rfl) (by simp) ?_
    refine AllReady.cons rfl (fun K hK => ?_) ?_
    ·go_simp
     refine hK _ _ ?_
     clear hK K
     refine wpAny_ready (rs := [2]) (by kernel_rfl) (by simp) ?_
     refine AllReady.cons rfl (fun K hK => ?_) ?_
     ·go_simp
      refine hK _ _ ?_
      clear hK K
      refine wpAny_ready (rs := [4]) (by kernel_rfl) (by simp) ?_
      refine AllReady.cons rfl (fun K hK => ?_) ?_
      ·go_simp
       refine HBK.out.mono ?_
       rintro e w4 ⟨rfl, hb4⟩
       have hP := HP.out w4 hb4
       obtain ⟨u0, u1, v1⟩ := HC.out w4 hb4
       refine hK _ _ ?_
       clear hK K
       refine wpAny_ready (rs := [7]) (by kernel_rfl) (by simp) ?_
       refine AllReady.cons rfl (fun K hK => ?_) ?_
       ·go_simp
        refine hP.mono ?_
        rintro e w6 ⟨rfl, hm6, hg6⟩
        refine hK _ _ ?_
        clear hK K
        refine wpAny_done (by kernel_rfl) ?_ _
        obtain ⟨hR1, hR2⟩ := HRel.out w4 w6 hb4 hm6 hg6
        clear hm6 hg6 hP hb4 u0 u1 v1
        go_wp2_with fail
        go_roundw
        case rel => exact ⟨k + 1, hlt, by simp, hR1, hR2⟩
        case measure => simp [intOf]; exact meas_succ hlt
       exact AllReady.nil
      exact AllReady.nil
     exact AllReady.nil
    refine AllReady.cons rfl (fun K hK => ?_) ?_
    ·go_simp
     refine hK _ _ ?_
     clear hK K
     refine wpAny_ready (rs := [0, 4]) (by kernel_rfl) (by simp) ?_
     refine AllReady.cons rfl (fun K hK => ?_) ?_
     ·go_simp
      refine hK _ _ ?_
      clear hK K
      refine wpAny_ready (rs := [4]) (by kernel_rfl) (by simp) ?_
      refine AllReady.cons rfl (fun K hK => ?_) ?_
      ·go_simp
       refine HBK.out.mono ?_
       rintro e w4 ⟨rfl, hb4⟩
       have hP := HP.out w4 hb4
       obtain ⟨u0, u1, v1⟩ := HC.out w4 hb4
       refine hK _ _ ?_
       clear hK K
       refine wpAny_ready (rs := [7]) (by kernel_rfl) (by simp) ?_
       refine AllReady.cons rfl (fun K hK => ?_) ?_
       ·go_simp
        refine hP.mono ?_
        rintro e w6 ⟨rfl, hm6, hg6⟩
        refine hK _ _ ?_
        clear hK K
        refine wpAny_done (by kernel_rfl) ?_ _
        obtain ⟨hR1, hR2⟩ := HRel.out w4 w6 hb4 hm6 hg6
        clear hm6 hg6 hP hb4 u0 u1 v1
        go_wp2_with fail
        go_roundw
        case rel => exact ⟨k + 1, hlt, by simp, hR1, hR2⟩
        case measure => simp [intOf]; exact meas_succ hlt
       exact AllReady.nil
      exact AllReady.nil
     refine AllReady.cons rfl (fun K hK => ?_) ?_
     ·go_simp
      refine HBK.out.mono ?_
      rintro e w4 ⟨rfl, hb4⟩
      have hP := HP.out w4 hb4
      obtain ⟨u0, u1, v1⟩ := HC.out w4 hb4
      refine hK _ _ ?_
      clear hK K
      refine wpAny_ready (rs := [0]) (by kernel_rfl) (by simp) ?_
      refine AllReady.cons rfl (fun K hK => ?_) ?_
      ·go_simp
       refine hK _ _ ?_
       clear hK K
       refine wpAny_ready (rs := [7]) (by kernel_rfl) (by simp) ?_
       refine AllReady.cons rfl (fun K hK => ?_) ?_
       ·go_simp
        refine hP.mono ?_
        rintro e w6 ⟨rfl, hm6, hg6⟩
        refine hK _ _ ?_
        clear hK K
        refine wpAny_done (by kernel_rfl) ?_ _
        obtain ⟨hR1, hR2⟩ := HRel.out w4 w6 hb4 hm6 hg6
        clear hm6 hg6 hP hb4 u0 u1 v1
        go_wp2_with fail
        go_roundw
        case rel => exact ⟨k + 1, hlt, by simp, hR1, hR2⟩
        case measure => simp [intOf]; exact meas_succ hlt
       exact AllReady.nil
      exact AllReady.nil
     exact AllReady.nil
    exact AllReady.nil
   exact AllReady.nil
   -- END
  ·obtain rfl : k = len := by omega
   have hMl : MapIs wr b k (hiPuts [] (l.map fun b => (hiHalf b.1, b.2))) := by have := hM; rwa [List.take_of_length_le (by rw [← HLL.out]; exact Nat.le_refl _)] at this
   have hup := take_ups l k
   rw [List.take_of_length_le (by rw [← HLL.out]; exact Nat.le_refl _)] at hup
   obtain ⟨hb1', hb2'⟩ := half_fin l f hf hbd hbu
   have HDn := Lib.hid (hdone9_any b k ((f : Int) - 1) _ wr hMl hup hb1' hb2' (by have := hiPuts_len (l.map fun b => (hiHalf b.1, b.2)) []; simp at this; have := HLL.out; omega) (by omega))
   rw [show hiDone (hiPuts [] (l.map fun b => (hiHalf b.1, b.2))) = hiLow l from rfl] at HDn
   have HE := Lib.hid (fun w7 a' len' cap' => hist_out (w := w) (w6 := wr) (w7 := w7) (b := b) (a := a') (len := len') (cap := cap') (f := (f : Int) - 1) (l := hiLow l) (by omega) hXr hBw)
   obtain ⟨u0, u1⟩ := cl2 hXx
   clear hXw hXr hXx hM hMl hG hBw hup hb1' hb2'
   go_wp2_with fail
   refine HDn.out.mono ?_
   rintro e w7 ⟨a', len', cap', rfl, hS7, ha7, hg7⟩
   obtain ⟨hR7, hY7⟩ := HE.out w7 a' len' cap' hS7 ha7 hg7
   obtain ⟨m0, m1⟩ := cl2 hR7
   obtain ⟨n0, n1⟩ := cz2 hR7
   have HY7 := Lib.hid hY7
   clear hR7 hY7 hS7 ha7 hg7
   go_wp2_with fail
   obtain ⟨hX8, hS8, hB8⟩ := HY7.out
   generalize (w7.setCell ⟨w.heap.size + 1, 0, none⟩ (.int .i64 ((f : Int) - 1))).setCell ⟨w.heap.size + 1, 1, none⟩ (.slice a' len' cap') = V at hX8 hS8 hB8 ⊢
   obtain ⟨q0, q1⟩ := cl2 hX8
   exact bodyPost_ret (v := .tuple #[.agg #[.int .i64 ((f : Int) - 1), .slice a' len' cap'], .int .i64 0]) (by simp [results, Tryz.f243, go_sem, q0, q1]) rfl ⟨a', len', cap', rfl, hS8, hB8⟩
end Go.Proofs.YthbhmnakmhambaaGreatDoor

/- Package label: Less; slices of labels: Equal, Clone. slices.Clone and slices.Equal at []api.Label: printed by wip/tools/gen_l5.py. series.Right. series.Find. series.add. series.Put: printed by wip/tools/gen_t5.py. series.Put. -/
import Derived.Test.YthbhmnakmhambaaGreatDoorZV1
namespace Go.Proofs.YthbhmnakmhambaaGreatDoor
open Go Go.RowKit Go.Shelf
deriving instance DecidableEq for Lab
theorem neq_lab (x1 x2 y1 y2 : ByteArray) (w : World) : (binOp .neq 70 (.agg #[.string x1, .string x2]) (.agg #[.string y1, .string y2])).run Tryz.prog w = .ok (.bool (!(x1.toList == y1.toList && x2.toList == y2.toList))) w := by
 have h1 : Tryz.prog.underlying 70 = some (.struct (Tryz.prog.fieldsOf 70)) := by kernel_rfl
 have h2 : Tryz.prog.stoodInHeld 70 = false := by kernel_rfl
 have h3 : (Tryz.prog.fieldsOf 70).toList = [{ name := "Name", type := 9, offset := 0, embedded := false, tag := "", pkgPath := "", byteOffset := 0 }, { name := "Value", type := 9, offset := 1, embedded := false, tag := "", pkgPath := "", byteOffset := 16 }] := by kernel_rfl
 rw [run_neq_struct, run_equalIn_agg w 9999 _ _ _ h1 h2, h3]
 cases ha : (x1.toList == y1.toList) <;> cases hb : (x2.toList == y2.toList) <;> simp [go_sem, ha, hb, Tryz.underlying9]
end Go.Proofs.YthbhmnakmhambaaGreatDoor
namespace Go.Proofs.YthbhmnakmhambaaGreatDoor
open Go Go.RowKit
theorem und_lab : Tryz.prog.underlying 40 = some (.slice 70) := by kernel_rfl
theorem info_lab : (Tryz.prog.info? 70).map (fun i => (i.zero, i.size, i.bytes)) = some (some (.agg #[.string ⟨#[]⟩, .string ⟨#[]⟩]), 2, 32) := by kernel_rfl
theorem eqlnil_lab (a : Option Addr) (n c : Nat) (w : World) : (binOp .eql 40 (.slice a n c) (.slice none 0 0)).run Tryz.prog w = .ok (.bool a.isNone) w := Lib.run_eql_slice_nil w _ _ a n c 0 0 und_lab
theorem one_lab (x : Lab) : ∀ u ∈ Lab.enc x, u.oneCell' = true := by
 intro u hu
 simp only [Lab.enc, List.mem_cons, List.not_mem_nil, or_false] at hu
 rcases hu with rfl | rfl <;> rfl
set_option maxRecDepth 100000 in
set_option maxHeartbeats 1000000 in
theorem equal_lab (a1 : Option Addr) (len1 cap1 : Nat) (l1 : List Lab) (a2 : Option Addr) (len2 cap2 : Nat) (l2 : List Lab) (w : World) (h1 : SlE Lab.enc 2 w.heap.size w a1 len1 l1) (h2 : SlE Lab.enc 2 w.heap.size w a2 len2 l2) (hm : len1 ≤ maxLen) :
  Calls Tryz.prog 85 #[.slice a1 len1 cap1, .slice a2 len2 cap2] w fun e w' => e = .returned (.bool (l1 == l2)) ∧ Below w.heap.size w w' := by
 have e1 := h1.1
 have e2 := h2.1
 unfold maxLen at hm
 by_cases hl : len1 = len2
 ·subst hl
  have t0 : ((len1 : Int) != (len1 : Int)) = false := by simp
  have E1 := Lib.hid e1
  have E2 := Lib.hid e2
  clear e1 e2
  go_enter Tryz.func85, Tryz.ntmps85
  go_wp2_with fail
  go_loopw [5, 13] (fun _ i wr => ∃ (k : Nat), i = .int .i64 k ∧ k ≤ len1 ∧ Below w.heap.size w wr ∧ Hid (l1.take k = l2.take k)) (fun _ i _ => len1 - (intOf i).toNat)
  case atStart => exact ⟨0, rfl, Nat.zero_le _, Below.refl _ _, rfl⟩
  case round =>
   obtain ⟨k, rfl, hk, hB, HF⟩ := hrel
   by_cases hlt : k < len1
   ·obtain ⟨x, b1, o1, hx, ea1, hb1, hc1⟩ := (h1.below hB).at hlt
    obtain ⟨y, b2, o2, hy, ea2, hb2, hc2⟩ := (h2.below hB).at hlt
    subst ea1; subst ea2
    have p0 : wr.cell? ⟨b1, o1 + k * 2, none⟩ = some (.string x.name) := hc1 0 (by omega)
    have p1 : wr.cell? ⟨b1, o1 + k * 2 + 1, none⟩ = some (.string x.value) := hc1 1 (by omega)
    have q0 : wr.cell? ⟨b2, o2 + k * 2, none⟩ = some (.string y.name) := hc2 0 (by omega)
    have q1 : wr.cell? ⟨b2, o2 + k * 2 + 1, none⟩ = some (.string y.value) := hc2 1 (by omega)
    have n2 := eg_lab
    have i0 : (0 : Int) ≤ (k : Int) := by omega
    have i1 : (k : Int) < (len1 : Int) := by omega
    have HX := Lib.hid hx
    have HY := Lib.hid hy
    clear hc1 hc2 hx hy h1 h2
    by_cases hxy : x = y
    ·have n1 : ∀ w, (binOp .neq 70 (.agg #[.string x.name, .string x.value]) (.agg #[.string y.name, .string y.value])).run Tryz.prog w = .ok (.bool false) w := fun w => by rw [neq_lab, beq_str, beq_str, hxy]; simp
     have HXY : Hid (x = y) := hxy
     clear hxy
     go_wp2_with fail
     go_quiet (fail)
     go_wp2_with fail
     go_roundw
     case rel => exact ⟨k + 1, by go_num, by omega, bDr hB _, by rw [Hid, take_snoc' HX.out, take_snoc' HY.out, HF.out, HXY.out]⟩
     case measure => simp [intOf]; omega
    ·have n1 : ∀ w, (binOp .neq 70 (.agg #[.string x.name, .string x.value]) (.agg #[.string y.name, .string y.value])).run Tryz.prog w = .ok (.bool true) w := fun w => by rw [neq_lab, beq_str, beq_str]; cases x; cases y; simp only [Lab.mk.injEq] at hxy; rw [← Bool.decide_and, decide_eq_false hxy]; rfl
     have HXY : Hid (¬ x = y) := hxy
     clear hxy
     go_wp2_with fail
     go_quiet (fail)
     go_wp2_with fail
     go_ret
     have hne : (l1 == l2) = false := by
      rw [beq_eq_false_iff_ne]
      intro e
      have hx := HX.out
      rw [e, HY.out] at hx
      exact HXY.out (Option.some.inj hx).symm
     exact ⟨by rw [hne]; rfl, bDr hB _⟩
   ·obtain rfl : k = len1 := by omega
    clear h1 h2
    go_wp2_with fail
    go_ret
    have h9 := HF.out
    rw [List.take_of_length_le (by rw [← E1.out]; omega), List.take_of_length_le (by rw [← E2.out]; omega)] at h9
    exact ⟨by rw [h9]; simp, hB⟩
 ·have t0 : ((len1 : Int) != (len2 : Int)) = true := by rw [bne_iff_ne]; omega
  have hne : Hid ((l1 == l2) = false) := by
   rw [Hid, beq_eq_false_iff_ne]
   intro e
   rw [e, ← e2] at e1
   exact hl e1
  clear h1 h2 e1 e2 hl
  go_enter Tryz.func85, Tryz.ntmps85
  go_wp2_with fail
  go_ret
  exact ⟨by rw [hne.out]; rfl, Below.refl _ _⟩
end Go.Proofs.YthbhmnakmhambaaGreatDoor
namespace Go.Proofs.YthbhmnakmhambaaGreatDoor
open Go Go.RowKit Go.Shelf
end Go.Proofs.YthbhmnakmhambaaGreatDoor
namespace Go.Proofs.YthbhmnakmhambaaGreatDoor
open Go Go.RowKit Go.Shelf
def findAt (l : List Ser) (q : List Lab) : Nat := (l.takeWhile (fun x => labLess x.l q)).length
def thereAt (l : List Ser) (q : List Lab) : Bool := match l[findAt l q]? with | some x => x.l == q | none => false
theorem findAt_less {l : List Ser} {q : List Lab} {k : Nat} {x : Ser} (hx : l[k]? = some x) (h : labLess x.l q = true) : findAt (l.drop k) q = 1 + findAt (l.drop (k + 1)) q := by
 rw [drop_cons' hx, findAt, List.takeWhile_cons, if_pos h, List.length_cons, Nat.add_comm]; rfl
theorem findAt_stop {l : List Ser} {q : List Lab} {k : Nat} {x : Ser} (hx : l[k]? = some x) (h : labLess x.l q = false) : findAt (l.drop k) q = 0 := by
 rw [drop_cons' hx, findAt, List.takeWhile_cons, if_neg (by simp [h])]; rfl
theorem findAt_le (l : List Ser) (q : List Lab) : findAt l q ≤ l.length := (List.takeWhile_prefix _).length_le
set_option maxRecDepth 100000 in
set_option maxHeartbeats 4000000 in
theorem series_Find_any (l : List (Ser × SerP)) (a : Option Addr) (len cap : Nat) (q : List Lab) (qa : Option Addr) (qn qc : Nat) (w : World) (hT : Tab w.heap.size w a len cap l) (hF : TabFit l) (hG : GW w) (hQ : SlE Lab.enc 2 w.heap.size w qa qn q) (hqm : qn ≤ maxLen) :
  Calls Tryz.prog 52 #[.slice a len cap, .slice qa qn qc] w fun e w' => e = .returned (.tuple #[.int .i64 (if tabRight (l.map (·.1)) then (findAt (l.map (·.1)) q : Int) else 0), .bool (tabRight (l.map (·.1)) && thereAt (l.map (·.1)) q)]) ∧ Below w.heap.size w w' := by
 have hR := series_Right_any l a len cap w hT hF hG
 have hlen := hT.row.1.1
 subst hlen
 have HT := Lib.hid hT
 have HQ := Lib.hid hQ
 have hm : l.length ≤ maxLen := Nat.le_trans hT.row.2.1 hT.row.2.2.1
 unfold maxLen at hm
 have HQM := Lib.hid hqm
 clear hT hF hG hQ hqm
 cases hr : tabRight (l.map (·.1)) with
 | false =>
  rw [hr] at hR
  go_enter Tryz.func52, Tryz.ntmps52
  go_wp2_with (go_at_call 10; refine hR.mono ?_; rintro e w1 ⟨rfl, hb1⟩)
  go_ret2
  exact ⟨rfl, hb1⟩
 | true =>
  rw [hr] at hR
  rw [if_pos rfl, Bool.true_and]
  clear hr
  obtain ⟨bT, hbT⟩ : ∃ bT, thereAt (l.map (·.1)) q = bT := ⟨_, rfl⟩
  obtain ⟨kT, hkT⟩ : ∃ kT, findAt (l.map (·.1)) q = kT := ⟨_, rfl⟩
  rw [hbT, hkT]
  have HbT : Hid (bT = thereAt (l.map (·.1)) q) := hbT.symm
  have HkT : Hid (kT = findAt (l.map (·.1)) q) := hkT.symm
  clear hbT hkT
  go_enter Tryz.func52, Tryz.ntmps52
  go_wp2_with (go_at_call 10; refine hR.mono ?_; rintro e w1 ⟨rfl, hb1⟩)
  clear hR
  go_loopw [6] (fun i wr => ∃ (k : Nat), i = .int .i64 k ∧ k ≤ l.length ∧ Below w.heap.size w wr ∧ Hid (kT = k + findAt ((l.map (·.1)).drop k) q)) (fun i _ => l.length - (intOf i).toNat)
  case atStart => exact ⟨0, rfl, Nat.zero_le _, hb1, by rw [Hid, HkT.out, Nat.zero_add]; rfl⟩
  case round =>
   obtain ⟨k, rfl, hk, hB, HS⟩ := hrel
   have hsz := hB.size
   by_cases hlt : k < l.length
   ·obtain ⟨⟨x, p⟩, hx⟩ : ∃ x, l[k]? = some x := ⟨_, List.getElem?_eq_getElem hlt⟩
    obtain ⟨b, off, rfl, hbb, hc⟩ := HT.out.row.1.2 k (x, p) hx
    have HX : Hid ((l.map (·.1))[k]? = some x) := by rw [Hid, List.getElem?_map, hx]; rfl
    have c0 : wr.cell? ⟨b, off + k * 12, none⟩ = some (.slice p.la p.ll p.lc) := (hB.cell (p := ⟨b, off + k * 12, none⟩) hbb).trans (hc 0 (by omega))
    have HP : Hid (p.At w.heap.size w x) := HT.out.at_ _ (List.mem_of_getElem? hx)
    have HC : Hid (w.cell? ⟨b, off + k * 12, none⟩ = some (.slice p.la p.ll p.lc)) := hc 0 (by omega)
    clear hc hx
    cases hL : labLess x.l q with
    | true =>
     have HL := Lib.hid hL
     clear hL
     go_wp2_with (go_at_call 34; refine (label_Less_any _ _ _ x.l _ _ _ q wr ((HP.out.below hB).mono hsz).l.1 ((HQ.out.below hB).mono hsz) (Nat.le_trans HP.out.l.2.1 HP.out.l.2.2.1) HQM.out).mono ?_; rintro e w2 ⟨rfl, hb2⟩; rw [HL.out])
     go_roundw
     case rel => exact ⟨k + 1, by go_num, by omega, hB.trans (hb2.mono hsz), by rw [Hid, HS.out, findAt_less HX.out HL.out]; omega⟩
     case measure => simp [intOf]; omega
    | false =>
     have HL := Lib.hid hL
     have H9 : Hid (kT = k) := by rw [Hid, HS.out, findAt_stop HX.out HL.out]; rfl
     have H8 : Hid (bT = (x.l == q)) := by rw [Hid, HbT.out, thereAt, ← HkT.out, H9.out, HX.out]
     clear hL
     go_wp2_with (go_at_call 34; refine (label_Less_any _ _ _ x.l _ _ _ q wr ((HP.out.below hB).mono hsz).l.1 ((HQ.out.below hB).mono hsz) (Nat.le_trans HP.out.l.2.1 HP.out.l.2.2.1) HQM.out).mono ?_; rintro e w2 ⟨rfl, hb2⟩; rw [HL.out]; have hB2 := hB.trans (hb2.mono hsz); have c2 : w2.cell? ⟨b, off + k * 12, none⟩ = some (.slice p.la p.ll p.lc) := (hB2.cell (p := ⟨b, off + k * 12, none⟩) hbb).trans HC.out)
     refine (equal_lab _ _ _ x.l _ _ _ q w2 ((HP.out.below hB2).mono hB2.size).l.1 ((HQ.out.below hB2).mono hB2.size) (Nat.le_trans HP.out.l.2.1 HP.out.l.2.2.1)).mono ?_
     rintro e w3 ⟨rfl, hb3⟩
     go_wp2_with fail
     go_ret2
     exact ⟨by rw [H9.out, H8.out]; simp, hB2.trans (hb3.mono hB2.size)⟩
   ·obtain rfl : k = l.length := by omega
    have hnil : (l.map (·.1)).drop l.length = [] := List.drop_eq_nil_of_le (by rw [List.length_map]; exact Nat.le_refl _)
    have H9 : Hid (kT = l.length) := by rw [Hid, HS.out, hnil]; rfl
    have H8 : Hid (bT = false) := by rw [Hid, HbT.out, thereAt, ← HkT.out, H9.out, List.getElem?_eq_none (by rw [List.length_map]; exact Nat.le_refl _)]
    clear hnil
    go_wp2_with fail
    go_ret2
    exact ⟨by rw [H9.out, H8.out]; rfl, hB⟩
end Go.Proofs.YthbhmnakmhambaaGreatDoor
namespace Go.Proofs.YthbhmnakmhambaaGreatDoor
open Go Go.RowKit Go.Shelf
def Loose (w : World) (b : Nat) : Prop := ∃ c t, w.heap[b]? = some (.cells c t (0, 0))
theorem Loose.of_heap {A B : World} {b : Nat} (h : Loose A b) (e : B.heap[b]? = A.heap[b]?) : Loose B b := by obtain ⟨c, t, h⟩ := h; exact ⟨c, t, e.trans h⟩
theorem Loose.lt {A : World} {b : Nat} (h : Loose A b) : b < A.heap.size := by obtain ⟨c, t, h⟩ := h; exact (Array.getElem?_eq_some_iff.1 h).1
theorem Loose.go {A B : World} {b : Nat} (h : Loose A b) (hb : Below A.heap.size A B) : Loose B b := h.of_heap (hb.block b h.lt)
theorem owns_loose {w : World} {base e size n m : Nat} {v : Value} {xs : List Value} (h : w.ownsRow base e size v n xs) {a : Option Addr} {c : Nat} (hv : v = .slice a m c) {x : Addr} (hx : a = some x) : Loose w x.block := by
 subst hx
 rcases h.2 with ⟨rfl, _⟩ | ⟨g, cap, cur, rfl, _, hg, _⟩
 ·cases hv
 ·injection hv with h1 h2 h3
  injection h1 with h1
  subst h1
  exact ⟨_, _, hg⟩
def LabFree (w : World) (e : Ser × SerP) : Prop := ∀ z, e.2.la = some z → 0 < e.2.lc → Loose w z.block
set_option maxHeartbeats 1000000 in
theorem clone_lab_f (a : Option Addr) (len cap : Nat) (l : List Lab) (w : World) (hL : SlE Lab.enc 2 w.heap.size w a len l) (hll : len < 2147483648) :
  Calls Tryz.prog 86 #[.slice a len cap] w fun e w' => ∃ a' cap', e = .returned (.slice a' len cap') ∧ SlC Lab.enc 2 w'.heap.size w' a' len cap' l ∧ (∀ x, a' = some x → w.heap.size ≤ x.block) ∧ Below w.heap.size w w' ∧ (∀ x, a' = some x → Loose w' x.block) := by
 have he := eqlnil_lab a len cap
 have hlen := hL.1
 cases a with
 | none =>
  have hl0 : l = [] := by
   cases l with
   | nil => rfl
   | cons y ys => obtain ⟨b, off, e, _⟩ := hL.2 0 y rfl; cases e
  subst hl0
  obtain rfl : len = 0 := hlen
  clear hL
  go_enter Tryz.func86, Tryz.ntmps86
  go_wp2_with fail
  go_ret
  exact ⟨none, 0, rfl, SlC.nil, (fun x h => by cases h), Below.refl _ _, (fun x h => by cases h)⟩
 | some a =>
  have hB1 : Below w.heap.size w (w.alloc (.cells #[] 70)) := (Below.refl _ w).alloc (Nat.le_refl _) _
  have hown : (w.alloc (.cells #[] 70)).ownsRow w.heap.size 70 2 (.slice (some ⟨w.heap.size, 0, none⟩) 0 0) 0 [] := ⟨rfl, .inr ⟨w.heap.size, 0, #[], rfl, Nat.le_refl _, World.alloc_heap_new _ _, Nat.le_refl _, by unfold maxLen; omega, rfl, rfl⟩⟩
  have hL1 := hL.go hB1
  obtain ⟨v4, w4, hap4, hown4, hB4, hz4, -, -⟩ := append_elems Tryz.prog (cap := cap) 40 und_lab info_lab rfl (by decide) hown hB1 (Nat.le_refl _) (by simp) (fun _ => rfl) hL1 one_lab (by omega) hll (by decide)
  rw [Nat.zero_add, List.nil_append, hlen] at hown4
  have hlo4 : ∀ a c, v4 = .slice a l.length c → ∀ x, a = some x → Loose w4 x.block := fun a c hv x hx => owns_loose hown4 hv hx
  obtain ⟨a4, c4, hv4, hs4, hb4⟩ := slC_of_owns (enc := Lab.enc) (fun _ => rfl) hown4
  have HLo := Lib.hid (hlo4 a4 c4 hv4)
  have HS : Hid (SlC Lab.enc 2 w4.heap.size w4 a4 len c4 l) := by rw [Hid, hlen]; exact hs4
  rw [← hlen] at hv4
  subst hv4
  clear hL hL1 hown hs4 hown4 hlen hlo4
  go_enter Tryz.func86, Tryz.ntmps86
  go_wp2_with (at_builtin; refine wp_append_eq rfl _ _ _ rfl rfl rfl hap4 ?_)
  go_ret
  exact ⟨_, _, rfl, HS.out, hb4, hB4, HLo.out⟩
attribute [-go_sem] Builtin.append_
section
variable {B : Nat} {A A' A'' : World}
theorem Apart.of_below (h : Below A.heap.size A A') : Apart B A A' := ⟨h.size, fun b hb _ => h.block b hb⟩
end
theorem box_set {W : World} {B i : Nat} {c : Array Value} {t : TypeId} (h : W.heap[B]? = some (.cells c t (0, 0))) (v : Value) : ∃ V, W.setCell ⟨B, i, none⟩ v = V ∧ V.heap[B]? = some (.cells (c.setIfInBounds i v) t (0, 0)) ∧ Apart B W V ∧ (∀ n w0, n ≤ B → Below n w0 W → Below n w0 V) ∧ V.heap.size ≤ W.heap.size ∧ W.heap.size ≤ V.heap.size :=
 ⟨_, rfl, hSk h v, Apart.set i v, fun _ _ hn hb => hb.setCell (p := ⟨B, i, none⟩) hn v, Nat.le_of_eq (World.size_setCell ..), Nat.le_of_eq (World.size_setCell ..).symm⟩
theorem GrowS.push_own {base : Nat} {q : Nat → Prop} {W w1 : World} {v v' : Value} {l : List (Ser × SerP)} (h : GrowS base q W v l) (hn : l.length < 4294967) {x : Ser} {p : SerP}
  (hap : (Builtin.append_ #[22, 22] 22 #[v, .slice (some ⟨W.heap.size, 0, none⟩) 1 1]).run Tryz.prog (W.alloc (.cells (serVals x p).toArray 43)) = .ok v' w1) : v'.ownBlock = v.ownBlock ∨ ∃ g, v'.ownBlock = some g ∧ W.heap.size ≤ g := by
 have hcell : ∀ j u, (serVals x p)[j]? = some u → (W.alloc (.cells (serVals x p).toArray 43)).cell? ((⟨W.heap.size, 0, none⟩ : Addr).add j) = some u := fun j u hj => by
  have := cCc (World.alloc_heap_new W (.cells (serVals x p).toArray 43)) j
  have ea : (⟨W.heap.size, 0, none⟩ : Addr).add j = ⟨W.heap.size, j, none⟩ := by unfold Addr.add; split <;> simp_all
  rw [ea, this]
  simpa using hj
 rcases append_where 22 und_table info_series (h.own.alloc _) (n := l.length) (m := 1) rfl hcell (serEnc_one (x, p)) (by omega) (by unfold maxLen; omega) (by omega) hap with e | ⟨g, e, hg⟩
 ·exact .inl e
 ·refine .inr ⟨g, e, ?_⟩
  simp at hg
  omega
def AddFit (l : List (Ser × SerP)) : Prop := ∀ e ∈ l, e.2.ll < 2147483648 ∧ e.2.ss.Short
set_option maxRecDepth 100000 in
set_option maxHeartbeats 4000000 in
theorem series_add_any (base : Nat) (m : List (Ser × SerP)) (v : Value) (l : List (Ser × SerP)) (a : Option Addr) (len cap : Nat) (w : World) (hbase : base ≤ w.heap.size) (hM : GrowS base (base ≤ ·) w v m) (hT : Tab w.heap.size w a len cap l) (hA : AddFit l) (hn : m.length + l.length < 4294967) (hfar : ∀ z, a = some z → 0 < cap → some z.block ≠ v.ownBlock) (hoff : ∀ e ∈ l, e.2.Off (fun b => some b ≠ v.ownBlock)) (hfree : ∀ e ∈ m, LabFree w e) :
  Calls Tryz.prog 53 #[v, .slice a len cap] w fun e w' => ∃ v' m', e = .returned v' ∧ GrowS base (base ≤ ·) w' v' (m ++ m') ∧ m'.map (·.1) = l.map (·.1) ∧ Below base w w' ∧ (∀ e ∈ m ++ m', LabFree w' e) := by
 have hlen := hT.row.1.1
 subst hlen
 have HT := Lib.hid hT
 have HA := Lib.hid hA
 have HM := Lib.hid hM
 have HO := Lib.hid (And.intro hfar hoff)
 have hm : l.length ≤ maxLen := Nat.le_trans hT.row.2.1 hT.row.2.2.1
 unfold maxLen at hm
 obtain ⟨va, vc, rfl⟩ := hM.form
 have HFree := Lib.hid hfree
 clear hT hA hM hfar hoff hfree
 go_enter Tryz.func53, Tryz.ntmps53
 go_wp2_with fail
 go_loopw [0, 9] (fun v i wr => ∃ (k : Nat) (m' : List (Ser × SerP)), i = .int .i64 k ∧ k ≤ l.length ∧ GrowS base (base ≤ ·) wr v (m ++ m') ∧ Hid (m'.length = k) ∧ Hid (m'.map (·.1) = (l.map (·.1)).take k) ∧ Below base w wr ∧ w.heap.size ≤ wr.heap.size ∧ Hid (∀ b, b < w.heap.size → some b ≠ Value.ownBlock (.slice va m.length vc) → wr.heap[b]? = w.heap[b]? ∧ some b ≠ v.ownBlock) ∧ Hid (∀ e ∈ m ++ m', LabFree wr e)) (fun _ i _ => l.length - (intOf i).toNat)
 case atStart => exact ⟨0, [], rfl, Nat.zero_le _, by rw [List.append_nil]; exact HM.out, rfl, rfl, Below.refl _ _, Nat.le_refl _, (fun b _ h => ⟨rfl, h⟩), by rw [List.append_nil]; exact HFree.out⟩
 case round =>
  obtain ⟨k, m', rfl, hk, hG, HL, HMP, hB, hsz, HFr, HFe⟩ := hrel
  have HG := Lib.hid hG
  obtain ⟨ua, uc, hu⟩ := hG.form
  subst hu
  have hnn : (m ++ m').length < 4294967 := by rw [List.length_append, HL.out]; omega
  obtain ⟨nn, hnE⟩ : ∃ nn, (m ++ m').length = nn := ⟨_, rfl⟩
  have HN := Lib.hid hnE
  rw [hnE] at HG HFr hnn ⊢
  clear hG hnE
  by_cases hlt : k < l.length
  ·obtain ⟨⟨x, p⟩, hx⟩ : ∃ x, l[k]? = some x := ⟨_, List.getElem?_eq_getElem hlt⟩
   obtain ⟨b, off, rfl, hbb, hc⟩ := HT.out.row.1.2 k (x, p) hx
   have hblk : wr.heap[b]? = w.heap[b]? := (HFr.out b hbb (HO.out.1 _ rfl (by have := HT.out.row.2.1; omega))).1
   replace hc : ∀ i, i < 12 → wr.cell? ⟨b, off + k * 12 + i, none⟩ = (serEnc (x, p))[i]? := fun i hi => (cell_heap (p := ⟨b, off + k * 12 + i, none⟩) hblk).trans (hc i hi)
   have c0 : wr.cell? ⟨b, off + k * 12, none⟩ = some (.slice p.la p.ll p.lc) := hc 0 (by omega)
   have c1 : wr.cell? ⟨b, off + k * 12 + 1, none⟩ = some (.int .i64 x.sk.kind) := hc 1 (by omega)
   have c2 : wr.cell? ⟨b, off + k * 12 + 2, none⟩ = some (.int .i64 x.sk.level) := hc 2 (by omega)
   have c3 : wr.cell? ⟨b, off + k * 12 + 3, none⟩ = some (.slice p.ss.ea p.ss.el p.ss.ec) := hc 3 (by omega)
   have c4 : wr.cell? ⟨b, off + k * 12 + 4, none⟩ = some (.int .i64 x.sk.hb) := hc 4 (by omega)
   have c5 : wr.cell? ⟨b, off + k * 12 + 5, none⟩ = some (.string x.sk.hr) := hc 5 (by omega)
   have c6 : wr.cell? ⟨b, off + k * 12 + 6, none⟩ = some (.int .i64 x.sk.cr) := hc 6 (by omega)
   have c7 : wr.cell? ⟨b, off + k * 12 + 7, none⟩ = some (.int .i64 x.sk.cc) := hc 7 (by omega)
   have c8 : wr.cell? ⟨b, off + k * 12 + 8, none⟩ = some (.slice p.ss.ca p.ss.cl p.ss.cc) := hc 8 (by omega)
   have c9 : wr.cell? ⟨b, off + k * 12 + 9, none⟩ = some (.int .i64 x.sk.gf) := hc 9 (by omega)
   have c10 : wr.cell? ⟨b, off + k * 12 + 10, none⟩ = some (.slice p.ss.ga p.ss.gl p.ss.gc) := hc 10 (by omega)
   have c11 : wr.cell? ⟨b, off + k * 12 + 11, none⟩ = some (.int .u64 x.seen) := hc 11 (by omega)
   have HX : Hid ((l.map (·.1))[k]? = some x) := by rw [Hid, List.getElem?_map, hx]; rfl
   have HAx := Lib.hid (HA.out _ (List.mem_of_getElem? hx))
   have HP : Hid (p.At wr.heap.size wr x) := ((HT.out.at_ _ (List.mem_of_getElem? hx)).frame (HO.out.2 _ (List.mem_of_getElem? hx)) (fun b hb hq => (HFr.out b hb hq).1)).mono hsz
   obtain ⟨W1, hW1, hX1, hB1, hs1⟩ := boxes1 wr #[.slice p.la p.ll p.lc, .int .i64 x.sk.kind, .int .i64 x.sk.level, .slice p.ss.ea p.ss.el p.ss.ec, .int .i64 x.sk.hb, .string x.sk.hr, .int .i64 x.sk.cr, .int .i64 x.sk.cc, .slice p.ss.ca p.ss.cl p.ss.cc, .int .i64 x.sk.gf, .slice p.ss.ga p.ss.gl p.ss.gc, .int .u64 x.seen] 43
   obtain ⟨r0, r1, r2, r3, r4, r5, r6, r7, r8, r9, r10, r11⟩ := cl12 hX1
   have HP1 : Hid (p.At W1.heap.size W1 x) := HP.out.go hB1
   have hz1 : wr.heap.size < W1.heap.size := by omega
   have HN5 : Hid (p.Off (· ≠ wr.heap.size)) := HP.out.off.imp (fun b hb => Nat.ne_of_lt hb)
   clear hc hx hblk
   go_wp2_with fail
   have HA0 : Hid (p.ss.Short) := HAx.out.2
   refine (clone_lab_f p.la p.ll p.lc x.l W1 HP1.out.l.1 HAx.out.1).mono ?_
   rintro e w2 ⟨la', lc', rfl, hl2, hlo2, hb2, hlf2⟩
   have HLf2 := Lib.hid hlf2
   clear hlf2
   have hX2 := known hb2 (Nat.le_refl _) hX1
   have hZ2 := hb2.size
   have g2 : w2.cell? ⟨wr.heap.size, 0, none⟩ = some (.slice p.la p.ll p.lc) := cCc hX2 0
   have f2 : w2.frozen? ⟨wr.heap.size, 0, none⟩ = false := cFz hX2 0
   obtain ⟨V2, hV2, hXV2, hAp2, hBV2, hs2, ht2⟩ := box_set (i := 0) hX2 (.slice la' p.ll lc')
   have d3 : V2.cell? ⟨wr.heap.size, 3, none⟩ = some (.slice p.ss.ea p.ss.el p.ss.ec) := cCc hXV2 3
   have HPe : Hid (SlC encU 1 V2.heap.size V2 p.ss.ea p.ss.el p.ss.ec x.sk.e) := ((HP1.out.go hb2).s.e).apart (HN5.out.e) hAp2
   have HPc : Hid (SlC encU 1 V2.heap.size V2 p.ss.ca p.ss.cl p.ss.cc x.sk.cl) := ((HP1.out.go hb2).s.c).apart (HN5.out.c) hAp2
   have HPg : Hid (SlC encB 2 V2.heap.size V2 p.ss.ga p.ss.gl p.ss.gc x.sk.gl) := ((HP1.out.go hb2).s.g).apart (HN5.out.g) hAp2
   have HL2 : Hid (SlC Lab.enc 2 V2.heap.size V2 la' p.ll lc' x.l) := hl2.apart (fun z hz _ => by have := hlo2 z hz; omega) hAp2
   have HB2 : Hid (Below wr.heap.size wr V2) := hBV2 _ _ (Nat.le_refl _) (hB1.trans (hb2.mono (by omega)))
   clear r0 r1 r2 r3 r4 r5 r6 r7 r8 r9 r10 r11 c0 c1 c2 c3 c4 c5 c6 c7 c8 c9 c10 c11 hX1 hW1 hX2 hl2
   go_wp2_with fail
   refine (clone_u64 p.ss.ea p.ss.el p.ss.ec x.sk.e V2 HPe.out.1 HA0.out.1).mono ?_
   rintro e w3 ⟨ea', ec', rfl, hl3, hlo3, hb3⟩
   have hX3 := known hb3 (Nat.le_refl _) hXV2
   have hZ3 := hb3.size
   have g3 : w3.cell? ⟨wr.heap.size, 3, none⟩ = some (.slice p.ss.ea p.ss.el p.ss.ec) := cCc hX3 3
   have f3 : w3.frozen? ⟨wr.heap.size, 3, none⟩ = false := cFz hX3 3
   obtain ⟨V3, hV3, hXV3, hAp3, hBV3, hs3, ht3⟩ := box_set (i := 3) hX3 (.slice ea' p.ss.el ec')
   have d8 : V3.cell? ⟨wr.heap.size, 8, none⟩ = some (.slice p.ss.ca p.ss.cl p.ss.cc) := cCc hXV3 8
   have HPc3 : Hid (SlC encU 1 V3.heap.size V3 p.ss.ca p.ss.cl p.ss.cc x.sk.cl) := (HPc.out.go hb3).apart (HN5.out.c) hAp3
   have HPg3 : Hid (SlC encB 2 V3.heap.size V3 p.ss.ga p.ss.gl p.ss.gc x.sk.gl) := (HPg.out.go hb3).apart (HN5.out.g) hAp3
   have HL3 : Hid (SlC Lab.enc 2 V3.heap.size V3 la' p.ll lc' x.l) := (HL2.out.go hb3).apart (fun z hz _ => by have := hlo2 z hz; omega) hAp3
   have HE3 : Hid (SlC encU 1 V3.heap.size V3 ea' p.ss.el ec' x.sk.e) := hl3.apart (fun z hz _ => by have := hlo3 z hz; omega) hAp3
   have HB3 : Hid (Below wr.heap.size wr V3) := hBV3 _ _ (Nat.le_refl _) (HB2.out.trans (hb3.mono (by omega)))
   clear hV2 hXV2 g2 f2 d3 hX3 hl3
   go_wp2_with fail
   refine (clone_u64 p.ss.ca p.ss.cl p.ss.cc x.sk.cl V3 HPc3.out.1 HA0.out.2.1).mono ?_
   rintro e w4 ⟨ca', cc', rfl, hl4, hlo4, hb4⟩
   have hX4 := known hb4 (Nat.le_refl _) hXV3
   have hZ4 := hb4.size
   have g4 : w4.cell? ⟨wr.heap.size, 8, none⟩ = some (.slice p.ss.ca p.ss.cl p.ss.cc) := cCc hX4 8
   have f4 : w4.frozen? ⟨wr.heap.size, 8, none⟩ = false := cFz hX4 8
   obtain ⟨V4, hV4, hXV4, hAp4, hBV4, hs4, ht4⟩ := box_set (i := 8) hX4 (.slice ca' p.ss.cl cc')
   have d10 : V4.cell? ⟨wr.heap.size, 10, none⟩ = some (.slice p.ss.ga p.ss.gl p.ss.gc) := cCc hXV4 10
   have HPg4 : Hid (SlC encB 2 V4.heap.size V4 p.ss.ga p.ss.gl p.ss.gc x.sk.gl) := (HPg3.out.go hb4).apart (HN5.out.g) hAp4
   have HL4 : Hid (SlC Lab.enc 2 V4.heap.size V4 la' p.ll lc' x.l) := (HL3.out.go hb4).apart (fun z hz _ => by have := hlo2 z hz; omega) hAp4
   have HE4 : Hid (SlC encU 1 V4.heap.size V4 ea' p.ss.el ec' x.sk.e) := (HE3.out.go hb4).apart (fun z hz _ => by have := hlo3 z hz; omega) hAp4
   have HC4 : Hid (SlC encU 1 V4.heap.size V4 ca' p.ss.cl cc' x.sk.cl) := hl4.apart (fun z hz _ => by have := hlo4 z hz; omega) hAp4
   have HB4 : Hid (Below wr.heap.size wr V4) := hBV4 _ _ (Nat.le_refl _) (HB3.out.trans (hb4.mono (by omega)))
   clear hV3 hXV3 g3 f3 d8 hX4 hl4
   go_wp2_with fail
   refine (clone_bin p.ss.ga p.ss.gl p.ss.gc x.sk.gl V4 HPg4.out.1 HA0.out.2.2).mono ?_
   rintro e w5 ⟨ga', gc', rfl, hl5, hlo5, hb5⟩
   have hX5 := known hb5 (Nat.le_refl _) hXV4
   have hZ5 := hb5.size
   have g5 : w5.cell? ⟨wr.heap.size, 10, none⟩ = some (.slice p.ss.ga p.ss.gl p.ss.gc) := cCc hX5 10
   have f5 : w5.frozen? ⟨wr.heap.size, 10, none⟩ = false := cFz hX5 10
   obtain ⟨V5, hV5, hXV5, hAp5, hBV5, hs5, ht5⟩ := box_set (i := 10) hX5 (.slice ga' p.ss.gl gc')
   have HL5 := (HL4.out.go hb5).apart (fun z hz _ => by have := hlo2 z hz; omega) hAp5
   have HE5 := (HE4.out.go hb5).apart (fun z hz _ => by have := hlo3 z hz; omega) hAp5
   have HC5 := (HC4.out.go hb5).apart (fun z hz _ => by have := hlo4 z hz; omega) hAp5
   have HG5 := hl5.apart (fun z hz _ => by have := hlo5 z hz; omega) hAp5
   have hB5 : Below wr.heap.size wr V5 := hBV5 _ _ (Nat.le_refl _) (HB4.out.trans (hb5.mono (by omega)))
   have hApp : Apart wr.heap.size w2 V5 := (((((hAp2.trans (Apart.of_below hb3)).trans hAp3).trans (Apart.of_below hb4)).trans hAp4).trans (Apart.of_below hb5)).trans hAp5
   have HLf5 : Hid (∀ z, la' = some z → Loose V5 z.block) := fun z hz => (HLf2.out z hz).of_heap (hApp.2 _ (HLf2.out z hz).lt (by have := hlo2 z hz; omega))
   clear hApp
   obtain ⟨p', hp'⟩ : ∃ p' : SerP, p' = ⟨la', p.ll, lc', ⟨ea', p.ss.el, ec', ca', p.ss.cl, cc', ga', p.ss.gl, gc'⟩⟩ := ⟨_, rfl⟩
   have HAt : p'.At V5.heap.size V5 x := by subst hp'; exact ⟨HL5, HE5, HC5, HG5⟩
   have HOf : p'.Off (fun b => base ≤ b ∧ some b ≠ Value.ownBlock (.slice ua nn uc)) := by
    have hlt := HG.out.own.lt
    have hk0 : ∀ z, wr.heap.size ≤ z → base ≤ z ∧ some z ≠ Value.ownBlock (.slice ua nn uc) := fun z hz => ⟨by have := hB.size; omega, fun h => by have := (hlt z h.symm).2; omega⟩
    subst hp'
    exact ⟨fun z h1 _ => hk0 _ (by have := hlo2 z h1; omega), fun z h1 _ => hk0 _ (by have := hlo3 z h1; omega), fun z h1 _ => hk0 _ (by have := hlo4 z h1; omega), fun z h1 _ => hk0 _ (by have := hlo5 z h1; omega)⟩
   obtain ⟨g6, cap6, w6, hap6, hG6, hB6, hz6, hfr6⟩ := (HG.out.go hB5).push (hB.trans (hB5.mono (by omega))) (Nat.le_refl _) (by have := hB5.size; omega) (by rw [HN.out]; exact hnn) HAt HOf
   have hown6 := (HG.out.go hB5).push_own (by rw [HN.out]; exact hnn) hap6
   rw [HN.out] at hap6 hG6 hown6
   obtain ⟨s0, s1, s2, s3, s4, s5, s6, s7, s8, s9, s10, s11⟩ := cl12 hXV5
   have FI : Hid (∃ m'' : List (Ser × SerP), GrowS base (base ≤ ·) w6 (.slice (some ⟨g6, 0, none⟩) (nn + 1) cap6) (m ++ m'') ∧ m''.length = k + 1 ∧ m''.map (·.1) = (l.map (·.1)).take (k + 1) ∧ Below base w w6 ∧ w.heap.size ≤ w6.heap.size ∧ (∀ b, b < w.heap.size → some b ≠ Value.ownBlock (.slice va m.length vc) → w6.heap[b]? = w.heap[b]? ∧ some b ≠ Value.ownBlock (.slice (some ⟨g6, 0, none⟩) (nn + 1) cap6)) ∧ (∀ e ∈ m ++ m'', LabFree w6 e)) := by
    have hz5 := hB5.size
    refine ⟨m' ++ [(x, p')], by rw [← List.append_assoc]; exact hG6, by rw [List.length_append, HL.out]; rfl, ?_, hB6, by omega, fun c hc hc2 => ?_, fun e he z hz hz0 => ?_⟩
    ·rw [List.map_append, HMP.out, take_snoc' HX.out]; rfl
    ·obtain ⟨h1, h2⟩ := HFr.out c hc hc2
     refine ⟨(hfr6 c (by omega) h2).trans ((hB5.block c (by omega)).trans h1), ?_⟩
     rcases hown6 with h | ⟨g, h, hg⟩
     ·rw [h]; exact h2
     ·rw [h]; intro h3; injection h3 with h3; omega
    ·rw [← List.append_assoc] at he
     rcases List.mem_append.1 he with he | he
     ·have h1 := HFe.out e he z hz hz0
      have h2 := h1.lt
      exact (h1.of_heap (hB5.block _ h2)).of_heap (hfr6 _ (by omega) ((HG.out.off e he).l z hz hz0).2)
     ·rw [List.mem_singleton] at he
      subst he
      have h3 := HOf.l z hz hz0
      subst hp'
      have h1 := HLf5.out z hz
      exact h1.of_heap (hfr6 _ h1.lt h3.2)
   unfold serVals at hap6
   clear hs1
   subst hp'
   dsimp only at hap6
   clear hV4 hXV4 g4 f4 d10 hX5 hl5 HL5 HE5 HC5 HG5 hAp5 hAp4 hAp3 hAp2 hG6 hfr6 hown6 HOf HAt hXV5 hBV5 hBV4 hBV3 hBV2
   go_wp2_with fail
   go_roundw
   case rel =>
    obtain ⟨m'', h1, h2, h3, h4, h5, h6, h7⟩ := FI.out
    exact ⟨k + 1, m'', by go_num, by omega, h1, h2, h3, h4, h5, h6, h7⟩
   case measure => simp [intOf]; omega
  ·have H9 : Hid (m'.map (·.1) = l.map (·.1)) := by rw [Hid, HMP.out, List.take_of_length_le (by rw [List.length_map]; omega)]
   go_wp2_with fail
   go_ret
   exact ⟨_, rfl, m', HG.out, H9.out, hB, fun a b h => HFe.out (a, b) (List.mem_append.2 h)⟩
end Go.Proofs.YthbhmnakmhambaaGreatDoor
namespace Go.Proofs.YthbhmnakmhambaaGreatDoor
open Go Go.RowKit Go.Shelf
theorem slice_to (a : Option Addr) (len cap m : Nat) (w : World) (h : m ≤ cap) : (Instr.slice 22 (.slice a len cap) none (some (.int .i64 (m : Int))) none).run Tryz.prog w = .ok (.slice a m cap) w := by
 have hz := dropA_zero a cap 12
 unfold dropA at hz
 have hs : (sizeOf 43).run Tryz.prog w = .ok 12 w := by kernel_rfl
 have he : Tryz.prog.elem 22 = 43 := by kernel_rfl
 rw [run_slice_h (t := 22) (a := a) (len := len) (cap := cap) (w := w) (ht := by rw [he]; exact und_table) (kh := .i64) (h := (m : Int)) (by omega) (by omega), he, hs]
 simp only [Result.andThen, sliced, Int.toNat_natCast, Nat.sub_zero, hz]
theorem slice_from (a : Option Addr) (len cap m : Nat) (w : World) (h : m ≤ len) : (Instr.slice 22 (.slice a len cap) (some (.int .i64 (m : Int))) none none).run Tryz.prog w = .ok (.slice (dropA a cap m 12) (len - m) (cap - m)) w := by
 have hs : (sizeOf 43).run Tryz.prog w = .ok 12 w := by kernel_rfl
 have he : Tryz.prog.elem 22 = 43 := by kernel_rfl
 rw [run_slice_l (t := 22) (a := a) (len := len) (cap := cap) (w := w) (ht := by rw [he]; exact und_table) (kl := .i64) (l := (m : Int)) (by omega) (by omega), he, hs]
 simp only [Result.andThen, sliced, Int.toNat_natCast, dropA]
theorem tab_one {w : World} {x : Ser} {p : SerP} (h : p.At w.heap.size w x) : Tab (w.alloc (.cells (serVals x p).toArray 43)).heap.size (w.alloc (.cells (serVals x p).toArray 43)) (some ⟨w.heap.size, 0, none⟩) 1 1 [(x, p)] := by
 have hB : Below w.heap.size w (w.alloc (.cells (serVals x p).toArray 43)) := (Below.refl _ w).alloc (Nat.le_refl _) _
 have hz : w.heap.size < (w.alloc (.cells (serVals x p).toArray 43)).heap.size := by simp
 refine ⟨⟨⟨rfl, fun j y hy => ?_⟩, Nat.le_refl _, by unfold maxLen; omega, (fun h => by cases h), fun z hz1 _ => ?_⟩, fun e he => ?_⟩
 ·have hj : j = 0 := by have := (List.getElem?_eq_some_iff.1 hy).1; simp at this; exact this
  subst hj
  obtain rfl : (x, p) = y := by simpa using hy
  refine ⟨w.heap.size, 0, rfl, hz, fun i hi => ?_⟩
  have := cCc (World.alloc_heap_new w (.cells (serVals x p).toArray 43)) i
  simp [serEnc]
 ·injection hz1 with hz1
  subst hz1
  exact ⟨rfl, hz⟩
 ·rw [List.mem_singleton] at he
  subst he
  exact h.go hB
theorem make_table (w : World) (c : Nat) (hc : c ≤ 1000) : ∃ w', (Instr.makeSlice 22 (.int .i64 0) (.int .i64 (c : Int))).run Tryz.prog w = .ok (.slice (some ⟨w.heap.size, 0, none⟩) 0 c) w' ∧ GrowS w.heap.size (w.heap.size ≤ ·) w' (.slice (some ⟨w.heap.size, 0, none⟩) 0 c) [] ∧ Below w.heap.size w w' := by
 obtain ⟨i, hi, hz, hsize, hby⟩ := info_parts info_series
 obtain ⟨w', h1, h2, h3⟩ := run_makeSlice_owned (P := Tryz.prog) w w.heap.size 22 43 i _ 12 und_table hi hz hsize .i64 .i64 c (by omega) (by rw [hby]; omega) (by unfold maxLen; omega) (Nat.le_refl _)
 exact ⟨w', h1, ⟨h2, (fun e h => by cases h), (fun e h => by cases h)⟩, ⟨h3.os, h3.tape, h3.output, h3.size, fun k hk => h3.block k hk (fun h => by cases h)⟩⟩
def putL (l : List Ser) (x : Ser) : List Ser := l.take (findAt l x.l) ++ x :: l.drop (findAt l x.l + (if thereAt l x.l then 1 else 0))
def putOk (l : List Ser) (x : Ser) : Bool := tabRight l && serRight x && (thereAt l x.l || !(l.length == 20))
def PutPost (l : List Ser) (x : Ser) (w : World) (e : Ending) (w' : World) : Prop :=
 Below w.heap.size w w' ∧ ((putOk l x = false ∧ e = .returned (.tuple #[.slice none 0 0, .int .i64 120])) ∨
  (putOk l x = true ∧ ∃ a' cap' m, e = .returned (.tuple #[.slice a' (List.length m) cap', .int .i64 0]) ∧ Tab w'.heap.size w' a' m.length cap' m ∧ m.map (·.1) = putL l x ∧ (∀ z, a' = some z → w.heap.size ≤ z.block) ∧ (∀ e ∈ m, e.2.Off (fun b => w.heap.size ≤ b ∧ ∀ z, a' = some z → b ≠ z.block)) ∧ (∀ z, a' = some z → Loose w' z.block) ∧ (∀ e ∈ m, LabFree w' e)))
theorem tabGo_all : ∀ (l : List Ser) (p : Option (List Lab)), tabGo p l = true → ∀ x ∈ l, serRight x = true
 | [], _, _, x, h => by cases h
 | y :: r, p, h, x, hx => by
  simp only [tabGo, Bool.and_eq_true] at h
  rcases List.mem_cons.1 hx with rfl | hx
  ·exact h.1.1
  ·exact tabGo_all r _ h.2 x hx
theorem addFit_of {l : List (Ser × SerP)} {n : Nat} {w : World} {a : Option Addr} {len cap : Nat} (hr : tabRight (l.map (·.1)) = true) (hF : TabFit l) (hT : Tab n w a len cap l) : AddFit l := fun e he => by
 simp only [tabRight, Bool.and_eq_true] at hr
 have h1 := tabGo_all _ _ hr.2 e.1 (List.mem_map_of_mem he)
 simp only [serRight, Bool.and_eq_true] at h1
 exact (hF e he).add h1.1 (hT.at_ e he)
end Go.Proofs.YthbhmnakmhambaaGreatDoor
namespace Go.Proofs.YthbhmnakmhambaaGreatDoor
open Go Go.RowKit Go.Shelf
theorem put_close {base : Nat} {L : List Ser} {x : Ser} {w w' : World} {v : Value} {M : List (Ser × SerP)} (hok : putOk L x = true) (hB : Below w.heap.size w w') (hb : w.heap.size ≤ base) (h : GrowS base (base ≤ ·) w' v M) (hM : M.map (·.1) = putL L x) (hfr : ∀ e ∈ M, LabFree w' e) : PutPost L x w (.returned (.tuple #[v, .int .i64 0])) w' := by
 have hown := h.own
 obtain ⟨a', cap', rfl, hT', hlo, hof⟩ := h.tab
 exact ⟨hB, .inr ⟨hok, a', cap', M, rfl, hT', hM, fun z hz => Nat.le_trans hb (hlo z hz), fun e he => (hof e he).imp fun b hb' => ⟨Nat.le_trans hb hb'.1, hb'.2⟩, fun z hz => owns_loose hown rfl hz, hfr⟩⟩
theorem make_table1 (w : World) (c : Nat) (hc : c ≤ 900) : ∃ w', (Instr.makeSlice 22 (.int .i64 0) (.int .i64 ((c : Int) + 1))).run Tryz.prog w = .ok (.slice (some ⟨w.heap.size, 0, none⟩) 0 (c + 1)) w' ∧ GrowS w.heap.size (w.heap.size ≤ ·) w' (.slice (some ⟨w.heap.size, 0, none⟩) 0 (c + 1)) [] ∧ Below w.heap.size w w' := by
 have h := make_table w (c + 1) (by omega)
 rw [show ((c + 1 : Nat) : Int) = (c : Int) + 1 by omega] at h
 exact h
theorem slice_from1 (a : Option Addr) (len cap m : Nat) (w : World) (h : m < len) : (Instr.slice 22 (.slice a len cap) (some (.int .i64 ((m : Int) + 1))) none none).run Tryz.prog w = .ok (.slice (dropA a cap (m + 1) 12) (len - (m + 1)) (cap - (m + 1))) w := by
 have h := slice_from a len cap (m + 1) w h
 rw [show ((m + 1 : Nat) : Int) = (m : Int) + 1 by omega] at h
 exact h
theorem add_old (base : Nat) (m : List (Ser × SerP)) (v : Value) (l : List (Ser × SerP)) (a : Option Addr) (len cap : Nat) (W w : World) (hW : W.heap.size ≤ base) (hb : Below W.heap.size W w) (hbase : base ≤ w.heap.size) (hM : GrowS base (base ≤ ·) w v m) (hT : Tab W.heap.size W a len cap l) (hA : AddFit l) (hn : m.length + l.length < 4294967) (hfree : ∀ e ∈ m, LabFree w e) :
  Calls Tryz.prog 53 #[v, .slice a len cap] w fun e w' => ∃ v' m', e = .returned v' ∧ GrowS base (base ≤ ·) w' v' (m ++ m') ∧ m'.map (·.1) = l.map (·.1) ∧ Below base w w' ∧ (∀ e ∈ m ++ m', LabFree w' e) := by
 have hlt := hM.own.lt
 refine series_add_any base m v l a len cap w hbase hM ((hT.below hb).mono hb.size) hA hn (fun z hz h0 h => ?_) (fun e he => (hT.at_ e he).off.imp fun b hb h => ?_) hfree
 ·have h1 := (hT.row.2.2.2.2 z hz h0).2
  have h2 := (hlt _ h.symm).1
  omega
 ·have h2 := (hlt _ h.symm).1
  omega
theorem add_new (base : Nat) (m : List (Ser × SerP)) (v : Value) (x : Ser) (p : SerP) (W w : World) (hW : W.heap.size ≤ base) (hb : Below W.heap.size W w) (hbase : base ≤ w.heap.size) (hM : GrowS base (base ≤ ·) w v m) (hP : p.At W.heap.size W x) (hA : AddFit [(x, p)]) (hn : m.length + 1 < 4294967) (hfree : ∀ e ∈ m, LabFree w e) :
  Calls Tryz.prog 53 #[v, .slice (some ⟨w.heap.size, 0, none⟩) 1 1] (w.alloc (.cells #[.slice p.la p.ll p.lc, .int .i64 x.sk.kind, .int .i64 x.sk.level, .slice p.ss.ea p.ss.el p.ss.ec, .int .i64 x.sk.hb, .string x.sk.hr, .int .i64 x.sk.cr, .int .i64 x.sk.cc, .slice p.ss.ca p.ss.cl p.ss.cc, .int .i64 x.sk.gf, .slice p.ss.ga p.ss.gl p.ss.gc, .int .u64 x.seen] 43)) fun e w' => ∃ v' m', e = .returned v' ∧ GrowS base (base ≤ ·) w' v' (m ++ m') ∧ m'.map (·.1) = [(x, p)].map (·.1) ∧ Below base w w' ∧ (∀ e ∈ m ++ m', LabFree w' e) := by
 have hlt := hM.own.lt
 have hB : Below w.heap.size w (w.alloc (.cells #[.slice p.la p.ll p.lc, .int .i64 x.sk.kind, .int .i64 x.sk.level, .slice p.ss.ea p.ss.el p.ss.ec, .int .i64 x.sk.hb, .string x.sk.hr, .int .i64 x.sk.cr, .int .i64 x.sk.cc, .slice p.ss.ca p.ss.cl p.ss.cc, .int .i64 x.sk.gf, .slice p.ss.ga p.ss.gl p.ss.gc, .int .u64 x.seen] 43)) := (Below.refl _ w).alloc (Nat.le_refl _) _
 have hz := hB.size
 refine (series_add_any base m v [(x, p)] (some ⟨w.heap.size, 0, none⟩) 1 1 (w.alloc (.cells #[.slice p.la p.ll p.lc, .int .i64 x.sk.kind, .int .i64 x.sk.level, .slice p.ss.ea p.ss.el p.ss.ec, .int .i64 x.sk.hb, .string x.sk.hr, .int .i64 x.sk.cr, .int .i64 x.sk.cc, .slice p.ss.ca p.ss.cl p.ss.cc, .int .i64 x.sk.gf, .slice p.ss.ga p.ss.gl p.ss.gc, .int .u64 x.seen] 43)) (by omega) (hM.go hB) (tab_one ((hP.below hb).mono hb.size)) hA hn (fun z hz h0 h => ?_) (fun e he => ?_) (fun e he z hz h0 => (hfree e he z hz h0).go hB)).mono ?_
 ·injection hz with hz
  subst hz
  have h2 := (hlt _ h.symm).2
  dsimp only at h2
  omega
 ·rw [List.mem_singleton] at he
  subst he
  refine hP.off.imp fun b hb h => ?_
  have h2 := (hlt _ h.symm).1
  omega
 ·rintro e w' ⟨v', m', h1, h2, h3, h4, h5⟩
  exact ⟨v', m', h1, h2, h3, (hB.mono hbase).trans h4, h5⟩
set_option maxRecDepth 100000 in
set_option maxHeartbeats 4000000 in
theorem series_Put_any (l : List (Ser × SerP)) (a : Option Addr) (len cap : Nat) (x : Ser) (p : SerP) (w : World) (hT : Tab w.heap.size w a len cap l) (hF : TabFit l) (hP : p.At w.heap.size w x) (hS : SerFit x p) (hG : GW w) :
  Calls Tryz.prog 23 #[.slice a len cap, .agg #[.slice p.la p.ll p.lc, .int .i64 x.sk.kind, .int .i64 x.sk.level, .slice p.ss.ea p.ss.el p.ss.ec, .int .i64 x.sk.hb, .string x.sk.hr, .int .i64 x.sk.cr, .int .i64 x.sk.cc, .slice p.ss.ca p.ss.cl p.ss.cc, .int .i64 x.sk.gf, .slice p.ss.ga p.ss.gl p.ss.gc, .int .u64 x.seen]] w (PutPost (l.map (·.1)) x w) := by
 have hlen := hT.row.1.1
 subst hlen
 obtain ⟨W0, hW0, hX0, hB0, hs0⟩ := boxes1 w #[.slice p.la p.ll p.lc, .int .i64 x.sk.kind, .int .i64 x.sk.level, .slice p.ss.ea p.ss.el p.ss.ec, .int .i64 x.sk.hb, .string x.sk.hr, .int .i64 x.sk.cr, .int .i64 x.sk.cc, .slice p.ss.ca p.ss.cl p.ss.cc, .int .i64 x.sk.gf, .slice p.ss.ga p.ss.gl p.ss.gc, .int .u64 x.seen] 43
 obtain ⟨c0, c1, c2, c3, c4, c5, c6, c7, c8, c9, c10, c11⟩ := cl12 hX0
 have HT := Lib.hid hT
 have HT0 : Hid (Tab W0.heap.size W0 a l.length cap l) := hT.go hB0
 have HF := Lib.hid hF
 have HP := Lib.hid hP
 have HP0 : Hid (p.At W0.heap.size W0 x) := hP.go hB0
 have HS := Lib.hid hS
 have HG0 : Hid (GW W0) := hG.below hB0
 have hz0 : w.heap.size < W0.heap.size := by omega
 have hR := series_Right_any l a l.length cap W0 HT0.out HF.out HG0.out
 clear hT hF hP hS hG hs0
 cases hr : tabRight (l.map (·.1)) with
 | false =>
  rw [hr] at hR
  have H9 : Hid (putOk (l.map (·.1)) x = false) := by rw [Hid, putOk, hr]; rfl
  clear hr
  generalize l.map (·.1) = L at H9 ⊢
  go_enter Tryz.func23, Tryz.ntmps23
  go_wp2_with (go_at_call 10; refine hR.mono ?_; rintro e w1 ⟨rfl, hb1⟩)
  go_ret2
  exact ⟨hB0.trans (hb1.mono (by omega)), .inl ⟨H9.out, rfl⟩⟩
 | true =>
  rw [hr] at hR
  have HR2 : Hid (∀ w', Below W0.heap.size W0 w' → Calls Tryz.prog 33 #[.agg #[.slice p.la p.ll p.lc, .int .i64 x.sk.kind, .int .i64 x.sk.level, .slice p.ss.ea p.ss.el p.ss.ec, .int .i64 x.sk.hb, .string x.sk.hr, .int .i64 x.sk.cr, .int .i64 x.sk.cc, .slice p.ss.ca p.ss.cl p.ss.cc, .int .i64 x.sk.gf, .slice p.ss.ga p.ss.gl p.ss.gc, .int .u64 x.seen]] w' fun e w'' => e = .returned (.bool (serRight x)) ∧ Below w'.heap.size w' w'') := fun w' hb => rightSeries_any x p w' (HP0.out.go hb) HS.out (HG0.out.below hb)
  cases hsr : serRight x with
  | false =>
   have H9 : Hid (putOk (l.map (·.1)) x = false) := by rw [Hid, putOk, hr, hsr]; rfl
   rw [hsr] at HR2
   clear hr hsr
   generalize l.map (·.1) = L at H9 ⊢
   go_enter Tryz.func23, Tryz.ntmps23
   go_wp2_with (first
    | (go_at_call 10; refine hR.mono ?_; rintro e w1 ⟨rfl, hb1⟩; obtain ⟨hc1, hd1⟩ := bcell hb1)
    | (go_at_call 33; refine (HR2.out _ hb1).mono ?_; rintro e w2 ⟨rfl, hb2⟩))
   go_ret2
   exact ⟨hB0.trans ((hb1.trans (hb2.mono hb1.size)).mono (by omega)), .inl ⟨H9.out, rfl⟩⟩
  | true =>
   rw [hsr] at HR2
   have hk := findAt_le (l.map (·.1)) x.l
   rw [List.length_map] at hk
   have h20 : l.length ≤ 20 := by simp [tabRight] at hr; exact hr.1
   have hcap : l.length ≤ cap := HT.out.row.2.1
   have hpl : p.ll ≤ maxLen := Nat.le_trans HP.out.l.2.1 HP.out.l.2.2.1
   have HFd : Hid (∀ w', Below W0.heap.size W0 w' → Calls Tryz.prog 52 #[.slice a l.length cap, .slice p.la p.ll p.lc] w' fun e w'' => e = .returned (.tuple #[.int .i64 (findAt (l.map (·.1)) x.l : Int), .bool (thereAt (l.map (·.1)) x.l)]) ∧ Below w'.heap.size w' w'') := fun w' hb => by
    have := series_Find_any l a l.length cap x.l p.la p.ll p.lc w' (HT0.out.go hb) HF.out (HG0.out.below hb) (HP0.out.go hb).l.1 hpl
    rw [hr, if_pos rfl, Bool.true_and] at this
    exact this
   have HAF : Hid (AddFit l) := addFit_of hr HF.out HT.out
   have HAF1 : Hid (AddFit [(x, p)]) := fun e he => by
    rw [List.mem_singleton] at he
    subst he
    simp only [serRight, Bool.and_eq_true] at hsr
    exact HS.out.add hsr.1 HP.out
   have HOK : Hid (putOk (l.map (·.1)) x = (thereAt (l.map (·.1)) x.l || !((l.map (·.1)).length == 20))) := by rw [Hid, putOk, hr, hsr]; rfl
   have HPL : Hid (∀ m1 m2 m3 : List (Ser × SerP), m1.map (·.1) = (l.take (findAt (l.map (·.1)) x.l)).map (·.1) → m2.map (·.1) = [(x, p)].map (·.1) → m3.map (·.1) = (l.drop (findAt (l.map (·.1)) x.l + (if thereAt (l.map (·.1)) x.l then 1 else 0))).map (·.1) → ((([] ++ m1) ++ m2) ++ m3).map (fun e : Ser × SerP => e.1) = putL (l.map (·.1)) x) := fun m1 m2 m3 h1 h2 h3 => by
    rw [List.map_append, List.map_append, List.nil_append, h1, h2, h3, putL, List.map_take, List.map_drop]
    simp
   have HLL : Hid ((l.map (·.1)).length = l.length) := List.length_map ..
   have HK1 : Hid (thereAt (l.map (·.1)) x.l = true → findAt (l.map (·.1)) x.l < l.length) := fun h => by
    unfold thereAt at h
    cases hx : (l.map (·.1))[findAt (l.map (·.1)) x.l]? with
    | none => rw [hx] at h; cases h
    | some y => have := (List.getElem?_eq_some_iff.1 hx).1; rw [List.length_map] at this; exact this
   clear hr hsr
   generalize hkT : findAt (l.map (·.1)) x.l = kT at *
   generalize hbT : thereAt (l.map (·.1)) x.l = bT at *
   generalize l.map (·.1) = L at *
   clear hkT hbT
   cases bT with
   | false =>
    by_cases h19 : l.length = 20
    ·have H9 : Hid (putOk L x = false) := by rw [Hid, HOK.out, HLL.out, h19]; rfl
     have h19' : (l.length : Int) = 20 := by omega
     clear h19
     go_enter Tryz.func23, Tryz.ntmps23
     go_wp2_with (first
      | (go_at_call 10; refine hR.mono ?_; rintro e w1 ⟨rfl, hb1⟩; obtain ⟨hc1, hd1⟩ := bcell hb1)
      | (go_at_call 33; refine (HR2.out _ hb1).mono ?_; rintro e w2 ⟨rfl, hb2⟩; have hb02 := hb1.trans (hb2.mono hb1.size); obtain ⟨hc2, hd2⟩ := bcell hb02)
      | (go_at_call 52; refine (HFd.out _ hb02).mono ?_; rintro e w3 ⟨rfl, hb3⟩))
     go_ret2
     exact ⟨hB0.trans ((hb02.trans (hb3.mono hb02.size)).mono (by omega)), .inl ⟨H9.out, rfl⟩⟩
    ·have H9 : Hid (putOk L x = true) := by rw [Hid, HOK.out, HLL.out]; simp; omega
     have h19' : ¬ ((l.length : Int) = 20) := by omega
     clear h19
     go_enter Tryz.func23, Tryz.ntmps23
     go_wp2_with (first
      | (go_at_call 10; refine hR.mono ?_; rintro e w1 ⟨rfl, hb1⟩; obtain ⟨hc1, hd1⟩ := bcell hb1)
      | (go_at_call 33; refine (HR2.out _ hb1).mono ?_; rintro e w2 ⟨rfl, hb2⟩; have hb02 := hb1.trans (hb2.mono hb1.size); obtain ⟨hc2, hd2⟩ := bcell hb02)
      | (go_at_call 52; refine (HFd.out _ hb02).mono ?_; rintro e w3 ⟨rfl, hb3⟩; have hb03 := hb02.trans (hb3.mono hb02.size); obtain ⟨w4, hmk, hG4, hb4⟩ := make_table1 w3 l.length (by omega); have hsl := slice_to a l.length cap kT w4 (by omega); have hb04 := hb03.trans (hb4.mono hb03.size); obtain ⟨hc4, hd4⟩ := bcell hb04))
     have hz4 := hb04.size
     have hz3 := hb03.size
     have hz34 := hb4.size
     go_at_call 53
     refine (add_old w3.heap.size [] _ (l.take kT) a kT cap W0 w4 hz3 hb04 hz34 hG4 (HT0.out.take kT hk) (fun e he => HAF.out e (List.mem_of_mem_take he)) (by simp; omega) (fun e h => by cases h)).mono ?_
     rintro e w5 ⟨v5, m1, rfl, hG5, hm1, hb5, hf5⟩
     have hb05 : Below W0.heap.size W0 w5 := hb04.trans (hb5.mono hz3)
     obtain ⟨hc5, hd5⟩ := bcell hb05
     have hz5 := hb5.size
     have HG5 := Lib.hid hG5
     have HF5 := Lib.hid hf5
     clear hf5
     have HM1 := Lib.hid hm1
     clear hG4 hG5 hm1
     have hlm1 : m1.length ≤ 20 := by have := congrArg List.length HM1.out; simp at this; omega
     go_wp2_with fail
     refine (add_new w3.heap.size _ _ x p W0 w5 hz3 hb05 (by omega) HG5.out HP0.out HAF1.out (by simp; omega) HF5.out).mono ?_
     rintro e w6 ⟨v6, m2, rfl, hG6, hm2, hb6, hf6⟩
     have hb06 : Below W0.heap.size W0 w6 := hb05.trans (hb6.mono hz3)
     have hz6 := hb6.size
     have HG6 := Lib.hid hG6
     have HF6 := Lib.hid hf6
     clear hf6
     have HM2 := Lib.hid hm2
     have hlm2 : m2.length = 1 := by have := congrArg List.length hm2; simpa using this
     have HL2 := Lib.hid hlm2
     have hsl6 := slice_from a l.length cap kT w6 hk
     clear hG6 hm2 hlm2 hsl
     go_wp2_with fail
     refine (add_old w3.heap.size _ _ (l.drop kT) _ _ _ W0 w6 hz3 hb06 (by omega) HG6.out (HT0.out.drop kT (by omega)) (fun e he => HAF.out e (List.mem_of_mem_drop he)) (by simp [HL2.out]; omega) HF6.out).mono ?_
     rintro e w7 ⟨v7, m3, rfl, hG7, hm3, hb7, hf7⟩
     have hb07 : Below W0.heap.size W0 w7 := hb06.trans (hb7.mono hz3)
     have HG7 := Lib.hid hG7
     have HF7 := Lib.hid hf7
     clear hf7
     have HM3 := Lib.hid hm3
     clear hG7 hm3
     go_wp2_with fail
     go_ret2
     exact put_close H9.out (hB0.trans (hb07.mono (by omega))) (by omega) HG7.out (HPL.out m1 m2 m3 HM1.out HM2.out HM3.out) HF7.out
   | true =>
    have H9 : Hid (putOk L x = true) := HOK.out
    have hk1 : kT < l.length := HK1.out rfl
    go_enter Tryz.func23, Tryz.ntmps23
    go_wp2_with (first
     | (go_at_call 10; refine hR.mono ?_; rintro e w1 ⟨rfl, hb1⟩; obtain ⟨hc1, hd1⟩ := bcell hb1)
     | (go_at_call 33; refine (HR2.out _ hb1).mono ?_; rintro e w2 ⟨rfl, hb2⟩; have hb02 := hb1.trans (hb2.mono hb1.size); obtain ⟨hc2, hd2⟩ := bcell hb02)
     | (go_at_call 52; refine (HFd.out _ hb02).mono ?_; rintro e w3 ⟨rfl, hb3⟩; have hb03 := hb02.trans (hb3.mono hb02.size); obtain ⟨w4, hmk, hG4, hb4⟩ := make_table1 w3 l.length (by omega); have hsl := slice_to a l.length cap kT w4 (by omega); have hb04 := hb03.trans (hb4.mono hb03.size); obtain ⟨hc4, hd4⟩ := bcell hb04))
    have hz4 := hb04.size
    have hz3 := hb03.size
    have hz34 := hb4.size
    go_at_call 53
    refine (add_old w3.heap.size [] _ (l.take kT) a kT cap W0 w4 hz3 hb04 hz34 hG4 (HT0.out.take kT hk) (fun e he => HAF.out e (List.mem_of_mem_take he)) (by simp; omega) (fun e h => by cases h)).mono ?_
    rintro e w5 ⟨v5, m1, rfl, hG5, hm1, hb5, hf5⟩
    have hb05 : Below W0.heap.size W0 w5 := hb04.trans (hb5.mono hz3)
    obtain ⟨hc5, hd5⟩ := bcell hb05
    have hz5 := hb5.size
    have HG5 := Lib.hid hG5
    have HF5 := Lib.hid hf5
    clear hf5
    have HM1 := Lib.hid hm1
    clear hG4 hG5 hm1
    have hlm1 : m1.length ≤ 20 := by have := congrArg List.length HM1.out; simp at this; omega
    go_wp2_with fail
    refine (add_new w3.heap.size _ _ x p W0 w5 hz3 hb05 (by omega) HG5.out HP0.out HAF1.out (by simp; omega) HF5.out).mono ?_
    rintro e w6 ⟨v6, m2, rfl, hG6, hm2, hb6, hf6⟩
    have hb06 : Below W0.heap.size W0 w6 := hb05.trans (hb6.mono hz3)
    have hz6 := hb6.size
    have HG6 := Lib.hid hG6
    have HF6 := Lib.hid hf6
    clear hf6
    have HM2 := Lib.hid hm2
    have hlm2 : m2.length = 1 := by have := congrArg List.length hm2; simpa using this
    have HL2 := Lib.hid hlm2
    have hsl6 := slice_from1 a l.length cap kT w6 hk1
    clear hG6 hm2 hlm2 hsl
    go_wp2_with fail
    refine (add_old w3.heap.size _ _ (l.drop (kT + 1)) _ _ _ W0 w6 hz3 hb06 (by omega) HG6.out (HT0.out.drop (kT + 1) (by omega)) (fun e he => HAF.out e (List.mem_of_mem_drop he)) (by simp [HL2.out]; omega) HF6.out).mono ?_
    rintro e w7 ⟨v7, m3, rfl, hG7, hm3, hb7, hf7⟩
    have hb07 : Below W0.heap.size W0 w7 := hb06.trans (hb7.mono hz3)
    have HG7 := Lib.hid hG7
    have HF7 := Lib.hid hf7
    clear hf7
    have HM3 := Lib.hid hm3
    clear hG7 hm3
    go_wp2_with fail
    go_ret2
    exact put_close H9.out (hB0.trans (hb07.mono (by omega))) (by omega) HG7.out (HPL.out m1 m2 m3 HM1.out HM2.out HM3.out) HF7.out
end Go.Proofs.YthbhmnakmhambaaGreatDoor

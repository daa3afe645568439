/- series.Cost. Series of Go's sizes; aviarylaw12.shown. -/
import Derived.Test.YthbhmnakmhambaaGreatDoorZXL
import Derived.Test.YthbhmnakmhambaaGreatDoorZL7
namespace Go.Proofs.YthbhmnakmhambaaGreatDoor
open Go Go.RowKit Go.Shelf
theorem costL_append (a b : List Ser) : costL (a ++ b) = costL a + costL b := by
 induction a with
 | nil => simp [costL]
 | cons x a ih => simp only [List.cons_append, costL, ih]; omega
theorem costOf_small {x : Sk} {s : SS} {n : Nat} {w : World} (hx : s.At n w x) (hs : s.Short) (hr : x.hr.size < 2147483648) : 0 ≤ costOf x ∧ costOf x ≤ 34359738400 := by
 have h1 := hx.e.1.1
 have h2 := hx.c.1.1
 have h3 := hx.g.1.1
 obtain ⟨s1, s2, s3⟩ := hs
 unfold costOf
 repeat' split
 all_goals omega
theorem textS_small {l : List Lab} (h : LabsOk l) : (textS l).size ≤ 180388625808 := by
 unfold textS
 split
 ·rename_i hr
  have h6 : l.length ≤ 6 := by simp [labRight] at hr; exact hr.1.2
  obtain ⟨ls, rfl⟩ := labK_of l h
  rw [labText, Lib.size_eq]
  have h7 := join_len [44] 30064770967 (((ls.map (·.1)).map labPart).map (·.data.toList)) (fun x hx => by
   simp only [List.mem_map] at hx
   obtain ⟨_, ⟨_, ⟨u, _, rfl⟩, rfl⟩, rfl⟩ := hx
   exact labPart_len u)
  simp only [List.length_map, List.length_singleton] at h7 h6
  have : ls.length * (30064770967 + 1) ≤ 6 * (30064770967 + 1) := Nat.mul_le_mul_right _ h6
  simp only []
  omega
 ·exact Nat.zero_le _
theorem serCost_small {x : Ser} {p : SerP} {n : Nat} {w : World} (h : p.At n w x) (hf : SerFit x p) : 0 ≤ serCost x ∧ serCost x ≤ 220000000000 := by
 have h1 := costOf_small h.s hf.short hf.hr
 have h2 := textS_small hf.lab
 unfold serCost
 omega
theorem costL_small : ∀ (l : List (Ser × SerP)) (n : Nat) (w : World), (∀ e ∈ l, e.2.At n w e.1) → TabFit l → 0 ≤ costL (l.map (·.1)) ∧ costL (l.map (·.1)) ≤ 220000000000 * l.length
 | [], _, _, _, _ => by simp [costL]
 | e :: r, n, w, h, hf => by
  have h1 := serCost_small (h e List.mem_cons_self) (hf e List.mem_cons_self)
  have h2 := costL_small r n w (fun e he => h e (List.mem_cons_of_mem _ he)) (fun e he => hf e (List.mem_cons_of_mem _ he))
  simp only [List.map_cons, costL, List.length_cons]
  omega
def tabCost (l : List Ser) : Int := if tabRight l then costL l else 0
set_option maxRecDepth 100000 in
set_option maxHeartbeats 4000000 in
theorem series_Cost_any (l : List (Ser × SerP)) (a : Option Addr) (len cap : Nat) (w : World) (hT : Tab w.heap.size w a len cap l) (hF : TabFit l) (hG : GW w) :
  Calls Tryz.prog 12 #[.slice a len cap] w fun e w' => e = .returned (.int .i64 (tabCost (l.map (·.1)))) ∧ Below w.heap.size w w' := by
 have hR := series_Right_any l a len cap w hT hF hG
 have hlen := hT.row.1.1
 subst hlen
 have HT := Lib.hid hT
 have HF := Lib.hid hF
 have HG := Lib.hid hG
 have hm : l.length ≤ maxLen := Nat.le_trans hT.row.2.1 hT.row.2.2.1
 unfold maxLen at hm
 have HK : Hid (∀ k, k ≤ l.length → 0 ≤ costL ((l.map (·.1)).take k) ∧ costL ((l.map (·.1)).take k) ≤ 220000000000 * k) := fun k hk => by
  have h1 := costL_small (l.take k) _ _ (fun e he => hT.at_ e (List.mem_of_mem_take he)) (fun e he => hF e (List.mem_of_mem_take he))
  rw [List.map_take, List.length_take, Nat.min_eq_left hk] at h1
  exact h1
 clear hT hF hG
 cases hr : tabRight (l.map (·.1)) with
 | false =>
  rw [hr] at hR
  have HR : Hid (tabCost (l.map (·.1)) = 0) := by rw [Hid, tabCost, hr]; rfl
  generalize tabCost (l.map (·.1)) = cR at HR ⊢
  clear hr
  go_enter Tryz.func12, Tryz.ntmps12
  go_wp2_with (go_at_call 10; refine hR.mono ?_; rintro e w1 ⟨rfl, hb1⟩)
  go_ret
  exact ⟨by rw [HR.out]; rfl, hb1⟩
 | true =>
  rw [hr] at hR
  have HR : Hid (tabCost (l.map (·.1)) = costL (l.map (·.1))) := by rw [Hid, tabCost, hr]; rfl
  have h20 : l.length ≤ 20 := by simp [tabRight] at hr; exact hr.1
  generalize tabCost (l.map (·.1)) = cR at HR ⊢
  clear hr
  go_enter Tryz.func12, Tryz.ntmps12
  go_wp2_with (go_at_call 10; refine hR.mono ?_; rintro e w1 ⟨rfl, hb1⟩)
  clear hR
  go_loopw [3, 13] (fun c i wr => ∃ (k : Nat) (s : Int), i = .int .i64 k ∧ c = .int .i64 s ∧ k ≤ l.length ∧ Below w.heap.size w wr ∧ Hid (s = costL ((l.map (·.1)).take k)) ∧ 0 ≤ s ∧ s ≤ 220000000000 * k) (fun _ i _ => l.length - (intOf i).toNat)
  case atStart => exact ⟨0, 0, rfl, rfl, Nat.zero_le _, hb1, rfl, by omega, by omega⟩
  case round =>
   obtain ⟨k, s, rfl, rfl, hk, hB, HS, hs0, hs1⟩ := hrel
   have hsz := hB.size
   by_cases hlt : k < l.length
   ·obtain ⟨⟨x, p⟩, hx⟩ : ∃ x, l[k]? = some x := ⟨_, List.getElem?_eq_getElem hlt⟩
    obtain ⟨b, off, rfl, hbb, hc⟩ := (HT.out.below hB).row.1.2 k (x, p) hx
    have c0 : wr.cell? ⟨b, off + k * 12, none⟩ = some (.slice p.la p.ll p.lc) := hc 0 (by omega)
    have c1 : wr.cell? ⟨b, off + k * 12 + 1, none⟩ = some (.int .i64 x.sk.kind) := hc 1 (by omega)
    have c2 : wr.cell? ⟨b, off + k * 12 + 2, none⟩ = some (.int .i64 x.sk.level) := hc 2 (by omega)
    have c3 : wr.cell? ⟨b, off + k * 12 + 3, none⟩ = some (.slice p.ss.ea p.ss.el p.ss.ec) := hc 3 (by omega)
    have c4 : wr.cell? ⟨b, off + k * 12 + 4, none⟩ = some (.int .i64 x.sk.hb) := hc 4 (by omega)
    have c5 : wr.cell? ⟨b, off + k * 12 + 5, none⟩ = some (.string x.sk.hr) := hc 5 (by omega)
    have c6 : wr.cell? ⟨b, off + k * 12 + 6, none⟩ = some (.int .i64 x.sk.cr) := hc 6 (by omega)
    have c7 : wr.cell? ⟨b, off + k * 12 + 7, none⟩ = some (.int .i64 x.sk.cc) := hc 7 (by omega)
    have c8 : wr.cell? ⟨b, off + k * 12 + 8, none⟩ = some (.slice p.ss.ca p.ss.cl p.ss.cc) := hc 8 (by omega)
    have c9 : wr.cell? ⟨b, off + k * 12 + 9, none⟩ = some (.int .i64 x.sk.gf) := hc 9 (by omega)
    have c10 : wr.cell? ⟨b, off + k * 12 + 10, none⟩ = some (.slice p.ss.ga p.ss.gl p.ss.gc) := hc 10 (by omega)
    have c11 : wr.cell? ⟨b, off + k * 12 + 11, none⟩ = some (.int .u64 x.seen) := hc 11 (by omega)
    have HX : Hid ((l.map (·.1))[k]? = some x) := by rw [Hid, List.getElem?_map, hx]; rfl
    have HP : Hid (p.At wr.heap.size wr x) := ((HT.out.at_ _ (List.mem_of_getElem? hx)).below hB).mono hsz
    have HFx := Lib.hid (HF.out _ (List.mem_of_getElem? hx))
    obtain ⟨W1, hW1, hX1, hB1, hzz⟩ := boxes1 wr #[.slice p.la p.ll p.lc, .int .i64 x.sk.kind, .int .i64 x.sk.level, .slice p.ss.ea p.ss.el p.ss.ec, .int .i64 x.sk.hb, .string x.sk.hr, .int .i64 x.sk.cr, .int .i64 x.sk.cc, .slice p.ss.ca p.ss.cl p.ss.cc, .int .i64 x.sk.gf, .slice p.ss.ga p.ss.gl p.ss.gc, .int .u64 x.seen] 43
    obtain ⟨r0, r1, r2, r3, r4, r5, r6, r7, r8, r9, r10, r11⟩ := cl12 hX1
    have HP1 : Hid (p.At W1.heap.size W1 x) := HP.out.go hB1
    have HG1 : Hid (GW W1) := HG.out.below (hB.trans (hB1.mono hsz))
    have hz1 : wr.heap.size < W1.heap.size := by omega
    have hT2 := textS_small HFx.out.lab
    obtain ⟨hC1, hC2⟩ := costOf_small HP.out.s HFx.out.short HFx.out.hr
    have H9 : Hid (costL ((l.map (·.1)).take (k + 1)) = s + (costOf x.sk + ((textS x.l).size : Int))) := by
     rw [Hid, take_snoc' HX.out, costL_append, ← HS.out]; simp [costL, serCost]
    have HTx := label_Text_E p.la p.ll p.lc x.l W1 HP1.out.l.1 HFx.out.lab HG1.out HFx.out.ll
    have HCx : Hid (∀ w', Below W1.heap.size W1 w' → Calls Tryz.prog 36 #[.agg #[.int .i64 x.sk.kind, .int .i64 x.sk.level, .slice p.ss.ea p.ss.el p.ss.ec, .int .i64 x.sk.hb, .string x.sk.hr, .int .i64 x.sk.cr, .int .i64 x.sk.cc, .slice p.ss.ca p.ss.cl p.ss.cc, .int .i64 x.sk.gf, .slice p.ss.ga p.ss.gl p.ss.gc]] w' fun e w'' => e = .returned (.int .i64 (costOf x.sk)) ∧ Below w'.heap.size w' w'') := fun w' hb => ladder_Cost_any x.sk p.ss w' (HP1.out.go hb).s HFx.out.short HFx.out.fit HFx.out.hr
    generalize textS x.l = tx at *
    generalize costOf x.sk = cx at *
    clear hc hx
    go_wp2_with (first
     | (go_at_call 35; refine HTx.mono ?_; rintro e w2 ⟨rfl, hb2⟩; obtain ⟨hc2, hd2⟩ := bcell hb2)
     | (go_at_call 36; refine (HCx.out _ hb2).mono ?_; rintro e w3 ⟨rfl, hb3⟩))
    have hBB : Below w.heap.size w w3 := hB.trans ((hB1.trans ((hb2.trans (hb3.mono hb2.size)).mono (by omega))).mono hsz)
    go_roundw
    case rel => exact ⟨k + 1, s + (cx + (tx.size : Int)), by go_num, by go_num, by omega, hBB, H9.out.symm, by omega, by omega⟩
    case measure => simp [intOf]; omega
   ·obtain rfl : k = l.length := by omega
    have H9 : Hid (cR = s) := by rw [Hid, HR.out, HS.out, List.take_of_length_le (by rw [List.length_map]; exact Nat.le_refl _)]
    go_wp2_with fail
    go_ret
    exact ⟨by rw [H9.out]; rfl, hB⟩
end Go.Proofs.YthbhmnakmhambaaGreatDoor
namespace Go.Proofs.YthbhmnakmhambaaGreatDoor
open Go Go.RowKit Go.Shelf
theorem slC_one {α : Type} {enc : α → List Value} {k b : Nat} {W : World} {x : α} {t : TypeId} (h : W.heap[b]? = some (.cells (enc x).toArray t (0, 0))) : SlC enc k W.heap.size W (some ⟨b, 0, none⟩) 1 1 [x] := by
 have hb := (Array.getElem?_eq_some_iff.1 h).1
 refine ⟨⟨rfl, fun j y hy => ?_⟩, Nat.le_refl _, by unfold maxLen; omega, (fun h => by cases h), fun z hz _ => ?_⟩
 ·have hj : j = 0 := by have := (List.getElem?_eq_some_iff.1 hy).1; simp at this; exact this
  subst hj
  obtain rfl : x = y := by simpa using hy
  refine ⟨b, 0, rfl, hb, fun i hi => ?_⟩
  have := cCc h i
  simpa using this
 ·injection hz with hz
  subst hz
  exact ⟨rfl, hb⟩
end Go.Proofs.YthbhmnakmhambaaGreatDoor

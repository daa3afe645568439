/- series.rightSeries, series.Right. series.Right. series.Find. series.add. series.Put: printed by wip/tools/gen_t5.py. series.Cost. Series of Go's sizes; aviarylaw12.shown. A series as an argument has it. What rows have in common: series opened, the tables of unicode/utf8. Printed by gen_rz.py. The plain law of tables: labels are in a strict order; a series put in is inserted; two of different labels may be put in either way about. No program. Quota in plain data: a table's victim, what is fitted. No program in sight. series.Meant; what a scope means, in plain data. quota.Fit. What SeriesOrders and SeriesOwn have in common: boxes of series that are stored into; Put as a function. -/
import Derived.Lib.LaidTab
import Derived.Lib.LaidU8T
import Derived.Test.YthbhmnakmhambaaGreatDoorZLI
import Derived.Test.YthbhmnakmhambaaGreatDoorZF9
namespace Go.Proofs.YthbhmnakmhambaaGreatDoor
open Go Go.RowKit Go.Shelf
structure SerFit (x : Ser) (p : SerP) : Prop where
 lab : LabsOk x.l
 ll : p.ll < 4294967281
 short : p.ss.Short
 fit : x.sk.fit
 hr : x.sk.hr.size < 2147483648
 seen : U64 x.seen
def serRight (x : Ser) : Bool := labRight x.l && skOk x.sk
set_option maxRecDepth 100000 in
set_option maxHeartbeats 1000000 in
theorem rightSeries_any (x : Ser) (p : SerP) (w : World) (h : p.At w.heap.size w x) (hf : SerFit x p) (hG : GW w) :
  Calls Tryz.prog 33 #[.agg #[.slice p.la p.ll p.lc, .int .i64 x.sk.kind, .int .i64 x.sk.level, .slice p.ss.ea p.ss.el p.ss.ec, .int .i64 x.sk.hb, .string x.sk.hr, .int .i64 x.sk.cr, .int .i64 x.sk.cc, .slice p.ss.ca p.ss.cl p.ss.cc, .int .i64 x.sk.gf, .slice p.ss.ga p.ss.gl p.ss.gc, .int .u64 x.seen]] w fun e w' => e = .returned (.bool (serRight x)) ∧ Below w.heap.size w w' := by
 obtain ⟨W0, hW0, hX0, hB0, hs0⟩ := boxes1 w #[.slice p.la p.ll p.lc, .int .i64 x.sk.kind, .int .i64 x.sk.level, .slice p.ss.ea p.ss.el p.ss.ec, .int .i64 x.sk.hb, .string x.sk.hr, .int .i64 x.sk.cr, .int .i64 x.sk.cc, .slice p.ss.ca p.ss.cl p.ss.cc, .int .i64 x.sk.gf, .slice p.ss.ga p.ss.gl p.ss.gc, .int .u64 x.seen] 43
 obtain ⟨c0, c1, c2, c3, c4, c5, c6, c7, c8, c9, c10, c11⟩ := cl12 hX0
 have HA : Hid (p.At W0.heap.size W0 x) := h.go hB0
 have HF := Lib.hid hf
 have HG : Hid (GW W0) := hG.below hB0
 have hz0 : w.heap.size < W0.heap.size := by omega
 clear h hf hG hs0 hX0
 by_cases hr : labRight x.l = true
 ·have HR : Hid (serRight x = skOk x.sk) := by rw [Hid, serRight, hr]; rfl
  go_enter Tryz.func33, Tryz.ntmps33
  go_wp2_with (first
   | (go_at_call 69; refine (label_Right_E _ _ _ x.l _ HA.out.l.1 HF.out.lab HG.out HF.out.ll).mono ?_; rintro e w1 ⟨rfl, hb1⟩; rw [hr]; obtain ⟨hc1, hc2⟩ := bcell hb1; have HA1 : Hid (p.At w1.heap.size w1 x) := HA.out.go hb1; have hB1 := hB0.trans (hb1.mono (Nat.le_of_lt hz0)))
   | (go_at_call 29; refine (ladder_Right_any x.sk p.ss _ HA1.out.s HF.out.short HF.out.fit).mono ?_; rintro e w2 ⟨rfl, hb2⟩))
  go_ret
  exact ⟨by rw [HR.out]; rfl, hB1.trans (hb2.mono hB1.size)⟩
 ·have hr' : labRight x.l = false := by simpa using hr
  have HR : Hid (serRight x = false) := by rw [Hid, serRight, hr']; rfl
  clear hr
  go_enter Tryz.func33, Tryz.ntmps33
  go_wp2_with (go_at_call 69; refine (label_Right_E _ _ _ x.l _ HA.out.l.1 HF.out.lab HG.out HF.out.ll).mono ?_; rintro e w1 ⟨rfl, hb1⟩; rw [hr'])
  go_ret
  exact ⟨by rw [HR.out]; rfl, hB0.trans (hb1.mono (Nat.le_of_lt hz0))⟩
end Go.Proofs.YthbhmnakmhambaaGreatDoor
namespace Go.Proofs.YthbhmnakmhambaaGreatDoor
open Go Go.RowKit Go.Shelf
def TabFit (l : List (Ser × SerP)) : Prop := ∀ e ∈ l, SerFit e.1 e.2
def tabGo : Option (List Lab) → List Ser → Bool
 | _, [] => true
 | p, x :: r => serRight x && (match p with | none => true | some y => labLess y x.l) && tabGo (some x.l) r
def tabRight (l : List Ser) : Bool := decide (l.length ≤ 20) && tabGo none l
def prevL (l : List Ser) (k : Nat) : Option (List Lab) := if k = 0 then none else (l[k - 1]?).map (·.l)
theorem tabGo_at {l : List Ser} {k : Nat} {x : Ser} (hx : l[k]? = some x) (p : Option (List Lab)) : tabGo p (l.drop k) = (serRight x && (match p with | none => true | some y => labLess y x.l) && tabGo (some x.l) (l.drop (k + 1))) := by
 rw [drop_cons' hx]; rfl
theorem prevL_succ {l : List Ser} {k : Nat} {x : Ser} (hx : l[k]? = some x) : prevL l (k + 1) = some x.l := by simp [prevL, hx]
theorem prevL_pos {l : List Ser} {k : Nat} {x : Ser} (hk : 0 < k) (hx : l[k - 1]? = some x) : prevL l k = some x.l := by simp [prevL, hx]; omega
set_option maxRecDepth 100000 in
set_option maxHeartbeats 4000000 in
theorem series_Right_any (l : List (Ser × SerP)) (a : Option Addr) (len cap : Nat) (w : World) (hT : Tab w.heap.size w a len cap l) (hF : TabFit l) (hG : GW w) :
  Calls Tryz.prog 10 #[.slice a len cap] w fun e w' => e = .returned (.bool (tabRight (l.map (·.1)))) ∧ Below w.heap.size w w' := by
 have hlen := hT.row.1.1
 subst hlen
 have HT := Lib.hid hT
 have HF := Lib.hid hF
 have HG := Lib.hid hG
 clear hT hF hG
 by_cases h20 : l.length ≤ 20
 case neg =>
  have HR : Hid (tabRight (l.map (·.1)) = false) := by simp [Hid, tabRight]; omega
  have h21 : (20 : Int) < l.length := by omega
  generalize tabRight (l.map (·.1)) = bR at HR ⊢
  go_enter Tryz.func10, Tryz.ntmps10
  go_wp2_with fail
  go_ret
  exact ⟨by rw [HR.out]; rfl, Below.refl _ _⟩
 have HR : Hid (tabRight (l.map (·.1)) = tabGo none (l.map (·.1))) := by simp [Hid, tabRight, h20]
 have h21 : (l.length : Int) ≤ 20 := by omega
 generalize tabRight (l.map (·.1)) = bR at HR ⊢
 go_enter Tryz.func10, Tryz.ntmps10
 go_wp2_with fail
 go_loopw [10] (fun i wr => ∃ (k : Nat), i = .int .i64 k ∧ k ≤ l.length ∧ Below w.heap.size w wr ∧ Hid (tabGo none (l.map (·.1)) = tabGo (prevL (l.map (·.1)) k) ((l.map (·.1)).drop k))) (fun i _ => l.length - (intOf i).toNat)
 case atStart => exact ⟨0, rfl, Nat.zero_le _, Below.refl _ _, rfl⟩
 case round =>
  obtain ⟨k, rfl, hk, hB, HS⟩ := hrel
  have hsz := hB.size
  by_cases hlt : k < l.length
  ·obtain ⟨⟨x, p⟩, hx⟩ : ∃ x, l[k]? = some x := ⟨_, List.getElem?_eq_getElem hlt⟩
   obtain ⟨b, off, rfl, hbb, hc⟩ := (HT.out.below hB).row.1.2 k (x, p) hx
   have c0 : wr.cell? ⟨b, off + k * 12, none⟩ = some (.slice p.la p.ll p.lc) := hc 0 (by omega)
   have c1 : wr.cell? ⟨b, off + k * 12 + 1, none⟩ = some (.int .i64 x.sk.kind) := hc 1 (by omega)
   have c2 : wr.cell? ⟨b, off + k * 12 + 2, none⟩ = some (.int .i64 x.sk.level) := hc 2 (by omega)
   have c3 : wr.cell? ⟨b, off + k * 12 + 3, none⟩ = some (.slice p.ss.ea p.ss.el p.ss.ec) := hc 3 (by omega)
   have c4 : wr.cell? ⟨b, off + k * 12 + 4, none⟩ = some (.int .i64 x.sk.hb) := hc 4 (by omega)
   have c5 : wr.cell? ⟨b, off + k * 12 + 5, none⟩ = some (.string x.sk.hr) := hc 5 (by omega)
   have c6 : wr.cell? ⟨b, off + k * 12 + 6, none⟩ = some (.int .i64 x.sk.cr) := hc 6 (by omega)
   have c7 : wr.cell? ⟨b, off + k * 12 + 7, none⟩ = some (.int .i64 x.sk.cc) := hc 7 (by omega)
   have c8 : wr.cell? ⟨b, off + k * 12 + 8, none⟩ = some (.slice p.ss.ca p.ss.cl p.ss.cc) := hc 8 (by omega)
   have c9 : wr.cell? ⟨b, off + k * 12 + 9, none⟩ = some (.int .i64 x.sk.gf) := hc 9 (by omega)
   have c10 : wr.cell? ⟨b, off + k * 12 + 10, none⟩ = some (.slice p.ss.ga p.ss.gl p.ss.gc) := hc 10 (by omega)
   have c11 : wr.cell? ⟨b, off + k * 12 + 11, none⟩ = some (.int .u64 x.seen) := hc 11 (by omega)
   have HX : Hid ((l.map (·.1))[k]? = some x) := by rw [Hid, List.getElem?_map, hx]; rfl
   have HP : Hid (p.At wr.heap.size wr x) := ((HT.out.at_ _ (List.mem_of_getElem? hx)).below hB).mono hsz
   have HFx := Lib.hid (HF.out _ (List.mem_of_getElem? hx))
   have HS' : Hid (tabGo none (l.map (·.1)) = (serRight x && (match prevL (l.map (·.1)) k with | none => true | some y => labLess y x.l) && tabGo (some x.l) ((l.map (·.1)).drop (k + 1)))) := by rw [Hid, HS.out, tabGo_at HX.out]
   obtain ⟨W1, hW1, hX1, hB1, hs1⟩ := boxes1 wr #[.slice p.la p.ll p.lc, .int .i64 x.sk.kind, .int .i64 x.sk.level, .slice p.ss.ea p.ss.el p.ss.ec, .int .i64 x.sk.hb, .string x.sk.hr, .int .i64 x.sk.cr, .int .i64 x.sk.cc, .slice p.ss.ca p.ss.cl p.ss.cc, .int .i64 x.sk.gf, .slice p.ss.ga p.ss.gl p.ss.gc, .int .u64 x.seen] 43
   obtain ⟨r0, r1, r2, r3, r4, r5, r6, r7, r8, r9, r10, r11⟩ := cl12 hX1
   have HP1 : Hid (p.At W1.heap.size W1 x) := HP.out.go hB1
   have HG1 : Hid (GW W1) := HG.out.below (hB.trans (hB1.mono hsz))
   have hz1 : wr.heap.size < W1.heap.size := by omega
   clear hc hx hs1
   by_cases hr : serRight x = true
   case neg =>
    have hr' : serRight x = false := by simpa using hr
    have H9 : Hid (bR = false) := by rw [Hid, HR.out, HS'.out, hr']; rfl
    clear hr
    go_wp2_with (go_at_call 33; refine (rightSeries_any x p _ HP1.out HFx.out HG1.out).mono ?_; rintro e w2 ⟨rfl, hb2⟩; rw [hr']; have hZ := hb2.size)
    go_ret
    exact ⟨by rw [H9.out]; rfl, hB.trans ((hB1.mono hsz).trans (hb2.mono (by omega)))⟩
   have H8 : Hid (serRight x = true) := hr
   clear hr
   go_wp2_with (go_at_call 33; refine (rightSeries_any x p _ HP1.out HFx.out HG1.out).mono ?_; rintro e w2 ⟨rfl, hb2⟩; rw [H8.out]; have hZ := hb2.size)
   have g0 : w2.cell? ⟨wr.heap.size, 0, none⟩ = some (.slice p.la p.ll p.lc) := (hb2.cell (p := ⟨wr.heap.size, 0, none⟩) hz1).trans r0
   have HP2 : Hid (p.At w2.heap.size w2 x) := HP1.out.go hb2
   have hBB : Below w.heap.size w w2 := hB.trans ((hB1.mono hsz).trans (hb2.mono (by omega)))
   let Inv : World → Prop := fun W => Below w2.heap.size w2 W
   have hgo : ∀ W W', Inv W → Below W.heap.size W W' → Inv W' := fun W W' h hb => Below.trans h (hb.mono h.size)
   have hfin : Hid (∀ X : WIn Inv, Below w.heap.size w X.world) := fun X => hBB.trans (Below.mono X.ok hBB.size)
   have hI0 : Hid (Inv w2.drew) := (Below.refl _ _).drew
   have hne : Nonempty (WIn Inv) := ⟨⟨_, hI0.out⟩⟩
   have q0 : ∀ X : WIn Inv, X.world.cell? ⟨wr.heap.size, 0, none⟩ = some (.slice p.la p.ll p.lc) := fun X => (Below.cell X.ok (p := ⟨wr.heap.size, 0, none⟩) (by show wr.heap.size < _; omega)).trans g0
   clear r0 r1 r2 r3 r4 r5 r6 r7 r8 r9 r10 r11 hX1 hW1 c0 c1 c2 c3 c4 c5 c6 c7 c8 c9 c10 c11 g0
   rcases Nat.eq_zero_or_pos k with h0 | hpos
   ·have t0 : decide ((0 : Int) < (k : Int)) = false := by simp; omega
    have t1 : decide (0 < k) = false := by simp; omega
    have H7 : Hid (tabGo none (l.map (·.1)) = tabGo (prevL (l.map (·.1)) (k + 1)) ((l.map (·.1)).drop (k + 1))) := by rw [Hid, HS'.out, H8.out, prevL_succ HX.out, h0]; rfl
    clear HS' HS h0
    clear_value Inv
    refine wp_region_class Inv (by kernel_rfl) (by kernel_rfl) hI0.out ?_
    repeat (first | go_big_quiet_step (fail) | quiet_step (fail))
    refine wpQuiet_nil ?_
    rintro _ ⟨X, rfl⟩
    have hX := hfin.out X
    go_wp2_with fail
    all_goals go_roundw
    case rel => exact ⟨k + 1, by go_num, by omega, hX, H7.out⟩
    case measure => simp [intOf]; omega
   ·obtain ⟨⟨y, py⟩, hy⟩ : ∃ x, l[k - 1]? = some x := ⟨_, List.getElem?_eq_getElem (by omega)⟩
    obtain ⟨b', off', e1, hbb', hc'⟩ := HT.out.row.1.2 (k - 1) (y, py) hy
    injection e1 with e1
    injection e1 with e1 e2
    subst e1; subst e2
    have t0 : decide ((0 : Int) < (k : Int)) = true := by simp; omega
    have t1 : decide (0 < k) = true := by simp; omega
    have i1 : (1 : Int) ≤ (k : Int) := by omega
    have q1 : ∀ X : WIn Inv, X.world.cell? ⟨b, off + (k - 1) * 12, none⟩ = some (.slice py.la py.ll py.lc) := fun X => ((hfin.out X).cell (p := ⟨b, off + (k - 1) * 12, none⟩) hbb).trans (hc' 0 (by omega))
    have HY : Hid (prevL (l.map (·.1)) k = some y.l) := prevL_pos hpos (by rw [List.getElem?_map, hy]; rfl)
    have HPy : Hid (py.At w.heap.size w y) := HT.out.at_ _ (List.mem_of_getElem? hy)
    have HFy := Lib.hid (HF.out _ (List.mem_of_getElem? hy))
    have HPyI : Hid (∀ X : WIn Inv, py.At X.world.heap.size X.world y) := fun X => (HPy.out.below (hfin.out X)).mono (hfin.out X).size
    have HPxI : Hid (∀ X : WIn Inv, p.At X.world.heap.size X.world x) := fun X => HP2.out.go X.ok
    have K0 : Hid (∀ X : WIn Inv, Calls Tryz.prog 34 #[.slice py.la py.ll py.lc, .slice p.la p.ll p.lc] X.world fun e w' => e = .returned (.bool (labLess y.l x.l)) ∧ ∃ Y : WIn Inv, w' = Y.world) := fun X => calls_class_below hgo (label_Less_any _ _ _ y.l _ _ _ x.l X.world (HPyI.out X).l.1 (HPxI.out X).l.1 (Nat.le_trans (HPyI.out X).l.2.1 (HPyI.out X).l.2.2.1) (Nat.le_trans (HPxI.out X).l.2.1 (HPxI.out X).l.2.2.1))
    have HS2 : Hid (tabGo none (l.map (·.1)) = (labLess y.l x.l && tabGo (prevL (l.map (·.1)) (k + 1)) ((l.map (·.1)).drop (k + 1)))) := by rw [Hid, HS'.out, H8.out, HY.out, prevL_succ HX.out]; rfl
    clear hy hc' HS' HS HPyI HPxI
    clear hgo
    clear_value Inv
    generalize labLess y.l x.l = b1 at K0 HS2
    cases b1
    ·have K1 := Lib.hid K0.out
     have H9 : Hid (bR = false) := by rw [Hid, HR.out, HS2.out]; rfl
     clear K0
     refine wp_region_class Inv (by kernel_rfl) (by kernel_rfl) hI0.out ?_
     repeat (first | go_big_quiet_step ((go_at_call 34; with_reducible exact K1.out _)) | quiet_step ((go_at_call 34; with_reducible exact K1.out _)))
     refine wpQuiet_nil ?_
     rintro _ ⟨X, rfl⟩
     have hX := hfin.out X
     go_wp2_with fail
     go_ret
     exact ⟨by rw [H9.out]; rfl, hX⟩
    ·have K1 := Lib.hid K0.out
     have H7 : Hid (tabGo none (l.map (·.1)) = tabGo (prevL (l.map (·.1)) (k + 1)) ((l.map (·.1)).drop (k + 1))) := by rw [Hid, HS2.out]; rfl
     clear K0
     refine wp_region_class Inv (by kernel_rfl) (by kernel_rfl) hI0.out ?_
     repeat (first | go_big_quiet_step ((go_at_call 34; with_reducible exact K1.out _)) | quiet_step ((go_at_call 34; with_reducible exact K1.out _)))
     refine wpQuiet_nil ?_
     rintro _ ⟨X, rfl⟩
     have hX := hfin.out X
     go_wp2_with fail
     all_goals go_roundw
     case rel => exact ⟨k + 1, by go_num, by omega, hX, H7.out⟩
     case measure => simp [intOf]; omega
  ·obtain rfl : k = l.length := by omega
   have H9 : Hid (bR = true) := by rw [Hid, HR.out, HS.out, List.drop_eq_nil_of_le (by rw [List.length_map]; exact Nat.le_refl _)]; cases prevL (l.map (·.1)) l.length <;> rfl
   go_wp2_with fail
   go_ret
   exact ⟨by rw [H9.out]; rfl, hB⟩
end Go.Proofs.YthbhmnakmhambaaGreatDoor
namespace Go.Proofs.YthbhmnakmhambaaGreatDoor
open Go Go.RowKit Go.Shelf
end Go.Proofs.YthbhmnakmhambaaGreatDoor
namespace Go.Proofs.YthbhmnakmhambaaGreatDoor
open Go Go.RowKit Go.Shelf
attribute [-go_sem] Builtin.append_
def Apart (B : Nat) (A A' : World) : Prop := A.heap.size ≤ A'.heap.size ∧ ∀ b, b < A.heap.size → b ≠ B → A'.heap[b]? = A.heap[b]?
section
variable {B : Nat} {A A' A'' : World}
theorem Apart.trans (h : Apart B A A') (h' : Apart B A' A'') : Apart B A A'' := ⟨Nat.le_trans h.1 h'.1, fun b hb hn => (h'.2 b (Nat.lt_of_lt_of_le hb h.1) hn).trans (h.2 b hb hn)⟩
theorem Apart.set (i : Nat) (v : Value) : Apart B A (A.setCell ⟨B, i, none⟩ v) := ⟨by rw [World.size_setCell]; exact Nat.le_refl _, fun b _ hn => heap_set_other (fun h => hn h.symm) v⟩
theorem SlC.apart {α : Type} {enc : α → List Value} {k : Nat} {a : Option Addr} {len cap : Nat} {l : List α} (hs : SlC enc k A.heap.size A a len cap l) (hn : ∀ z, a = some z → 0 < cap → z.block ≠ B) (h : Apart B A A') : SlC enc k A'.heap.size A' a len cap l :=
 (hs.frame (q := (· ≠ B)) hn h.2).mono h.1
end
end Go.Proofs.YthbhmnakmhambaaGreatDoor
namespace Go.Proofs.YthbhmnakmhambaaGreatDoor
open Go Go.RowKit Go.Shelf
theorem Tab.drop {n₀ : Nat} {w : World} {a : Option Addr} {len cap : Nat} {l : List (Ser × SerP)} (h : Tab n₀ w a len cap l) (m : Nat) (hm : m ≤ len) : Tab n₀ w (dropA a cap m 12) (len - m) (cap - m) (l.drop m) := ⟨h.row.drop m hm, fun e he => h.at_ e (List.mem_of_mem_drop he)⟩
theorem SerFit.add {x : Ser} {p : SerP} (h : SerFit x p) (hr : labRight x.l = true) {n : Nat} {w : World} (ha : p.At n w x) : p.ll < 2147483648 ∧ p.ss.Short := by
 refine ⟨?_, h.short⟩
 have h1 := ha.l.1.1
 have h2 : x.l.length ≤ 6 := by simp [labRight] at hr; exact hr.1.2
 omega
end Go.Proofs.YthbhmnakmhambaaGreatDoor
namespace Go.Proofs.YthbhmnakmhambaaGreatDoor
open Go Go.RowKit Go.Shelf
def serCost (x : Ser) : Int := costOf x.sk + ((textS x.l).size : Int)
def costL : List Ser → Int
 | [] => 0
 | x :: r => serCost x + costL r
end Go.Proofs.YthbhmnakmhambaaGreatDoor
namespace Go.Proofs.YthbhmnakmhambaaGreatDoor
open Go Go.RowKit Go.Shelf
def Ser.wf (x : Ser) : Prop := x.sk.fit ∧ U64 x.seen
structure Ser.fine (x : Ser) : Prop where
 lab : LabsOk x.l
 ll : x.l.length ≤ 10
 e : x.sk.e.length ≤ 70
 c : x.sk.cl.length ≤ 200
 g : x.sk.gl.length ≤ 300
 fit : x.sk.fit
 hr : x.sk.hr.size ≤ 260
 seen : U64 x.seen
theorem Ser.fine.serFit {x : Ser} {p : SerP} {n : Nat} {w : World} (h : x.fine) (hp : p.At n w x) : SerFit x p := by
 have h1 := hp.l.1.1
 have h2 := hp.s.e.1.1
 have h3 := hp.s.c.1.1
 have h4 := hp.s.g.1.1
 have h5 := h.ll
 have h6 := h.e
 have h7 := h.c
 have h8 := h.g
 have h9 := h.hr
 exact ⟨h.lab, by omega, ⟨by omega, by omega, by omega⟩, h.fit, by omega, h.seen⟩
theorem Ser.wf.cut {x : Ser} (h : x.wf) : x.cut.fine := by
 refine ⟨fun y hy => ?_, ?_, ?_, ?_, ?_, fun b hb => h.1 b (List.mem_of_mem_take hb), ?_, h.2⟩
 ·simp only [Ser.cut, List.mem_map] at hy
  obtain ⟨u, _, rfl⟩ := hy
  exact u.2
 ·simp only [Ser.cut, few04, List.length_map, List.length_take]; omega
 ·simp only [Ser.cut, Sk.cut, List.length_take]; omega
 ·simp only [Ser.cut, Sk.cut, List.length_take]; omega
 ·simp only [Ser.cut, Sk.cut, List.length_take]; omega
 ·simp only [Ser.cut, Sk.cut]
  show (cutN ((260 : Nat) : Int) x.sk.hr).size ≤ 260
  rw [cutN_size]; omega
theorem tabFit_of {l : List (Ser × SerP)} {n : Nat} {w : World} {a : Option Addr} {len cap : Nat} (hT : Tab n w a len cap l) (h : ∀ x ∈ l.map (·.1), Ser.fine x) : TabFit l := fun e he => (h e.1 (List.mem_map_of_mem he)).serFit (hT.at_ e he)
theorem fine_few {l : List Ser} (h : ∀ x ∈ l, x.wf) : ∀ x ∈ few12 l, x.fine := fun x hx => by
 simp only [few12, List.mem_map] at hx
 obtain ⟨y, hy, rfl⟩ := hx
 exact (h y (List.mem_of_mem_take hy)).cut
end Go.Proofs.YthbhmnakmhambaaGreatDoor
namespace Go.Proofs.YthbhmnakmhambaaGreatDoor
open Go Go.RowKit Go.Shelf
def Ser.wn (x : Ser) : Prop := x.sk.arg ∧ U64 x.seen
theorem Ser.wn.wf {x : Ser} (h : x.wn) : x.wf := ⟨fun b hb => (h.1.g b hb).1.2, h.2⟩
end Go.Proofs.YthbhmnakmhambaaGreatDoor
namespace Go.Proofs.YthbhmnakmhambaaGreatDoor
open Go Go.ChangeShapes Go.WideShapes Go.ChangeAt Go.RowKit Go.Lib Go.Deep Go.Shelf
def ren : Ren := ⟨fun x => x, fun | 5 => 5 | 119 => 275 | 138 => 277 | 139 => 278 | n => n, fun | 3 => 2 | 4 => 3 | n => n⟩
theorem u8types : U8Types Tryz.prog ren := ⟨by kernel_rfl, by kernel_rfl, by kernel_rfl, by kernel_rfl⟩
theorem u8extra : U8Extra Tryz.prog ren := ⟨by kernel_rfl, by kernel_rfl, by kernel_rfl, by kernel_rfl, by kernel_rfl, by kernel_rfl, by kernel_rfl⟩
theorem firstIs : Rows.laid_unicode_utf8_first = firstData := by kernel_rfl
theorem acceptIs : (Rows.laid_unicode_utf8_acceptRanges : DataW Unit) = acceptData := by kernel_rfl
def laidU : List (String × DataW Unit) := [("unicode/utf8.acceptRanges", Rows.laid_unicode_utf8_acceptRanges), ("unicode/utf8.first", Rows.laid_unicode_utf8_first)]
theorem gw_of {W : World} (hL' : laidMet Tryz.prog laidU W) (hS : W.ShapedOpen Tryz.prog) : GW W := by
 obtain ⟨ps, hv, _⟩ := hL'
 have h3 := LaidVars_reads hv "unicode/utf8.first" Rows.laid_unicode_utf8_first (by unfold laidU; simp)
 have h4 := LaidVars_reads hv "unicode/utf8.acceptRanges" Rows.laid_unicode_utf8_acceptRanges (by unfold laidU; simp)
 rw [firstIs] at h3
 rw [acceptIs] at h4
 refine ⟨utf8Tabs_of_readsT u8types u8extra h3 h4, ?_, ?_⟩
 ·exact cell_of_shapedOpen_int hS (g := 1) (t := 3) (zero := #[.int .i64 0]) (of_decide_eq_true (by kernel_rfl)) (by kernel_rfl) (by kernel_rfl) (by kernel_rfl) (by kernel_rfl) (by kernel_rfl)
 ·have hT := utf8Tabs_of_readsT u8types u8extra h3 h4
  exact World.block_lt_of_cell? W _ (hT.2 0 (by decide)).1
section
variable {H : Type} {enc : TypeId × Value → H} {w : World} {base : Nat} {held : Bool}
theorem lab_elem (n : Nat) (cs : List Value) (x : DataW H × List MemPlace) (h : DataW.trod enc Tryz.prog w base (fun _ => true) held n 70 cs = some x) : ∃ y : Lab, cs = y.enc := by
 obtain ⟨hl, m, hf⟩ := struct_cells Tryz.underlying70 (by kernel_rfl) (by kernel_rfl) h
 obtain ⟨v0, y0, e0, h0⟩ := hf 0 _ rfl
 obtain ⟨v1, y1, e1, h1⟩ := hf 1 _ rfl
 obtain ⟨s0, c0, -, -⟩ := DataW.trod_string undStr h0
 obtain ⟨s1, c1, -, -⟩ := DataW.trod_string undStr h1
 match cs, hl with
 | [a, b], _ =>
  simp only [List.getElem?_cons_zero, List.getElem?_cons_succ, Option.some.injEq, List.cons.injEq, and_true] at e0 e1 c0 c1
  exact ⟨⟨s0, s1⟩, by rw [e0, e1, c0, c1]; rfl⟩
theorem lab_elem' (n : Nat) (cs : List Value) (x : DataW H × List MemPlace) (h : DataW.trod enc Tryz.prog w base (fun _ => true) held n 70 cs = some x) : ∃ y : Lab, cs = y.enc ∧ True := by
 obtain ⟨y, h⟩ := lab_elem n cs x h
 exact ⟨y, h, trivial⟩
set_option maxRecDepth 100000 in
theorem ser_elem (n : Nat) (cs : List Value) (x : DataW H × List MemPlace) (h : DataW.trod enc Tryz.prog w base (fun _ => true) held n 43 cs = some x) : ∃ e : Ser × SerP, cs = serEnc e ∧ (e.2.At w.heap.size w e.1 ∧ e.1.wn) := by
 obtain ⟨hl, m, hf⟩ := fields_of Tryz.underlying43 h
 replace hl : cs.length = 12 := hl.trans (by kernel_rfl)
 obtain ⟨y0, h0⟩ := hf 0 _ rfl
 obtain ⟨y1, h1⟩ := hf 1 _ rfl
 obtain ⟨y2, h2⟩ := hf 2 _ rfl
 match cs, hl with
 | [v0, v1, v2, v3, v4, v5, v6, v7, v8, v9, v10, v11], _ =>
  change DataW.trod enc Tryz.prog w base _ held m 40 (([v0, v1, v2, v3, v4, v5, v6, v7, v8, v9, v10, v11].drop 0).take (Tryz.prog.cellsOf 40)) = some y0 at h0
  change DataW.trod enc Tryz.prog w base _ held m 39 (([v0, v1, v2, v3, v4, v5, v6, v7, v8, v9, v10, v11].drop 1).take (Tryz.prog.cellsOf 39)) = some y1 at h1
  change DataW.trod enc Tryz.prog w base _ held m 41 (([v0, v1, v2, v3, v4, v5, v6, v7, v8, v9, v10, v11].drop 11).take (Tryz.prog.cellsOf 41)) = some y2 at h2
  rw [show Tryz.prog.cellsOf 40 = 1 by kernel_rfl] at h0
  rw [show Tryz.prog.cellsOf 39 = 10 by kernel_rfl] at h1
  rw [show Tryz.prog.cellsOf 41 = 1 by kernel_rfl] at h2
  simp only [List.drop_zero, List.drop_succ_cons, List.take_succ_cons, List.take_zero] at h0 h1 h2
  obtain ⟨la, ll, lc, l, k0, S0, -⟩ := slC_open (k := 2) (encA := Lab.enc) (by omega) Tryz.underlying40 (by kernel_rfl) lab_elem' h0
  obtain ⟨y, s, e1, S1, fit⟩ := sk_elem _ _ _ h1
  obtain ⟨s2, c2, -, w2⟩ := DataW.trod_int undU64 h2
  simp only [List.cons.injEq, and_true] at e1 c2
  obtain ⟨q1, q2, q3, q4, q5, q6, q7, q8, q9, q10⟩ := e1
  refine ⟨(⟨l, y, s2⟩, ⟨la, ll, lc, s⟩), ?_, ⟨S0, S1⟩, fit, wf_u64 w2⟩
  rw [k0, q1, q2, q3, q4, q5, q6, q7, q8, q9, q10, c2]; rfl
set_option maxRecDepth 100000 in
theorem open_sers {r : Reach} {b0 : Nat} {v : Value} {d : DataW H} {p : List MemPlace} (hv : Value.okWide Tryz.prog w r b0 22 v) (h : DataW.Trod enc Tryz.prog w base (fun _ => true) held 22 v d p) :
  ∃ a len cap l, v = .slice a len cap ∧ Tab w.heap.size w a len cap l ∧ ∀ x ∈ l.map (·.1), Ser.wn x := by
 obtain ⟨a, len, cap, rfl⟩ := okWide_slice und_table hv
 obtain ⟨fuel, hf⟩ := h
 obtain ⟨a', len', cap', l, e, S, U⟩ := slC_open (k := 12) (encA := serEnc) (by omega) und_table (by kernel_rfl) ser_elem hf
 injection e with e1 e2 e3
 subst e1 e2 e3
 refine ⟨a, len, cap, l, rfl, ⟨S, fun e he => (U e he).1⟩, fun x hx => ?_⟩
 obtain ⟨e, he, rfl⟩ := List.mem_map.1 hx
 exact (U e he).2
end
def laidQ : List (String × DataW Unit) := [("unicode/utf8.acceptRanges", Rows.laid_unicode_utf8_acceptRanges), eT, ("unicode/utf8.first", Rows.laid_unicode_utf8_first)]
theorem metQ {W : World} (h : laidMetH Tryz.prog laidQ W) : laidMet Tryz.prog laidU W ∧ handlesMet Tryz.prog [eT] W := h
noncomputable def laidWorldQ (os : Os) : World :=
 let h0 := (World.holding Tryz.prog os ⟨#[], #[], []⟩)
 { h0 with heap := ((h0.heap.modify 0 typeCell).modify 2 fun
   | .cells _ t frozen => .cells (firstTab.map (Value.int .u8)).toArray t frozen
   | o => o).modify 3 fun
   | .cells _ t frozen => .cells ((List.range 16).flatMap fun i => [Value.int .u8 (accLo i), Value.int .u8 (accHi i)]).toArray t frozen
   | o => o }
theorem laid_metQ (os : Os) (args : Array Value) : laidMetH Tryz.prog laidQ ((laidWorldQ os).forCall (fun _ _ => 0) ⟨#[], args, []⟩).memory :=
 laidMetH_of_parts (show laidMet Tryz.prog laidU _ from laidMet_of_run' 8 (by kernel_rfl) (by kernel_rfl)) (by kernel_rfl)
end Go.Proofs.YthbhmnakmhambaaGreatDoor
namespace Go.Proofs.YthbhmnakmhambaaGreatDoor
open Go Go.RowKit Go.Shelf
theorem bl_irr : ∀ a : List UInt8, Op.bytesLess a a = false
 | [] => rfl
 | a :: x => by simp [Op.bytesLess, bl_irr x]
theorem bl_tr : ∀ a b c : List UInt8, Op.bytesLess a b = true → Op.bytesLess b c = true → Op.bytesLess a c = true
 | _, [], _, h, _ => by rename_i x _; cases x <;> simp [Op.bytesLess] at h
 | _, _ :: _, [], _, h => by simp [Op.bytesLess] at h
 | [], _ :: _, _ :: _, _, _ => by simp [Op.bytesLess]
 | a :: x, b :: y, c :: z, h1, h2 => by
  simp only [Op.bytesLess, Bool.or_eq_true, Bool.and_eq_true, decide_eq_true_eq, beq_iff_eq] at h1 h2 ⊢
  rcases h1 with h1 | ⟨rfl, h1⟩
  ·rcases h2 with h2 | ⟨rfl, h2⟩
   ·exact .inl (UInt8.lt_trans h1 h2)
   ·exact .inl h1
  ·rcases h2 with h2 | ⟨rfl, h2⟩
   ·exact .inl h2
   ·exact .inr ⟨rfl, bl_tr x y z h1 h2⟩
theorem ll_tr : ∀ a b c : List Lab, labLess a b = true → labLess b c = true → labLess a c = true
 | _ :: _, [], _, h, _ => by simp [labLess] at h
 | [], [], _, h, _ => by simp [labLess] at h
 | _, _ :: _, [], _, h => by simp [labLess] at h
 | [], _ :: _, _ :: _, _, _ => by simp [labLess]
 | x :: a, y :: b, z :: c, h1, h2 => by
  simp only [labLess] at h1 h2 ⊢
  by_cases hxy : x.name = y.name
  ·by_cases hxv : x.value = y.value
   ·rw [if_pos ⟨hxy, hxv⟩] at h1
    rw [hxy, hxv]
    by_cases hyz : y.name = z.name ∧ y.value = z.value
    ·rw [if_pos hyz] at h2 ⊢
     exact ll_tr a b c h1 h2
    ·rw [if_neg hyz] at h2 ⊢
     exact h2
   ·rw [if_neg (fun k => hxv k.2), if_neg (by simp [hxy])] at h1
    rw [hxy]
    by_cases hyn : y.name = z.name
    ·by_cases hyv : y.value = z.value
     ·rw [← hyv, if_neg (fun k => hxv k.2), if_neg (by simp [hyn])]
      exact h1
     ·rw [if_neg (fun k => hyv k.2), if_neg (by simp [hyn])] at h2
      have h3 := bl_tr _ _ _ h1 h2
      rw [if_neg (fun k => by rw [k.2, bl_irr] at h3; cases h3), if_neg (by simp [hyn])]
      exact h3
    ·rw [if_neg (fun k => hyn k.1), if_pos hyn] at h2
     rw [if_neg (fun k => hyn k.1), if_pos hyn]
     exact h2
  ·rw [if_neg (fun k => hxy k.1), if_pos hxy] at h1
   by_cases hyn : y.name = z.name
   ·rw [← hyn, if_neg (fun k => hxy k.1), if_pos hxy]
    exact h1
   ·rw [if_neg (fun k => hyn k.1), if_pos hyn] at h2
    have h3 := bl_tr _ _ _ h1 h2
    have h4 : x.name ≠ z.name := fun k => by rw [k, bl_irr] at h3; cases h3
    rw [if_neg (fun k => h4 k.1), if_pos h4]
    exact h3
def Sorted (l : List Ser) : Prop := l.Pairwise (fun x y => labLess x.l y.l = true)
theorem tabGo_some : ∀ (l : List Ser) (q : List Lab), tabGo (some q) l = true ↔ (∀ x ∈ l, serRight x = true) ∧ (∀ x ∈ l, labLess q x.l = true) ∧ Sorted l
 | [], q => by simp [tabGo, Sorted]
 | y :: r, q => by
  simp only [tabGo, Bool.and_eq_true, tabGo_some r, Sorted, List.pairwise_cons, List.mem_cons, forall_eq_or_imp]
  constructor
  ·rintro ⟨⟨h1, h2⟩, h3, h4, h5⟩
   exact ⟨⟨h1, h3⟩, ⟨h2, fun x hx => ll_tr _ _ _ h2 (h4 x hx)⟩, h4, h5⟩
  ·rintro ⟨⟨h1, h3⟩, ⟨h2, h6⟩, h4, h5⟩
   exact ⟨⟨h1, h2⟩, h3, h4, h5⟩
theorem tabRight_iff (l : List Ser) : tabRight l = true ↔ l.length ≤ 20 ∧ (∀ x ∈ l, serRight x = true) ∧ Sorted l := by
 unfold tabRight
 rw [Bool.and_eq_true, decide_eq_true_eq]
 cases l with
 | nil => simp [tabGo, Sorted]
 | cons y r => simp only [tabGo, Bool.and_eq_true, tabGo_some r, Sorted, List.pairwise_cons, List.mem_cons, forall_eq_or_imp, and_true]; constructor <;> (intro h; simp_all)
end Go.Proofs.YthbhmnakmhambaaGreatDoor
namespace Go.Proofs.YthbhmnakmhambaaGreatDoor
open Go Go.RowKit Go.Shelf
def bdOf (x : Sk) : Bd := if x.kind == 1 then (if x.level == 0 then .num x.e else .reg x.hb.toNat (strRegs x.hr)) else if x.kind == 2 then .cnt x.cc.toNat x.cl else .bkt x.gf.toNat x.gl
theorem regs_str (r : List Nat) (h : ∀ i, r.getD i 0 ≤ 255) : strRegs (hlStr r) = r := by
 unfold strRegs hlStr
 rw [strOfNums_data, List.map_map, List.map_map]
 conv => rhs; rw [← List.map_id r]
 refine List.map_congr_left (fun x hx => ?_)
 obtain ⟨i, hi⟩ := List.mem_iff_getElem?.1 hx
 have h1 := h i
 rw [List.getD_eq_getElem?_getD, hi, Option.getD_some] at h1
 show (UInt8.ofNat ((x : Int)).toNat).toNat = x
 rw [Int.toNat_natCast]
 simp
 omega
theorem bdOf_sk {k L : Nat} {B : Bd} (h : B.Ok k L) : bdOf (skOf k L B) = B := by
 cases B with
 | num l => obtain ⟨rfl, rfl, -⟩ := h; rfl
 | reg b r =>
  obtain ⟨rfl, h1, -, h3, -, h5⟩ := h
  have h0 : (((L : Nat) : Int) == 0) = false := by simp; omega
  show (if (((1 : Nat) : Int) == 1) then (if ((L : Int) == 0) then _ else Bd.reg ((b : Int)).toNat (strRegs (hlStr r))) else _) = _
  rw [h0, Int.toNat_natCast, regs_str r (fun i => by have := h5 i; omega)]
  rfl
 | cnt c l => obtain ⟨rfl, -⟩ := h; rfl
 | bkt f l => obtain ⟨rfl, -⟩ := h; rfl
def skLow (x : Sk) : Sk := skOf x.kind.toNat (x.level.toNat + 1) (bdOf x).low
def SkGood (x : Sk) : Prop := ∃ k L B, x = skOf k L B ∧ Bd.Ok k L B
theorem skLow_sk {k L : Nat} {B : Bd} (h : B.Ok k L) : skLow (skOf k L B) = skOf k (L + 1) B.low := by
 unfold skLow
 rw [bdOf_sk h, (skOf_kind k L B).1, (skOf_kind k L B).2, Int.toNat_natCast, Int.toNat_natCast]
theorem SkGood.of {x : Sk} (h : skOk x = true) (he : U64s x.e) (hc : U64s x.cl) (hg : BinsU x.gl) : SkGood x := sk_bd x h he hc hg
theorem SkGood.ok {x : Sk} (h : SkGood x) : skOk x = true := by obtain ⟨k, L, B, rfl, h⟩ := h; exact skOf_ok h
def mayLow (x : Ser) : Bool := decide (x.sk.level < bottomB x.sk.kind)
def lowSer (x : Ser) : Ser := ⟨x.l, skLow x.sk, x.seen⟩
theorem mayLow_sk {k L : Nat} {B : Bd} (h : B.Ok k L) (l : List Lab) (n : Int) : mayLow ⟨l, skOf k L B, n⟩ = decide (L < botN k) := by
 unfold mayLow
 rw [(skOf_kind k L B).1, (skOf_kind k L B).2, (bot_eq h).1]
 by_cases hl : L < botN k
 ·rw [decide_eq_true hl]; simp; omega
 ·rw [decide_eq_false hl]; simp; omega
structure Ser.good (x : Ser) : Prop where
 fine : x.fine
 sk : SkGood x.sk
theorem good_len {k L : Nat} {B : Bd} (h : B.Ok k L) (hg : ∀ f l, B = .bkt f l → l.length ≤ 300) : (skOf k L B).e.length ≤ 70 ∧ (skOf k L B).cl.length ≤ 200 ∧ (skOf k L B).gl.length ≤ 300 ∧ (skOf k L B).hr.size ≤ 260 := by
 cases B with
 | num l => obtain ⟨-, -, -, h4, -⟩ := h; exact ⟨by show l.length ≤ 70; omega, Nat.zero_le _, Nat.zero_le _, Nat.zero_le _⟩
 | reg b r =>
  obtain ⟨-, h1, -, h3, h4, -⟩ := h
  have : 2 ^ b ≤ 2 ^ 8 := Nat.pow_le_pow_right (by omega) (by omega)
  exact ⟨Nat.zero_le _, Nat.zero_le _, Nat.zero_le _, by show (hlStr r).size ≤ 260; rw [hlStr_size]; omega⟩
 | cnt c l =>
  obtain ⟨-, h2, h3, h4, -⟩ := h
  have := cols_of h3 h2
  exact ⟨Nat.zero_le _, by show l.length ≤ 200; omega, Nat.zero_le _, Nat.zero_le _⟩
 | bkt f l => exact ⟨Nat.zero_le _, Nat.zero_le _, hg f l rfl, Nat.zero_le _⟩
theorem bd_low_bins {B : Bd} (hg : ∀ f l, B = .bkt f l → l.length ≤ 300) : ∀ f l, B.low = .bkt f l → l.length ≤ 300 := by
 intro f l h
 cases B with
 | bkt f' l' =>
  simp only [Bd.low, Bd.bkt.injEq] at h
  obtain ⟨-, rfl⟩ := h
  exact Nat.le_trans (hiLow_len l') (hg f' l' rfl)
 | num l' => cases h
 | reg b r => cases h
 | cnt c l' => cases h
theorem good_bins {x : Ser} (h : x.fine) {k L : Nat} {B : Bd} (e : x.sk = skOf k L B) : ∀ f l, B = .bkt f l → l.length ≤ 300 := by
 rintro f l rfl
 have := h.g
 rw [e] at this
 exact this
theorem Ser.good.with {x : Ser} (h : x.good) {k L : Nat} {B : Bd} (hB : B.Ok k L) (hg : ∀ f l, B = .bkt f l → l.length ≤ 300) : Ser.good ⟨x.l, skOf k L B, x.seen⟩ := by
 obtain ⟨h1, h2, h3, h4⟩ := good_len hB hg
 exact ⟨⟨h.fine.lab, h.fine.ll, h1, h2, h3, skOf_fit hB, h4, h.fine.seen⟩, ⟨k, L, B, rfl, hB⟩⟩
theorem Ser.good.low {x : Ser} (h : x.good) (hm : mayLow x = true) : (lowSer x).good := by
 obtain ⟨k, L, B, e, hB⟩ := h.sk
 have hx : x = ⟨x.l, skOf k L B, x.seen⟩ := by rw [← e]
 have hlt : L < botN k := by rw [hx, mayLow_sk hB] at hm; simpa using hm
 unfold lowSer
 rw [e, skLow_sk hB]
 exact h.with (bd_low_ok hB hlt) (bd_low_bins (good_bins h.fine e))
def vicStep (i : Nat) (x : Ser) (s : Nat × Int × Bool) : Nat × Int × Bool := if mayLow x && (!s.2.2 || decide (s.2.1 < serCost x)) then (i, serCost x, true) else s
def vicTo (l : List Ser) : Nat → Nat × Int × Bool
 | 0 => (0, 0, false)
 | k + 1 => match l[k]? with
  | some x => vicStep k x (vicTo l k)
  | none => vicTo l k
def vic (l : List Ser) : Nat × Int × Bool := vicTo l l.length
def victim (l : List Ser) : Option Nat := if (vic l).2.2 then some (vic l).1 else none
def lowAt (l : List Ser) (i : Nat) : List Ser := match l[i]? with
 | some x => l.set i (lowSer x)
 | none => l
theorem lowAt_eq {l : List Ser} {i : Nat} {x : Ser} (h : l[i]? = some x) : lowAt l i = l.set i (lowSer x) := by unfold lowAt; rw [h]
structure QT (l : List Ser) : Prop where
 right : tabRight l = true
 good : ∀ x ∈ l, x.good
theorem set_mem {l : List Ser} {i : Nat} {y z : Ser} (h : z ∈ l.set i y) : z ∈ l ∨ z = y := by
 rcases List.mem_or_eq_of_mem_set h with h | h
 ·exact .inl h
 ·exact .inr h
theorem sorted_labs {l m : List Ser} (h : l.map (·.l) = m.map (·.l)) (hs : Sorted l) : Sorted m := by
 unfold Sorted at *
 have h1 : (l.map (·.l)).Pairwise (fun a b => labLess a b = true) := List.pairwise_map.2 hs
 rw [h] at h1
 exact List.pairwise_map.1 h1
theorem right_labs {l m : List Ser} (h : l.map (·.l) = m.map (·.l)) (hr : tabRight l = true) (hm : ∀ x ∈ m, skOk x.sk = true) : tabRight m = true := by
 obtain ⟨h1, h2, h3⟩ := (tabRight_iff l).1 hr
 have hlen : m.length = l.length := by have := congrArg List.length h; simpa using this.symm
 refine (tabRight_iff m).2 ⟨by omega, fun x hx => ?_, sorted_labs h h3⟩
 obtain ⟨i, hi⟩ := List.mem_iff_getElem?.1 hx
 have h4 : (m.map (·.l))[i]? = some x.l := by rw [List.getElem?_map, hi]; rfl
 rw [← h, List.getElem?_map, Option.map_eq_some_iff] at h4
 obtain ⟨y, hy, e⟩ := h4
 have h5 := h2 y (List.mem_of_getElem? hy)
 simp only [serRight, Bool.and_eq_true] at h5 ⊢
 exact ⟨by rw [← e]; exact h5.1, hm x hx⟩
theorem lowAt_labs (l : List Ser) (i : Nat) : (lowAt l i).map (·.l) = l.map (·.l) := by
 unfold lowAt
 cases h : l[i]? with
 | none => rfl
 | some x =>
  show (l.set i (lowSer x)).map (·.l) = _
  rw [List.map_set]
  apply List.ext_getElem?
  intro j
  rw [List.getElem?_set]
  by_cases hij : i = j
  ·subst hij
   have hi := (List.getElem?_eq_some_iff.1 h).1
   rw [if_pos rfl, if_pos (by simpa using hi), List.getElem?_map, h]
   rfl
  ·rw [if_neg hij]
theorem QT.low {l : List Ser} (h : QT l) {i : Nat} {x : Ser} (hx : l[i]? = some x) (hm : mayLow x = true) : QT (lowAt l i) := by
 have hg : ∀ y ∈ lowAt l i, y.good := fun y hy => by
  rw [lowAt_eq hx] at hy
  rcases set_mem hy with h1 | rfl
  ·exact h.good y h1
  ·exact (h.good x (List.mem_of_getElem? hx)).low hm
 exact ⟨right_labs (lowAt_labs l i).symm h.right (fun y hy => (hg y hy).sk.ok), hg⟩
theorem QT.len {l : List Ser} (h : QT l) : l.length ≤ 20 := ((tabRight_iff l).1 h.right).1
def slack (x : Ser) : Nat := (bottomB x.sk.kind - x.sk.level).toNat
def mu : List Ser → Nat
 | [] => 0
 | x :: r => slack x + mu r
def fitF (b : Int) : Nat → List Ser → Option (List Ser × List Nat)
 | 0, _ => none
 | n + 1, l => if costL l ≤ b then some (l, []) else match victim l with
  | none => none
  | some v => (fitF b n (lowAt l v)).map fun r => (r.1, v :: r.2)
def fit (b : Int) (l : List Ser) : Option (List Ser × List Nat) := fitF b (mu l + 1) l
end Go.Proofs.YthbhmnakmhambaaGreatDoor
namespace Go.Proofs.YthbhmnakmhambaaGreatDoor
open Go Go.RowKit Go.Shelf
def encP (n : Nat) : List Value := [.int .i64 n]
theorem und_ints : Tryz.prog.underlying 71 = some (.slice 3) := by kernel_rfl
theorem info_int : (Tryz.prog.info? 3).map (fun i => (i.zero, i.size, i.bytes)) = some (some (.int .i64 0), 1, 8) := by kernel_rfl
theorem owns_go {A B : World} {base e size n : Nat} {v : Value} {xs : List Value} (h : A.ownsRow base e size v n xs) (hb : Below A.heap.size A B) : B.ownsRow base e size v n xs :=
 ⟨h.1, h.2.imp id (fun ⟨g, cap, cur, h1, h2, h3, h4⟩ => ⟨g, cap, cur, h1, h2, known hb (Nat.le_refl _) h3, h4⟩)⟩
attribute [-go_sem] Builtin.append_
end Go.Proofs.YthbhmnakmhambaaGreatDoor
namespace Go.Proofs.YthbhmnakmhambaaGreatDoor
open Go Go.RowKit Go.Shelf
end Go.Proofs.YthbhmnakmhambaaGreatDoor
namespace Go.Proofs.YthbhmnakmhambaaGreatDoor
open Go Go.RowKit Go.Shelf
section
variable {w W : World} {F : Nat} {m : List (Ser × SerP)} {ta : Option Addr} {tc : Nat} {pv : Value} {ps : List Nat}
theorem QT.fine {L : List Ser} (h : QT L) : ∀ x ∈ L, x.fine := fun x hx => (h.good x hx).fine
end
end Go.Proofs.YthbhmnakmhambaaGreatDoor
namespace Go.Proofs.YthbhmnakmhambaaGreatDoor
open Go Go.RowKit Go.Shelf
theorem SerP.At.apart {B : Nat} {A A' : World} {x : Ser} {p : SerP} (h : p.At A.heap.size A x) (ho : p.Off (· ≠ B)) (ha : Apart B A A') : p.At A'.heap.size A' x := (h.frame ho ha.2).mono ha.1
theorem Tab.apart {B : Nat} {A A' : World} {a : Option Addr} {len cap : Nat} {l : List (Ser × SerP)} (h : Tab A.heap.size A a len cap l) (hr : ∀ z, a = some z → 0 < cap → z.block ≠ B) (ho : ∀ e ∈ l, e.2.Off (· ≠ B)) (ha : Apart B A A') : Tab A'.heap.size A' a len cap l :=
 ⟨h.row.apart hr ha, fun e he => (h.at_ e he).apart (ho e he) ha⟩
end Go.Proofs.YthbhmnakmhambaaGreatDoor

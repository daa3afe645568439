/- series.Right. series.Find. -/
import Derived.Test.YthnfhklfmaeccaaGreatDoorT1
namespace Go.Proofs.YthnfhklfmaeccaaGreatDoor
open Go Go.RowKit Go.Shelf

/-- What is asked of a table's series. -/
def TabFit (l : List (Ser × SerP)) : Prop := ∀ e ∈ l, SerFit e.1 e.2
/-- Series, each right and behind the one ahead of it. -/
def tabGo : Option (List Lab) → List Ser → Bool
  | _, [] => true
  | p, x :: r => serRight x && (match p with | none => true | some y => labLess y x.l) && tabGo (some x.l) r
def tabRight (l : List Ser) : Bool := decide (l.length ≤ 20) && tabGo none l
def prevL (l : List Ser) (k : Nat) : Option (List Lab) := if k = 0 then none else (l[k - 1]?).map (·.l)
theorem tabGo_at {l : List Ser} {k : Nat} {x : Ser} (hx : l[k]? = some x) (p : Option (List Lab)) : tabGo p (l.drop k) = (serRight x && (match p with | none => true | some y => labLess y x.l) && tabGo (some x.l) (l.drop (k + 1))) := by
  rw [drop_cons' hx]; rfl
theorem prevL_succ {l : List Ser} {k : Nat} {x : Ser} (hx : l[k]? = some x) : prevL l (k + 1) = some x.l := by simp [prevL, hx]
theorem prevL_pos {l : List Ser} {k : Nat} {x : Ser} (hk : 0 < k) (hx : l[k - 1]? = some x) : prevL l k = some x.l := by simp [prevL, hx]; omega

set_option maxRecDepth 100000 in
set_option maxHeartbeats 4000000 in
theorem series_Right_any (l : List (Ser × SerP)) (a : Option Addr) (len cap : Nat) (w : World) (hT : Tab w.heap.size w a len cap l) (hF : TabFit l) (hG : GW w) :
    Calls Tryz.prog 11 #[.slice a len cap] w fun e w' => e = .returned (.bool (tabRight (l.map (·.1)))) ∧ Below w.heap.size w w' := by
  have hlen := hT.row.1.1
  subst hlen
  have HT := Lib.hid hT
  have HF := Lib.hid hF
  have HG := Lib.hid hG
  clear hT hF hG
  by_cases h20 : l.length ≤ 20
  case neg =>
    have HR : Hid (tabRight (l.map (·.1)) = false) := by simp [Hid, tabRight]; omega
    have h21 : (20 : Int) < l.length := by omega
    generalize tabRight (l.map (·.1)) = bR at HR ⊢
    go_enter Tryz.func11, Tryz.ntmps11
    go_wp2_with fail
    go_ret
    exact ⟨by rw [HR.out]; rfl, Below.refl _ _⟩
  have HR : Hid (tabRight (l.map (·.1)) = tabGo none (l.map (·.1))) := by simp [Hid, tabRight, h20]
  have h21 : (l.length : Int) ≤ 20 := by omega
  generalize tabRight (l.map (·.1)) = bR at HR ⊢
  go_enter Tryz.func11, Tryz.ntmps11
  go_wp2_with fail
  go_loopw [10] (fun i wr => ∃ (k : Nat), i = .int .i64 k ∧ k ≤ l.length ∧ Below w.heap.size w wr ∧ Hid (tabGo none (l.map (·.1)) = tabGo (prevL (l.map (·.1)) k) ((l.map (·.1)).drop k))) (fun i _ => l.length - (intOf i).toNat)
  case atStart => exact ⟨0, rfl, Nat.zero_le _, Below.refl _ _, rfl⟩
  case round =>
    obtain ⟨k, rfl, hk, hB, HS⟩ := hrel
    have hsz := hB.size
    by_cases hlt : k < l.length
    · obtain ⟨⟨x, p⟩, hx⟩ : ∃ x, l[k]? = some x := ⟨_, List.getElem?_eq_getElem hlt⟩
      obtain ⟨b, off, rfl, hbb, hc⟩ := (HT.out.below hB).row.1.2 k (x, p) hx
      have c0 : wr.cell? ⟨b, off + k * 12, none⟩ = some (.slice p.la p.ll p.lc) := hc 0 (by omega)
      have c1 : wr.cell? ⟨b, off + k * 12 + 1, none⟩ = some (.int .i64 x.sk.kind) := hc 1 (by omega)
      have c2 : wr.cell? ⟨b, off + k * 12 + 2, none⟩ = some (.int .i64 x.sk.level) := hc 2 (by omega)
      have c3 : wr.cell? ⟨b, off + k * 12 + 3, none⟩ = some (.slice p.ss.ea p.ss.el p.ss.ec) := hc 3 (by omega)
      have c4 : wr.cell? ⟨b, off + k * 12 + 4, none⟩ = some (.int .i64 x.sk.hb) := hc 4 (by omega)
      have c5 : wr.cell? ⟨b, off + k * 12 + 5, none⟩ = some (.string x.sk.hr) := hc 5 (by omega)
      have c6 : wr.cell? ⟨b, off + k * 12 + 6, none⟩ = some (.int .i64 x.sk.cr) := hc 6 (by omega)
      have c7 : wr.cell? ⟨b, off + k * 12 + 7, none⟩ = some (.int .i64 x.sk.cc) := hc 7 (by omega)
      have c8 : wr.cell? ⟨b, off + k * 12 + 8, none⟩ = some (.slice p.ss.ca p.ss.cl p.ss.cc) := hc 8 (by omega)
      have c9 : wr.cell? ⟨b, off + k * 12 + 9, none⟩ = some (.int .i64 x.sk.gf) := hc 9 (by omega)
      have c10 : wr.cell? ⟨b, off + k * 12 + 10, none⟩ = some (.slice p.ss.ga p.ss.gl p.ss.gc) := hc 10 (by omega)
      have c11 : wr.cell? ⟨b, off + k * 12 + 11, none⟩ = some (.int .u64 x.seen) := hc 11 (by omega)
      have HX : Hid ((l.map (·.1))[k]? = some x) := by rw [Hid, List.getElem?_map, hx]; rfl
      have HP : Hid (p.At wr.heap.size wr x) := ((HT.out.at_ _ (List.mem_of_getElem? hx)).below hB).mono hsz
      have HFx := Lib.hid (HF.out _ (List.mem_of_getElem? hx))
      have HS' : Hid (tabGo none (l.map (·.1)) = (serRight x && (match prevL (l.map (·.1)) k with | none => true | some y => labLess y x.l) && tabGo (some x.l) ((l.map (·.1)).drop (k + 1)))) := by rw [Hid, HS.out, tabGo_at HX.out]
      obtain ⟨W1, hW1, hX1, hB1, hs1⟩ := boxes1 wr #[.slice p.la p.ll p.lc, .int .i64 x.sk.kind, .int .i64 x.sk.level, .slice p.ss.ea p.ss.el p.ss.ec, .int .i64 x.sk.hb, .string x.sk.hr, .int .i64 x.sk.cr, .int .i64 x.sk.cc, .slice p.ss.ca p.ss.cl p.ss.cc, .int .i64 x.sk.gf, .slice p.ss.ga p.ss.gl p.ss.gc, .int .u64 x.seen] 48
      have r0 : W1.cell? ⟨wr.heap.size, 0, none⟩ = some (.slice p.la p.ll p.lc) := cell_of_cells hX1 0
      have r1 : W1.cell? ⟨wr.heap.size, 1, none⟩ = some (.int .i64 x.sk.kind) := cell_of_cells hX1 1
      have r2 : W1.cell? ⟨wr.heap.size, 2, none⟩ = some (.int .i64 x.sk.level) := cell_of_cells hX1 2
      have r3 : W1.cell? ⟨wr.heap.size, 3, none⟩ = some (.slice p.ss.ea p.ss.el p.ss.ec) := cell_of_cells hX1 3
      have r4 : W1.cell? ⟨wr.heap.size, 4, none⟩ = some (.int .i64 x.sk.hb) := cell_of_cells hX1 4
      have r5 : W1.cell? ⟨wr.heap.size, 5, none⟩ = some (.string x.sk.hr) := cell_of_cells hX1 5
      have r6 : W1.cell? ⟨wr.heap.size, 6, none⟩ = some (.int .i64 x.sk.cr) := cell_of_cells hX1 6
      have r7 : W1.cell? ⟨wr.heap.size, 7, none⟩ = some (.int .i64 x.sk.cc) := cell_of_cells hX1 7
      have r8 : W1.cell? ⟨wr.heap.size, 8, none⟩ = some (.slice p.ss.ca p.ss.cl p.ss.cc) := cell_of_cells hX1 8
      have r9 : W1.cell? ⟨wr.heap.size, 9, none⟩ = some (.int .i64 x.sk.gf) := cell_of_cells hX1 9
      have r10 : W1.cell? ⟨wr.heap.size, 10, none⟩ = some (.slice p.ss.ga p.ss.gl p.ss.gc) := cell_of_cells hX1 10
      have r11 : W1.cell? ⟨wr.heap.size, 11, none⟩ = some (.int .u64 x.seen) := cell_of_cells hX1 11
      have HP1 : Hid (p.At W1.heap.size W1 x) := HP.out.go hB1
      have HG1 : Hid (GW W1) := HG.out.below (hB.trans (hB1.mono hsz))
      have hz1 : wr.heap.size < W1.heap.size := by omega
      clear hc hx hs1
      by_cases hr : serRight x = true
      case neg =>
        have hr' : serRight x = false := by simpa using hr
        have H9 : Hid (bR = false) := by rw [Hid, HR.out, HS'.out, hr']; rfl
        clear hr
        go_wp2_with (go_at_call 15; refine (rightSeries_any x p _ HP1.out HFx.out HG1.out).mono ?_; rintro e w2 ⟨rfl, hb2⟩; rw [hr']; have hZ := hb2.size)
        go_ret
        exact ⟨by rw [H9.out]; rfl, hB.trans ((hB1.mono hsz).trans (hb2.mono (by omega)))⟩
      have H8 : Hid (serRight x = true) := hr
      clear hr
      go_wp2_with (go_at_call 15; refine (rightSeries_any x p _ HP1.out HFx.out HG1.out).mono ?_; rintro e w2 ⟨rfl, hb2⟩; rw [H8.out]; have hZ := hb2.size)
      have g0 : w2.cell? ⟨wr.heap.size, 0, none⟩ = some (.slice p.la p.ll p.lc) := (hb2.cell (p := ⟨wr.heap.size, 0, none⟩) hz1).trans r0
      have HP2 : Hid (p.At w2.heap.size w2 x) := HP1.out.go hb2
      have hBB : Below w.heap.size w w2 := hB.trans ((hB1.mono hsz).trans (hb2.mono (by omega)))
      let Inv : World → Prop := fun W => Below w2.heap.size w2 W
      have hgo : ∀ W W', Inv W → Below W.heap.size W W' → Inv W' := fun W W' h hb => Below.trans h (hb.mono h.size)
      have hfin : Hid (∀ X : WIn Inv, Below w.heap.size w X.world) := fun X => hBB.trans (Below.mono X.ok hBB.size)
      have hI0 : Hid (Inv w2.drew) := (Below.refl _ _).drew
      have hne : Nonempty (WIn Inv) := ⟨⟨_, hI0.out⟩⟩
      have q0 : ∀ X : WIn Inv, X.world.cell? ⟨wr.heap.size, 0, none⟩ = some (.slice p.la p.ll p.lc) := fun X => (Below.cell X.ok (p := ⟨wr.heap.size, 0, none⟩) (by show wr.heap.size < _; omega)).trans g0
      clear r0 r1 r2 r3 r4 r5 r6 r7 r8 r9 r10 r11 hX1 hW1 c0 c1 c2 c3 c4 c5 c6 c7 c8 c9 c10 c11 g0
      rcases Nat.eq_zero_or_pos k with h0 | hpos
      · have t0 : decide ((0 : Int) < (k : Int)) = false := by simp; omega
        have t1 : decide (0 < k) = false := by simp; omega
        have H7 : Hid (tabGo none (l.map (·.1)) = tabGo (prevL (l.map (·.1)) (k + 1)) ((l.map (·.1)).drop (k + 1))) := by rw [Hid, HS'.out, H8.out, prevL_succ HX.out, h0]; rfl
        clear HS' HS h0
        clear_value Inv
        refine wp_region_class Inv (by kernel_rfl) (by kernel_rfl) hI0.out ?_
        repeat (first | go_big_quiet_step (fail) | quiet_step (fail))
        refine wpQuiet_nil ?_
        rintro _ ⟨X, rfl⟩
        have hX := hfin.out X
        go_wp2_with fail
        all_goals go_roundw
        case rel => exact ⟨k + 1, by go_num, by omega, hX, H7.out⟩
        case measure => simp [intOf]; omega
      · obtain ⟨⟨y, py⟩, hy⟩ : ∃ x, l[k - 1]? = some x := ⟨_, List.getElem?_eq_getElem (by omega)⟩
        obtain ⟨b', off', e1, hbb', hc'⟩ := HT.out.row.1.2 (k - 1) (y, py) hy
        injection e1 with e1
        injection e1 with e1 e2
        subst e1; subst e2
        have t0 : decide ((0 : Int) < (k : Int)) = true := by simp; omega
        have t1 : decide (0 < k) = true := by simp; omega
        have i1 : (1 : Int) ≤ (k : Int) := by omega
        have q1 : ∀ X : WIn Inv, X.world.cell? ⟨b, off + (k - 1) * 12, none⟩ = some (.slice py.la py.ll py.lc) := fun X => ((hfin.out X).cell (p := ⟨b, off + (k - 1) * 12, none⟩) hbb).trans (hc' 0 (by omega))
        have HY : Hid (prevL (l.map (·.1)) k = some y.l) := prevL_pos hpos (by rw [List.getElem?_map, hy]; rfl)
        have HPy : Hid (py.At w.heap.size w y) := HT.out.at_ _ (List.mem_of_getElem? hy)
        have HFy := Lib.hid (HF.out _ (List.mem_of_getElem? hy))
        have HPyI : Hid (∀ X : WIn Inv, py.At X.world.heap.size X.world y) := fun X => (HPy.out.below (hfin.out X)).mono (hfin.out X).size
        have HPxI : Hid (∀ X : WIn Inv, p.At X.world.heap.size X.world x) := fun X => HP2.out.go X.ok
        have K0 : Hid (∀ X : WIn Inv, Calls Tryz.prog 20 #[.slice py.la py.ll py.lc, .slice p.la p.ll p.lc] X.world fun e w' => e = .returned (.bool (labLess y.l x.l)) ∧ ∃ Y : WIn Inv, w' = Y.world) := fun X => calls_class_below hgo (label_Less_any _ _ _ y.l _ _ _ x.l X.world (HPyI.out X).l.1 (HPxI.out X).l.1 (Nat.le_trans (HPyI.out X).l.2.1 (HPyI.out X).l.2.2.1) (Nat.le_trans (HPxI.out X).l.2.1 (HPxI.out X).l.2.2.1))
        have HS2 : Hid (tabGo none (l.map (·.1)) = (labLess y.l x.l && tabGo (prevL (l.map (·.1)) (k + 1)) ((l.map (·.1)).drop (k + 1)))) := by rw [Hid, HS'.out, H8.out, HY.out, prevL_succ HX.out]; rfl
        clear hy hc' HS' HS HPyI HPxI
        clear hgo
        clear_value Inv
        generalize labLess y.l x.l = b1 at K0 HS2
        cases b1
        · have K1 := Lib.hid K0.out
          have H9 : Hid (bR = false) := by rw [Hid, HR.out, HS2.out]; rfl
          clear K0
          refine wp_region_class Inv (by kernel_rfl) (by kernel_rfl) hI0.out ?_
          repeat (first | go_big_quiet_step ((go_at_call 20; with_reducible exact K1.out _)) | quiet_step ((go_at_call 20; with_reducible exact K1.out _)))
          refine wpQuiet_nil ?_
          rintro _ ⟨X, rfl⟩
          have hX := hfin.out X
          go_wp2_with fail
          go_ret
          exact ⟨by rw [H9.out]; rfl, hX⟩
        · have K1 := Lib.hid K0.out
          have H7 : Hid (tabGo none (l.map (·.1)) = tabGo (prevL (l.map (·.1)) (k + 1)) ((l.map (·.1)).drop (k + 1))) := by rw [Hid, HS2.out]; rfl
          clear K0
          refine wp_region_class Inv (by kernel_rfl) (by kernel_rfl) hI0.out ?_
          repeat (first | go_big_quiet_step ((go_at_call 20; with_reducible exact K1.out _)) | quiet_step ((go_at_call 20; with_reducible exact K1.out _)))
          refine wpQuiet_nil ?_
          rintro _ ⟨X, rfl⟩
          have hX := hfin.out X
          go_wp2_with fail
          all_goals go_roundw
          case rel => exact ⟨k + 1, by go_num, by omega, hX, H7.out⟩
          case measure => simp [intOf]; omega
    · obtain rfl : k = l.length := by omega
      have H9 : Hid (bR = true) := by rw [Hid, HR.out, HS.out, List.drop_eq_nil_of_le (by rw [List.length_map]; exact Nat.le_refl _)]; cases prevL (l.map (·.1)) l.length <;> rfl
      go_wp2_with fail
      go_ret
      exact ⟨by rw [H9.out]; rfl, hB⟩
end Go.Proofs.YthnfhklfmaeccaaGreatDoor
namespace Go.Proofs.YthnfhklfmaeccaaGreatDoor
open Go Go.RowKit Go.Shelf

/-- How many series stand ahead of labels. -/
def findAt (l : List Ser) (q : List Lab) : Nat := (l.takeWhile (fun x => labLess x.l q)).length
def thereAt (l : List Ser) (q : List Lab) : Bool := match l[findAt l q]? with | some x => x.l == q | none => false
theorem findAt_less {l : List Ser} {q : List Lab} {k : Nat} {x : Ser} (hx : l[k]? = some x) (h : labLess x.l q = true) : findAt (l.drop k) q = 1 + findAt (l.drop (k + 1)) q := by
  rw [drop_cons' hx, findAt, List.takeWhile_cons, if_pos h, List.length_cons, Nat.add_comm]; rfl
theorem findAt_stop {l : List Ser} {q : List Lab} {k : Nat} {x : Ser} (hx : l[k]? = some x) (h : labLess x.l q = false) : findAt (l.drop k) q = 0 := by
  rw [drop_cons' hx, findAt, List.takeWhile_cons, if_neg (by simp [h])]; rfl
theorem findAt_le (l : List Ser) (q : List Lab) : findAt l q ≤ l.length := (List.takeWhile_prefix _).length_le

set_option maxRecDepth 100000 in
set_option maxHeartbeats 4000000 in
theorem series_Find_any (l : List (Ser × SerP)) (a : Option Addr) (len cap : Nat) (q : List Lab) (qa : Option Addr) (qn qc : Nat) (w : World) (hT : Tab w.heap.size w a len cap l) (hF : TabFit l) (hG : GW w) (hQ : SlE Lab.enc 2 w.heap.size w qa qn q) (hqm : qn ≤ maxLen) :
    Calls Tryz.prog 16 #[.slice a len cap, .slice qa qn qc] w fun e w' => e = .returned (.tuple #[.int .i64 (if tabRight (l.map (·.1)) then (findAt (l.map (·.1)) q : Int) else 0), .bool (tabRight (l.map (·.1)) && thereAt (l.map (·.1)) q)]) ∧ Below w.heap.size w w' := by
  have hR := series_Right_any l a len cap w hT hF hG
  have hlen := hT.row.1.1
  subst hlen
  have HT := Lib.hid hT
  have HQ := Lib.hid hQ
  have hm : l.length ≤ maxLen := Nat.le_trans hT.row.2.1 hT.row.2.2.1
  unfold maxLen at hm
  have HQM := Lib.hid hqm
  clear hT hF hG hQ hqm
  cases hr : tabRight (l.map (·.1)) with
  | false =>
    rw [hr] at hR
    go_enter Tryz.func16, Tryz.ntmps16
    go_wp2_with (go_at_call 11; refine hR.mono ?_; rintro e w1 ⟨rfl, hb1⟩)
    go_ret2
    exact ⟨rfl, hb1⟩
  | true =>
    rw [hr] at hR
    rw [if_pos rfl, Bool.true_and]
    clear hr
    obtain ⟨bT, hbT⟩ : ∃ bT, thereAt (l.map (·.1)) q = bT := ⟨_, rfl⟩
    obtain ⟨kT, hkT⟩ : ∃ kT, findAt (l.map (·.1)) q = kT := ⟨_, rfl⟩
    rw [hbT, hkT]
    have HbT : Hid (bT = thereAt (l.map (·.1)) q) := hbT.symm
    have HkT : Hid (kT = findAt (l.map (·.1)) q) := hkT.symm
    clear hbT hkT
    go_enter Tryz.func16, Tryz.ntmps16
    go_wp2_with (go_at_call 11; refine hR.mono ?_; rintro e w1 ⟨rfl, hb1⟩)
    clear hR
    go_loopw [6] (fun i wr => ∃ (k : Nat), i = .int .i64 k ∧ k ≤ l.length ∧ Below w.heap.size w wr ∧ Hid (kT = k + findAt ((l.map (·.1)).drop k) q)) (fun i _ => l.length - (intOf i).toNat)
    case atStart => exact ⟨0, rfl, Nat.zero_le _, hb1, by rw [Hid, HkT.out, Nat.zero_add]; rfl⟩
    case round =>
      obtain ⟨k, rfl, hk, hB, HS⟩ := hrel
      have hsz := hB.size
      by_cases hlt : k < l.length
      · obtain ⟨⟨x, p⟩, hx⟩ : ∃ x, l[k]? = some x := ⟨_, List.getElem?_eq_getElem hlt⟩
        obtain ⟨b, off, rfl, hbb, hc⟩ := HT.out.row.1.2 k (x, p) hx
        have HX : Hid ((l.map (·.1))[k]? = some x) := by rw [Hid, List.getElem?_map, hx]; rfl
        have c0 : wr.cell? ⟨b, off + k * 12, none⟩ = some (.slice p.la p.ll p.lc) := (hB.cell (p := ⟨b, off + k * 12, none⟩) hbb).trans (hc 0 (by omega))
        have HP : Hid (p.At w.heap.size w x) := HT.out.at_ _ (List.mem_of_getElem? hx)
        have HC : Hid (w.cell? ⟨b, off + k * 12, none⟩ = some (.slice p.la p.ll p.lc)) := hc 0 (by omega)
        clear hc hx
        cases hL : labLess x.l q with
        | true =>
          have HL := Lib.hid hL
          clear hL
          go_wp2_with (go_at_call 20; refine (label_Less_any _ _ _ x.l _ _ _ q wr ((HP.out.below hB).mono hsz).l.1 ((HQ.out.below hB).mono hsz) (Nat.le_trans HP.out.l.2.1 HP.out.l.2.2.1) HQM.out).mono ?_; rintro e w2 ⟨rfl, hb2⟩; rw [HL.out])
          go_roundw
          case rel => exact ⟨k + 1, by go_num, by omega, hB.trans (hb2.mono hsz), by rw [Hid, HS.out, findAt_less HX.out HL.out]; omega⟩
          case measure => simp [intOf]; omega
        | false =>
          have HL := Lib.hid hL
          have H9 : Hid (kT = k) := by rw [Hid, HS.out, findAt_stop HX.out HL.out]; rfl
          have H8 : Hid (bT = (x.l == q)) := by rw [Hid, HbT.out, thereAt, ← HkT.out, H9.out, HX.out]
          clear hL
          go_wp2_with (go_at_call 20; refine (label_Less_any _ _ _ x.l _ _ _ q wr ((HP.out.below hB).mono hsz).l.1 ((HQ.out.below hB).mono hsz) (Nat.le_trans HP.out.l.2.1 HP.out.l.2.2.1) HQM.out).mono ?_; rintro e w2 ⟨rfl, hb2⟩; rw [HL.out]; have hB2 := hB.trans (hb2.mono hsz); have c2 : w2.cell? ⟨b, off + k * 12, none⟩ = some (.slice p.la p.ll p.lc) := (hB2.cell (p := ⟨b, off + k * 12, none⟩) hbb).trans HC.out)
          refine (equal_lab _ _ _ x.l _ _ _ q w2 ((HP.out.below hB2).mono hB2.size).l.1 ((HQ.out.below hB2).mono hB2.size) (Nat.le_trans HP.out.l.2.1 HP.out.l.2.2.1)).mono ?_
          rintro e w3 ⟨rfl, hb3⟩
          go_wp2_with fail
          go_ret2
          exact ⟨by rw [H9.out, H8.out]; simp, hB2.trans (hb3.mono hB2.size)⟩
      · obtain rfl : k = l.length := by omega
        have hnil : (l.map (·.1)).drop l.length = [] := List.drop_eq_nil_of_le (by rw [List.length_map]; exact Nat.le_refl _)
        have H9 : Hid (kT = l.length) := by rw [Hid, HS.out, hnil]; rfl
        have H8 : Hid (bT = false) := by rw [Hid, HbT.out, thereAt, ← HkT.out, H9.out, List.getElem?_eq_none (by rw [List.length_map]; exact Nat.le_refl _)]
        clear hnil
        go_wp2_with fail
        go_ret2
        exact ⟨by rw [H9.out, H8.out]; rfl, hB⟩
end Go.Proofs.YthnfhklfmaeccaaGreatDoor

/- series.Meant. aviarylaw12.SeriesWhole answers true. -/
import Derived.Test.YthnfhklfmaeccaaGreatDoorT8
import Derived.Test.YthnfhklfmaeccaaGreatDoorS7
import Derived.Test.YthnfhklfmaeccaaGreatDoorP1
namespace Go.Proofs.YthnfhklfmaeccaaGreatDoor
open Go Go.RowKit Go.Shelf

theorem Means_E (s : StrK) (a : Option Addr) (len cap : Nat) (l : List Lab) (w : World) (h : SlE Lab.enc 2 w.heap.size w a len l) (ho : LabsOk l) (hr : labRight l = true) (hG : GW w) (hm : len < 4294967281) :
    Calls Tryz.prog 14 #[.string s.1, .slice a len cap] w fun e w' => e = .returned (.tuple #[.bool (meansS s l).1, .int .i64 (meansS s l).2]) ∧ Below w.heap.size w w' := by
  have hl := h.1
  have h0 : 0 < len := by
    rcases Nat.eq_zero_or_pos len with h0 | h0
    · subst h0
      obtain rfl : l = [] := List.eq_nil_of_length_eq_zero hl.symm
      cases hr
    · exact h0
  have hat := h.to_at (cap := cap) labEnc_len h0
  obtain ⟨ls, rfl⟩ := labK_of l ho
  rw [List.length_map] at hl
  subst hl
  exact Means_any s a cap ls w hat hG hm
/-- The places of those that a scope means, from a place on. -/
def meantGo (s : StrK) : Nat → List Ser → List Nat
  | _, [] => []
  | k, x :: r => if (meansS s x.l).1 then k :: meantGo s (k + 1) r else meantGo s (k + 1) r
def meantOk (L : List Ser) (s : StrK) : Bool := tabRight L && scRight s
def meantE (L : List Ser) (s : StrK) : Int := if tabRight L then (if scRight s then 0 else 50) else 120
def meantR (L : List Ser) (s : StrK) : List Nat := if meantOk L s then meantGo s 0 L else []
theorem meantGo_snoc (s : StrK) (x : Ser) : ∀ (l : List Ser) (k : Nat), meantGo s k (l ++ [x]) = meantGo s k l ++ (if (meansS s x.l).1 then [k + l.length] else [])
  | [], k => by simp [meantGo]
  | y :: l, k => by
    simp only [List.cons_append, meantGo, meantGo_snoc s x l, List.length_cons]
    have e : k + 1 + l.length = k + (l.length + 1) := by omega
    split <;> simp [e]
theorem meantGo_len (s : StrK) : ∀ (l : List Ser) (k : Nat), (meantGo s k l).length ≤ l.length
  | [], k => by simp [meantGo]
  | y :: l, k => by
    have := meantGo_len s l (k + 1)
    simp only [meantGo, List.length_cons]
    split
    · simp only [List.length_cons]; omega
    · omega
def encI (n : Nat) : List Value := [.int .i64 n]
theorem und_ints : Tryz.prog.underlying 25 = some (.slice 3) := by kernel_rfl
theorem info_int : (Tryz.prog.info? 3).map (fun i => (i.zero, i.size, i.bytes)) = some (some (.int .i64 0), 1, 8) := by kernel_rfl
theorem means_zero {s : StrK} {l : List Lab} (h1 : scRight s = true) (h2 : labRight l = true) : (meansS s l).2 = 0 := by
  unfold scRight at h1
  unfold meansS
  cases hs : readS s with
  | none => rw [hs] at h1; cases h1
  | some ts => simp [h2]
theorem owns_go {A B : World} {base e size n : Nat} {v : Value} {xs : List Value} (h : A.ownsRow base e size v n xs) (hb : Below A.heap.size A B) : B.ownsRow base e size v n xs :=
  ⟨h.1, h.2.imp id (fun ⟨g, cap, cur, h1, h2, h3, h4⟩ => ⟨g, cap, cur, h1, h2, known hb (Nat.le_refl _) h3, h4⟩)⟩
def MeantPost (L : List Ser) (s : StrK) (w : World) (e : Ending) (w' : World) : Prop :=
  ∃ a cap, e = .returned (.tuple #[.slice a (meantR L s).length cap, .int .i64 (meantE L s)]) ∧ SlC encI 1 w'.heap.size w' a (meantR L s).length cap (meantR L s) ∧ Below w.heap.size w w'

attribute [-go_sem] Builtin.append_
set_option maxRecDepth 100000 in
set_option maxHeartbeats 4000000 in
theorem Meant_any (s : StrK) (l : List (Ser × SerP)) (a : Option Addr) (len cap : Nat) (w : World) (hT : Tab w.heap.size w a len cap l) (hF : TabFit l) (hG : GW w) :
    Calls Tryz.prog 6 #[.slice a len cap, .string s.1] w (MeantPost (l.map (·.1)) s w) := by
  have hR := series_Right_any l a len cap w hT hF hG
  have hlen := hT.row.1.1
  subst hlen
  have HT := Lib.hid hT
  have HF := Lib.hid hF
  have HG := Lib.hid hG
  have hm : l.length ≤ maxLen := Nat.le_trans hT.row.2.1 hT.row.2.2.1
  unfold maxLen at hm
  clear hT hF hG
  cases hr : tabRight (l.map (·.1)) with
  | false =>
    rw [hr] at hR
    have H9 : Hid (meantE (l.map (·.1)) s = 120 ∧ meantR (l.map (·.1)) s = []) := ⟨by rw [meantE, hr]; rfl, by rw [meantR, meantOk, hr]; rfl⟩
    clear hr
    go_enter Tryz.func6, Tryz.ntmps6
    go_wp2_with (go_at_call 11; refine hR.mono ?_; rintro e w1 ⟨rfl, hb1⟩)
    go_ret2
    exact ⟨none, 0, by rw [H9.out.1, H9.out.2]; rfl, by rw [H9.out.2]; exact SlC.nil, hb1⟩
  | true =>
    rw [hr] at hR
    have HSc : Hid (∀ w', Below w.heap.size w w' → Calls Tryz.prog 13 #[.string s.1] w' fun e w'' => e = .returned (.bool (scRight s)) ∧ Below w'.heap.size w' w'') := fun w' hb => scRight_any s w' (HG.out.below hb)
    cases hs : scRight s with
    | false =>
      rw [hs] at HSc
      have H9 : Hid (meantE (l.map (·.1)) s = 50 ∧ meantR (l.map (·.1)) s = []) := ⟨by rw [meantE, hr, hs]; rfl, by rw [meantR, meantOk, hr, hs]; rfl⟩
      clear hr hs
      go_enter Tryz.func6, Tryz.ntmps6
      go_wp2_with (first
        | (go_at_call 11; refine hR.mono ?_; rintro e w1 ⟨rfl, hb1⟩)
        | (go_at_call 13; refine (HSc.out _ hb1).mono ?_; rintro e w2 ⟨rfl, hb2⟩))
      go_ret2
      exact ⟨none, 0, by rw [H9.out.1, H9.out.2]; rfl, by rw [H9.out.2]; exact SlC.nil, hb1.trans (hb2.mono hb1.size)⟩
    | true =>
      rw [hs] at HSc
      have H9 : Hid (meantE (l.map (·.1)) s = 0 ∧ meantR (l.map (·.1)) s = meantGo s 0 (l.map (·.1))) := ⟨by rw [meantE, hr, hs]; rfl, by rw [meantR, meantOk, hr, hs]; rfl⟩
      have HLR : Hid (∀ x ∈ l.map (·.1), labRight x.l = true) := fun x hx => by
        have := ((tabRight_iff _).1 hr).2.1 x hx
        simp only [serRight, Bool.and_eq_true] at this
        exact this.1
      have h20 : l.length ≤ 20 := by have := ((tabRight_iff _).1 hr).1; rwa [List.length_map] at this
      have HSR := Lib.hid hs
      clear hr hs
      go_enter Tryz.func6, Tryz.ntmps6
      go_wp2_with (first
        | (go_at_call 11; refine hR.mono ?_; rintro e w1 ⟨rfl, hb1⟩)
        | (go_at_call 13; refine (HSc.out _ hb1).mono ?_; rintro e w2 ⟨rfl, hb2⟩))
      clear hR
      have hb02 := hb1.trans (hb2.mono hb1.size)
      go_loopw [6, 19] (fun v i wr => ∃ (k : Nat) (pl : List Nat), i = .int .i64 k ∧ k ≤ l.length ∧ Hid (pl = meantGo s 0 ((l.map (·.1)).take k)) ∧ Hid (pl.length ≤ k) ∧ wr.ownsRow w.heap.size 3 1 v pl.length (pl.flatMap encI) ∧ Below w.heap.size w wr) (fun _ i _ => l.length - (intOf i).toNat)
      case atStart => exact ⟨0, [], rfl, Nat.zero_le _, rfl, Nat.le_refl _, World.ownsRow_nil _ _ _ _, hb02⟩
      case round =>
        obtain ⟨k, pl, rfl, hk, HPl, HLe, hown, hB⟩ := hrel
        have hsz := hB.size
        obtain ⟨va, vc, rfl⟩ := owns_formL hown
        have HOw := Lib.hid hown
        have hpl : pl.length < 4294967 := by have := HLe.out; omega
        obtain ⟨np, HNp⟩ : ∃ np, Hid (pl.length = np) := ⟨_, rfl⟩
        rw [HNp.out] at hpl ⊢
        clear hown
        by_cases hlt : k < l.length
        · obtain ⟨⟨x, p⟩, hx⟩ : ∃ x, l[k]? = some x := ⟨_, List.getElem?_eq_getElem hlt⟩
          obtain ⟨b, off, rfl, hbb, hc⟩ := (HT.out.below hB).row.1.2 k (x, p) hx
          have c0 : wr.cell? ⟨b, off + k * 12, none⟩ = some (.slice p.la p.ll p.lc) := hc 0 (by omega)
          have c1 : wr.cell? ⟨b, off + k * 12 + 1, none⟩ = some (.int .i64 x.sk.kind) := hc 1 (by omega)
          have c2 : wr.cell? ⟨b, off + k * 12 + 2, none⟩ = some (.int .i64 x.sk.level) := hc 2 (by omega)
          have c3 : wr.cell? ⟨b, off + k * 12 + 3, none⟩ = some (.slice p.ss.ea p.ss.el p.ss.ec) := hc 3 (by omega)
          have c4 : wr.cell? ⟨b, off + k * 12 + 4, none⟩ = some (.int .i64 x.sk.hb) := hc 4 (by omega)
          have c5 : wr.cell? ⟨b, off + k * 12 + 5, none⟩ = some (.string x.sk.hr) := hc 5 (by omega)
          have c6 : wr.cell? ⟨b, off + k * 12 + 6, none⟩ = some (.int .i64 x.sk.cr) := hc 6 (by omega)
          have c7 : wr.cell? ⟨b, off + k * 12 + 7, none⟩ = some (.int .i64 x.sk.cc) := hc 7 (by omega)
          have c8 : wr.cell? ⟨b, off + k * 12 + 8, none⟩ = some (.slice p.ss.ca p.ss.cl p.ss.cc) := hc 8 (by omega)
          have c9 : wr.cell? ⟨b, off + k * 12 + 9, none⟩ = some (.int .i64 x.sk.gf) := hc 9 (by omega)
          have c10 : wr.cell? ⟨b, off + k * 12 + 10, none⟩ = some (.slice p.ss.ga p.ss.gl p.ss.gc) := hc 10 (by omega)
          have c11 : wr.cell? ⟨b, off + k * 12 + 11, none⟩ = some (.int .u64 x.seen) := hc 11 (by omega)
          have HX : Hid ((l.map (·.1))[k]? = some x) := by rw [Hid, List.getElem?_map, hx]; rfl
          have HP : Hid (p.At wr.heap.size wr x) := ((HT.out.at_ _ (List.mem_of_getElem? hx)).below hB).mono hsz
          have HFx := Lib.hid (HF.out _ (List.mem_of_getElem? hx))
          obtain ⟨W1, hW1, hX1, hB1, hs1⟩ := boxes1 wr #[.slice p.la p.ll p.lc, .int .i64 x.sk.kind, .int .i64 x.sk.level, .slice p.ss.ea p.ss.el p.ss.ec, .int .i64 x.sk.hb, .string x.sk.hr, .int .i64 x.sk.cr, .int .i64 x.sk.cc, .slice p.ss.ca p.ss.cl p.ss.cc, .int .i64 x.sk.gf, .slice p.ss.ga p.ss.gl p.ss.gc, .int .u64 x.seen] 48
          have r0 : W1.cell? ⟨wr.heap.size, 0, none⟩ = some (.slice p.la p.ll p.lc) := cell_of_cells hX1 0
          have r1 : W1.cell? ⟨wr.heap.size, 1, none⟩ = some (.int .i64 x.sk.kind) := cell_of_cells hX1 1
          have r2 : W1.cell? ⟨wr.heap.size, 2, none⟩ = some (.int .i64 x.sk.level) := cell_of_cells hX1 2
          have r3 : W1.cell? ⟨wr.heap.size, 3, none⟩ = some (.slice p.ss.ea p.ss.el p.ss.ec) := cell_of_cells hX1 3
          have r4 : W1.cell? ⟨wr.heap.size, 4, none⟩ = some (.int .i64 x.sk.hb) := cell_of_cells hX1 4
          have r5 : W1.cell? ⟨wr.heap.size, 5, none⟩ = some (.string x.sk.hr) := cell_of_cells hX1 5
          have r6 : W1.cell? ⟨wr.heap.size, 6, none⟩ = some (.int .i64 x.sk.cr) := cell_of_cells hX1 6
          have r7 : W1.cell? ⟨wr.heap.size, 7, none⟩ = some (.int .i64 x.sk.cc) := cell_of_cells hX1 7
          have r8 : W1.cell? ⟨wr.heap.size, 8, none⟩ = some (.slice p.ss.ca p.ss.cl p.ss.cc) := cell_of_cells hX1 8
          have r9 : W1.cell? ⟨wr.heap.size, 9, none⟩ = some (.int .i64 x.sk.gf) := cell_of_cells hX1 9
          have r10 : W1.cell? ⟨wr.heap.size, 10, none⟩ = some (.slice p.ss.ga p.ss.gl p.ss.gc) := cell_of_cells hX1 10
          have r11 : W1.cell? ⟨wr.heap.size, 11, none⟩ = some (.int .u64 x.seen) := cell_of_cells hX1 11
          have HP1 : Hid (p.At W1.heap.size W1 x) := HP.out.go hB1
          have HG1 : Hid (GW W1) := HG.out.below (hB.trans (hB1.mono hsz))
          have hz1 : wr.heap.size < W1.heap.size := by omega
          have hlr : labRight x.l = true := HLR.out x (List.mem_of_getElem? HX.out)
          have hMe := Means_E s p.la p.ll p.lc x.l W1 HP1.out.l.1 HFx.out.lab hlr HG1.out HFx.out.ll
          rw [means_zero HSR.out hlr] at hMe
          have HPn : Hid (meantGo s 0 ((l.map (·.1)).take (k + 1)) = pl ++ (if (meansS s x.l).1 then [k] else [])) := by
            rw [Hid, take_snoc' HX.out, meantGo_snoc, ← HPl.out, List.length_take, List.length_map, Nat.min_eq_left hk, Nat.zero_add]
          clear hc hx hs1 hlr
          cases hmb : (meansS s x.l).1 with
          | false =>
            rw [hmb] at hMe HPn
            clear hmb
            go_wp2_with (go_at_call 14; refine hMe.mono ?_; rintro e w4 ⟨rfl, hb4⟩)
            have hb14 := hB1.trans (hb4.mono (by omega))
            go_roundw
            case rel => exact ⟨k + 1, pl, by go_num, by omega, by rw [Hid, HPn.out]; simp, by have := HLe.out; rw [Hid]; omega, by rw [← HNp.out]; exact owns_go HOw.out hb14, hB.trans (hb14.mono hsz)⟩
            case measure => simp [intOf]; omega
          | true =>
            rw [hmb] at hMe HPn
            clear hmb
            go_wp2_with (go_at_call 14; refine hMe.mono ?_; rintro e w4 ⟨rfl, hb4⟩; have hb14 := hB1.trans (hb4.mono (by omega)); have hBw4 := hB.trans (hb14.mono hsz); obtain ⟨g5, cap5, w5, hap5, hown5, hB5, hz5, -⟩ := append_one Tryz.prog 25 und_ints info_int rfl (by decide) (W := w4) (owns_go HOw.out hb14) hBw4 (Nat.le_refl _) (by have := hBw4.size; omega) [.int .i64 (k : Int)] rfl (by simp [Value.oneCell']) (by rw [HNp.out]; omega) (by decide); rw [HNp.out] at hap5 hown5; have HO5 := Lib.hid hown5; clear hown5)
            go_roundw
            case rel => exact ⟨k + 1, pl ++ [k], by go_num, by omega, by rw [Hid, HPn.out]; simp, by have := HLe.out; rw [Hid, List.length_append]; simp; omega, by rw [List.length_append, HNp.out, List.flatMap_append]; exact HO5.out, hB5⟩
            case measure => simp [intOf]; omega
        · obtain rfl : k = l.length := by omega
          have hfin : pl = meantR (l.map (·.1)) s := by rw [H9.out.2, HPl.out, List.take_of_length_le (by rw [List.length_map]; exact Nat.le_refl _)]
          have FI : Hid (MeantPost (l.map (·.1)) s w (.returned (.tuple #[.slice va np vc, .int .i64 0])) wr) := by
            obtain ⟨a', c', e1, h1, -⟩ := slC_of_owns (enc := encI) (fun _ => rfl) HOw.out
            rw [HNp.out] at e1
            refine ⟨a', c', ?_, ?_, hB⟩
            · rw [← hfin, HNp.out, H9.out.1, e1]
            · rw [← hfin]; exact h1
          clear hfin
          go_wp2_with fail
          go_ret2
          exact FI.out
end Go.Proofs.YthnfhklfmaeccaaGreatDoor
namespace Go.Proofs.YthnfhklfmaeccaaGreatDoor
open Go Go.RowKit Go.Shelf

def emptyK : StrK := ⟨⟨#[]⟩, by decide⟩
theorem sc_empty : scRight emptyK = true := rfl
theorem means_empty {l : List Lab} (h : labRight l = true) : (meansS emptyK l).1 = true := by
  unfold meansS
  rw [show readS emptyK = some [] from rfl]
  simp [h]
theorem meant_all : ∀ (l : List Ser) (k : Nat), (∀ x ∈ l, labRight x.l = true) → meantGo emptyK k l = (List.range l.length).map (k + ·)
  | [], k, _ => rfl
  | x :: r, k, h => by
    have h1 := meant_all r (k + 1) (fun y hy => h y (List.mem_cons_of_mem _ hy))
    simp only [meantGo, means_empty (h x List.mem_cons_self), if_true, h1, List.length_cons, List.range_succ_eq_map, List.map_cons, List.map_map]
    simp only [Nat.add_zero, List.cons.injEq, true_and]
    refine List.map_congr_left fun i _ => ?_
    simp only [Function.comp]
    omega
theorem meant_in (s : StrK) : ∀ (l : List Ser) (k : Nat), (∀ i ∈ meantGo s k l, k ≤ i ∧ i < k + l.length) ∧ (meantGo s k l).Pairwise (· < ·)
  | [], k => ⟨(fun i h => by cases h), List.Pairwise.nil⟩
  | x :: r, k => by
    obtain ⟨h1, h2⟩ := meant_in s r (k + 1)
    have h1' : ∀ i ∈ meantGo s (k + 1) r, k ≤ i ∧ i < k + (r.length + 1) := fun i hi => by have := h1 i hi; omega
    simp only [meantGo, List.length_cons]
    split
    · refine ⟨fun i hi => ?_, List.pairwise_cons.2 ⟨fun i hi => by have := h1 i hi; omega, h2⟩⟩
      rcases List.mem_cons.1 hi with rfl | hi
      · omega
      · exact h1' i hi
    · exact ⟨h1', h2⟩
def lastI (pl : List Nat) (k : Nat) : Int := if k = 0 then -1 else ((pl[k - 1]?).map (Int.ofNat ·)).getD 0
theorem lastI_succ {pl : List Nat} {k n : Nat} (h : pl[k]? = some n) : lastI pl (k + 1) = n := by simp [lastI, h]
theorem lastI_lt {pl : List Nat} {k n : Nat} (hp : pl.Pairwise (· < ·)) (h : pl[k]? = some n) : lastI pl k < n ∧ -1 ≤ lastI pl k := by
  unfold lastI
  split
  · omega
  · obtain ⟨hk, rfl⟩ := List.getElem?_eq_some_iff.1 h
    have := List.pairwise_iff_getElem.1 hp (k - 1) k (by omega) hk (by omega)
    rw [List.getElem?_eq_getElem (by omega)]
    simp only [Option.map_some, Option.getD_some, Int.ofNat_eq_natCast]
    omega
theorem cut12_any (s : ByteArray) (w : World) :
    Calls Tryz.prog 7 #[.string s] w fun e w' => e = .returned (.string (cutN 500 s)) ∧ Below w.heap.size w w' := by
  go_enter Tryz.func7, Tryz.ntmps7
  go_wp2_with fail
  go_ret
  exact ⟨rfl, Below.refl _ _⟩

set_option maxRecDepth 100000 in
set_option maxHeartbeats 8000000 in
theorem whole_any (l : List (Ser × SerP)) (a : Option Addr) (len cap : Nat) (sc : ByteArray) (w : World) (hT : Tab w.heap.size w a len cap l) (hW : ∀ x ∈ l.map (·.1), x.wf) (hG : GW w) :
    Calls Tryz.prog 3 #[.slice a len cap, .string sc] w fun e w' => e = .returned (.bool true) ∧ Below w.heap.size w w' := by
  have HT := Lib.hid hT
  have HW := Lib.hid hW
  have HG := Lib.hid hG
  clear hT hW hG
  go_enter Tryz.func3, Tryz.ntmps3
  go_wp2_with (first
    | (go_at_call 4; refine (shown12_any w HG.out).mono ?_; rintro e w1 ⟨rfl, hb1⟩)
    | (go_at_call 5; refine (few12_any l a len cap w1 (HT.out.go hb1)).mono ?_; rintro e w2 ⟨a2, cap2, m, rfl, hT2, hm, hlo, hla, hb2⟩; clear hlo hla))
  have HT2 := Lib.hid hT2
  have hB2 : Below w.heap.size w w2 := hb1.trans (hb2.mono hb1.size)
  have HF : Hid (TabFit m) := tabFit_of hT2 (by rw [hm]; exact fine_few HW.out)
  have HG2 : Hid (GW w2) := HG.out.below hB2
  clear hm hT2
  have hmm : m.length ≤ maxLen := Nat.le_trans HT2.out.row.2.1 HT2.out.row.2.2.1
  unfold maxLen at hmm
  refine (Meant_any emptyK m a2 m.length cap2 w2 HT2.out HF.out HG2.out).mono ?_
  rintro e w3 ⟨a3, cap3, rfl, hS3, hb3⟩
  have HS3 := Lib.hid hS3
  obtain ⟨sk, hsk⟩ : ∃ sk : StrK, sk.1 = cutN 500 sc := ⟨⟨cutN 500 sc, cutN_lt 500 (by decide) sc⟩, rfl⟩
  have HMe : Hid (∀ w', Below w2.heap.size w2 w' → Calls Tryz.prog 6 #[.slice a2 m.length cap2, .string (cutN 500 sc)] w' (MeantPost (m.map (·.1)) sk w')) := fun w' hb => by
    rw [← hsk]; exact Meant_any sk m a2 m.length cap2 w' (HT2.out.go hb) HF.out (HG2.out.below hb)
  clear hsk hS3
  go_wp2_with (go_at_call 7; refine (cut12_any sc w3).mono ?_; rintro e w4 ⟨rfl, hb4⟩)
  have hb24 := hb3.trans (hb4.mono hb3.size)
  refine (HMe.out w4 hb24).mono ?_
  rintro e w5 ⟨a5, cap5, rfl, hS5, hb5⟩
  have HS5 := Lib.hid hS5
  have hb25 := hb24.trans (hb5.mono hb24.size)
  have hbw5 : Below w.heap.size w w5 := hB2.trans (hb25.mono hB2.size)
  clear hS5 HMe
  cases hr : tabRight (m.map (·.1)) with
  | false =>
    have e1 : meantE (m.map (·.1)) emptyK = 120 := by rw [meantE, hr]; rfl
    have e2 : meantE (m.map (·.1)) sk = 120 := by rw [meantE, hr]; rfl
    rw [e1, e2]
    clear hr e1 e2
    go_wp2_with fail
    go_ret
    exact ⟨rfl, hbw5⟩
  | true =>
    have HLR : Hid (∀ x ∈ m.map (·.1), labRight x.l = true) := fun x hx => by
      have := ((tabRight_iff _).1 hr).2.1 x hx
      simp only [serRight, Bool.and_eq_true] at this
      exact this.1
    have h20 : m.length ≤ 20 := by have := ((tabRight_iff _).1 hr).1; rwa [List.length_map] at this
    have e1 : meantE (m.map (·.1)) emptyK = 0 := by rw [meantE, hr, sc_empty]; rfl
    have HA : Hid (meantR (m.map (·.1)) emptyK = List.range m.length) := by
      rw [Hid, meantR, meantOk, hr, sc_empty, Bool.and_self, if_pos rfl, meant_all _ _ HLR.out, List.length_map]
      simp
    have HE : Hid (meantE (m.map (·.1)) sk = 0 ∨ (meantE (m.map (·.1)) sk = 50 ∧ meantR (m.map (·.1)) sk = [])) := by
      rw [Hid, meantE, meantR, meantOk, hr]
      cases scRight sk
      · exact .inr ⟨rfl, rfl⟩
      · exact .inl rfl
    have HI : Hid ((∀ i ∈ meantR (m.map (·.1)) sk, i < m.length) ∧ (meantR (m.map (·.1)) sk).Pairwise (· < ·)) := by
      rw [Hid, meantR]
      split
      · obtain ⟨h1, h2⟩ := meant_in sk (m.map (·.1)) 0
        exact ⟨fun i hi => by have := (h1 i hi).2; rw [List.length_map] at this; omega, h2⟩
      · exact ⟨(fun i hi => by cases hi), List.Pairwise.nil⟩
    rw [e1]
    have HS3' : Hid (SlC encI 1 w3.heap.size w3 a3 m.length cap3 (List.range m.length)) := by have := HS3.out; rw [HA.out, List.length_range] at this; exact this
    have hlA : (meantR (m.map (·.1)) emptyK).length = m.length := by rw [HA.out, List.length_range]
    rw [hlA]
    clear hr e1 hlA HA HS3 HLR
    generalize meantR (m.map (·.1)) sk = pl at *
    generalize meantE (m.map (·.1)) sk = fI at *
    have hpl : pl.length ≤ maxLen := Nat.le_trans HS5.out.2.1 HS5.out.2.2.1
    unfold maxLen at hpl
    go_wp2_with fail
    go_loopw [10] (fun i wr => ∃ (k : Nat), i = .int .i64 k ∧ k ≤ m.length ∧ Below w5.heap.size w5 wr) (fun i _ => m.length - (intOf i).toNat)
    case atStart => exact ⟨0, rfl, Nat.zero_le _, Below.refl _ _⟩
    case round =>
      obtain ⟨k, rfl, hk, hB⟩ := hrel
      have hsz := hB.size
      by_cases hlt : k < m.length
      · obtain ⟨b, off, rfl, hbb, hc⟩ := HS3'.out.1.2 k k (by rw [List.getElem?_range hlt])
        have hb35 : Below w3.heap.size w3 wr := (hb4.trans (hb5.mono hb4.size)).trans (hB.mono (by have := hb4.size; have := hb5.size; omega))
        have c0 : wr.cell? ⟨b, off + k * 1, none⟩ = some (.int .i64 (k : Int)) := (hb35.cell (p := ⟨b, off + k * 1, none⟩) hbb).trans (hc 0 (by omega))
        rw [Nat.mul_one] at c0
        have i0 : (0 : Int) ≤ (k : Int) := by omega
        have i1 : (k : Int) < (m.length : Int) := by omega
        clear hc
        go_wp2_with fail
        go_roundw
        case rel => exact ⟨k + 1, by go_num, by omega, hB⟩
        case measure => simp [intOf]; omega
      · obtain rfl : k = m.length := by omega
        obtain ⟨w6, hw6⟩ : ∃ w6, w6 = wr := ⟨_, rfl⟩
        subst hw6
        have hbw6 : Below w.heap.size w w6 := hbw5.trans (hB.mono hbw5.size)
        have HS6 : Hid (SlC encI 1 w6.heap.size w6 a5 pl.length cap5 pl) := HS5.out.go hB
        go_wp2_with fail
        go_loopw [11, 12] (fun la i wr => ∃ (k : Nat), i = .int .i64 k ∧ la = .int .i64 (lastI pl k) ∧ k ≤ pl.length ∧ Below w6.heap.size w6 wr) (fun _ i _ => pl.length - (intOf i).toNat)
        case atStart => exact ⟨0, rfl, rfl, Nat.zero_le _, Below.refl _ _⟩
        case round =>
          obtain ⟨k, rfl, rfl, hk2, hB6⟩ := hrel
          have hsz6 := hB6.size
          by_cases hlt2 : k < pl.length
          · obtain ⟨n, hn⟩ : ∃ n, pl[k]? = some n := ⟨_, List.getElem?_eq_getElem hlt2⟩
            obtain ⟨b, off, rfl, hbb, hc⟩ := HS6.out.1.2 k n hn
            have c0 : wr.cell? ⟨b, off + k * 1, none⟩ = some (.int .i64 (n : Int)) := (hB6.cell (p := ⟨b, off + k * 1, none⟩) hbb).trans (hc 0 (by omega))
            rw [Nat.mul_one] at c0
            have i0 : (0 : Int) ≤ (k : Int) := by omega
            have i1 : (k : Int) < (pl.length : Int) := by omega
            obtain ⟨j1, j2⟩ := lastI_lt HI.out.2 hn
            have j3 : n < m.length := HI.out.1 n (List.mem_of_getElem? hn)
            have HLn : Hid (lastI pl (k + 1) = n) := lastI_succ hn
            have j4 : decide ((n : Int) ≤ lastI pl k) = false := by simp; omega
            have j5 : decide ((m.length : Int) ≤ (n : Int)) = false := by simp; omega
            generalize lastI pl k = lk at *
            clear hc hn
            go_wp2_with fail
            go_roundw
            case rel => exact ⟨k + 1, by go_num, by rw [HLn.out], by omega, hB6⟩
            case measure => simp [intOf]; omega
          · obtain rfl : k = pl.length := by omega
            have hbw7 : Below w.heap.size w wr := hbw6.trans (hB6.mono hbw6.size)
            rcases HE.out with h0 | ⟨h0, hp0⟩
            · subst h0
              go_wp2_with fail
              go_ret
              exact ⟨rfl, hbw7⟩
            · subst h0
              subst hp0
              go_wp2_with fail
              go_ret
              exact ⟨rfl, hbw7⟩
end Go.Proofs.YthnfhklfmaeccaaGreatDoor

/- aviarylaw12.SeriesParts answers true. -/
import Derived.Test.YthbhmnakmhambaaGreatDoorZJ3
import Derived.Test.YthbhmnakmhambaaGreatDoorZSMS1
namespace Go.Proofs.YthbhmnakmhambaaGreatDoor
open Go Go.RowKit Go.Shelf
def SkTold (k : Nat) (S : List (Nat × Bd)) (w : World) (e : Ending) (w' : World) : Prop := ∃ (y : Sk) (s : SS), y = skOf k (wkAll k S).1 (wkAll k S).2 ∧ e = .returned (.tuple #[.agg #[.int .i64 y.kind, .int .i64 y.level, .slice s.ea s.el s.ec, .int .i64 y.hb, .string y.hr, .int .i64 y.cr, .int .i64 y.cc, .slice s.ca s.cl s.cc, .int .i64 y.gf, .slice s.ga s.gl s.gc], .int .i64 0]) ∧ s.At w'.heap.size w' y ∧ Below w.heap.size w w'
theorem SumPost.told {k : Nat} {S : List (Nat × Bd)} (hk : k = 1 ∨ k = 2 ∨ k = 3) {w w' : World} {e : Ending} (h : SumPost (k : Int) 0 S w e w') : SkTold k S w e w' := by
 obtain ⟨y, s, h1, h2, h3, h4⟩ := h
 obtain ⟨e1, e2⟩ := sumSk_ok (S := S) hk
 rw [e1] at h2
 rw [e2] at h1
 exact ⟨y, s, h1, h2, h3, h4⟩
set_option maxRecDepth 100000 in
set_option maxHeartbeats 16000000 in
theorem seriesParts_any (l : List (Ser × SerP)) (a : Option Addr) (len cap : Nat) (sc : ByteArray) (n2 n3 : Int) (w : World) (hT : Tab w.heap.size w a len cap l) (hU : ∀ x ∈ l.map (·.1), Ser.wn x) (_h2 : I64 n2) (_h3 : I64 n3) (hG : GW w) (hg : GT w) :
  Calls Tryz.prog 6 #[.slice a len cap, .string sc, .int .i64 n2, .int .i64 n3] w fun e w' => e = .returned (.bool true) ∧ Below w.heap.size w w' := by
 have HT := Lib.hid hT
 have HG := Lib.hid hG
 have HGT := Lib.hid hg
 obtain ⟨L, hL⟩ : ∃ L, few12 (l.map (·.1)) = L := ⟨_, rfl⟩
 have HQ : Hid (tabRight L = true → QT L) := by rw [← hL]; exact qt_few hU
 have HFi : Hid (∀ x ∈ L, x.fine) := by rw [← hL]; exact fine_few (fun y hy => (hU y hy).wf)
 have HL := Lib.hid hL
 obtain ⟨sk, hsk⟩ : ∃ sk : StrK, sk.1 = cutN 500 sc := ⟨⟨cutN 500 sc, cutN_lt 500 (by decide) sc⟩, rfl⟩
 have HSK := Lib.hid hsk
 clear hT hU hG hg hL hsk
 go_enter Tryz.func6, Tryz.ntmps6
 go_wp2_with (first
  | (go_at_call 25; refine (shown12_any w HG.out).mono ?_; rintro e w1 ⟨rfl, hb1⟩)
  | (go_at_call 8; refine (few12_any l a len cap w1 (HT.out.go hb1)).mono ?_; rintro e w2 ⟨a2, cap2, m, rfl, hT2, hm, hlo, hla, hb2⟩; clear hlo hla; obtain ⟨q, hq⟩ : ∃ q : Int, min n3 (m.length : Int) = q := ⟨_, rfl⟩; obtain ⟨K, hK⟩ : ∃ K : Nat, max 0 q = (K : Int) := ⟨(max 0 q).toNat, (by omega)⟩; have hKm : K ≤ m.length := (by omega))
  | (go_at_call 26; refine (cut12_any sc _).mono ?_; rintro e w3 ⟨rfl, hb3⟩))
 have hB2 : Below w.heap.size w w2 := hb1.trans (hb2.mono hb1.size)
 have HM : Hid (m.map (·.1) = L) := hm.trans HL.out
 have HT2 := Lib.hid hT2
 have hlc : m.length ≤ cap2 := hT2.row.2.1
 have hF : TabFit m := tabFit_of hT2 (by rw [HM.out]; exact HFi.out)
 have HG2 : Hid (∀ W, Below w2.heap.size w2 W → GW W ∧ GT W) := fun W hb => ⟨HG.out.below (hB2.trans (hb.mono hB2.size)), HGT.out.go (hB2.trans (hb.mono hB2.size))⟩
 have HMA : Hid (∀ W, Below w2.heap.size w2 W → Calls Tryz.prog 19 #[.slice a2 m.length cap2, .string (cutN 500 sc), .int .i64 n2] W (SumPost n2 (meantE L sk) (pickAt L n2 (meantR L sk)) W)) := fun W hb => by
  have h := Merged_any sk n2 m a2 m.length cap2 W (HT2.out.go hb) hF (fun hr x hx => by rw [HM.out] at hr hx; exact ((HQ.out hr).good x hx).sk) (HG2.out W hb).1 (HG2.out W hb).2
  rw [HM.out, HSK.out] at h
  exact h
 have hst := fun W => slice_to a2 m.length cap2 K W (by omega)
 have hsf := fun W => slice_from a2 m.length cap2 K W hKm
 have HB2 := Lib.hid hB2
 have HF := Lib.hid hF
 clear hT2 hm HL HT hb1 hb2 hB2 hF
 refine (HMA.out w3 hb3).mono ?_
 rintro e w4 ⟨y1, s1, hy1, rfl, hA1, hb4⟩
 have HY1 := Lib.hid hy1
 obtain ⟨W5, hW5, hX5, hB5, hs5⟩ := boxes1 w4 #[.int .i64 y1.kind, .int .i64 y1.level, .slice s1.ea s1.el s1.ec, .int .i64 y1.hb, .string y1.hr, .int .i64 y1.cr, .int .i64 y1.cc, .slice s1.ca s1.cl s1.cc, .int .i64 y1.gf, .slice s1.ga s1.gl s1.gc] 39
 have hb25 : Below w2.heap.size w2 W5 := hb3.trans ((hb4.trans (hB5.mono hb4.size)).mono hb3.size)
 have HX5 := Lib.hid hX5
 have HA5 := Lib.hid (hA1.go hB5)
 obtain ⟨er, her⟩ : ∃ er, sumE (meantE L sk) n2 = er := ⟨_, rfl⟩
 rw [her]
 clear hb3 hb4 hy1 hA1 hX5 hB5 HMA
 by_cases he : er = 0
 case neg =>
  have t1 : (er != 0) = true := by rw [bne_iff_ne]; exact he
  have HB5 := Lib.hid hb25
  have HOr : Hid ((er ≠ 101) ∨ (n2 < 1 ∨ 3 < n2)) := by
   rw [Hid, ← her]
   unfold sumE
   rcases meantE_or L sk with h | h | h
   ·rw [h, if_pos (by rfl : ((0 : Int) == 0) = true)]
    split
    ·left; decide
    ·rename_i hn; right; simp only [Bool.or_eq_true, beq_iff_eq] at hn; omega
   ·rw [h, if_neg (by decide)]; left; decide
   ·rw [h, if_neg (by decide)]; left; decide
  clear he her hb25 hst hsf
  rcases HOr.out with h | h | h
  ·have t2 : (er != 101) = true := by rw [bne_iff_ne]; exact h
   clear h
   go_wp2_with fail
   go_ret
   exact ⟨rfl, HB2.out.trans (HB5.out.mono HB2.out.size)⟩
  ·by_cases h5 : er = 101
   ·subst h5
    go_wp2_with fail
    go_ret
    exact ⟨rfl, HB2.out.trans (HB5.out.mono HB2.out.size)⟩
   ·have t2 : (er != 101) = true := by rw [bne_iff_ne]; exact h5
    clear h h5
    go_wp2_with fail
    go_ret
    exact ⟨rfl, HB2.out.trans (HB5.out.mono HB2.out.size)⟩
  ·by_cases h5 : er = 101
   ·subst h5
    have t3 : ¬ n2 < 1 := by omega
    go_wp2_with fail
    go_ret
    exact ⟨rfl, HB2.out.trans (HB5.out.mono HB2.out.size)⟩
   ·have t2 : (er != 101) = true := by rw [bne_iff_ne]; exact h5
    clear h h5
    go_wp2_with fail
    go_ret
    exact ⟨rfl, HB2.out.trans (HB5.out.mono HB2.out.size)⟩
 subst he
 obtain ⟨hE0, k, rfl, hk⟩ := sumE_0 her
 obtain ⟨htr, hsr⟩ := meantE_0 hE0
 have hgd := fun x hx => ((HQ.out htr).good x hx).sk
 have hyk : y1 = skOf k (wkAll k (pick (fun x => (meansS sk x.l).1) k L)).1 (wkAll k (pick (fun x => (meansS sk x.l).1) k L)).2 := by rw [HY1.out, hE0, (sumSk_ok hk).2, pick_R htr hsr]
 have HYK := Lib.hid hyk
 have HM1 : Hid (∀ W, Below w2.heap.size w2 W → Calls Tryz.prog 19 #[.slice a2 K cap2, .string (cutN 500 sc), .int .i64 k] W (SkTold k (pick (fun x => (meansS sk x.l).1) k (L.take K)) W)) := fun W hb => by
  have hTt : Tab W.heap.size W a2 K cap2 (m.take K) := (HT2.out.go hb).take K hKm
  have hmt : (m.take K).map (·.1) = L.take K := by rw [List.map_take, HM.out]
  have h := Merged_any sk k (m.take K) a2 K cap2 W hTt (fun e he => HF.out e (List.mem_of_mem_take he)) (fun _ x hx => by rw [hmt] at hx; exact hgd x (List.mem_of_mem_take hx)) (HG2.out W hb).1 (HG2.out W hb).2
  rw [hmt, HSK.out, meantE_ok (tab_take htr K) hsr, pick_R (tab_take htr K) hsr] at h
  exact h.mono fun e w' h => SumPost.told hk h
 have HM2 : Hid (∀ W, Below w2.heap.size w2 W → Calls Tryz.prog 19 #[.slice (dropA a2 cap2 K 12) (m.length - K) (cap2 - K), .string (cutN 500 sc), .int .i64 k] W (SkTold k (pick (fun x => (meansS sk x.l).1) k (L.drop K)) W)) := fun W hb => by
  have hTt := (HT2.out.go hb).drop K hKm
  have hmt : (m.drop K).map (·.1) = L.drop K := by rw [List.map_drop, HM.out]
  have h := Merged_any sk k (m.drop K) _ _ _ W hTt (fun e he => HF.out e (List.mem_of_mem_drop he)) (fun _ x hx => by rw [hmt] at hx; exact hgd x (List.mem_of_mem_drop hx)) (HG2.out W hb).1 (HG2.out W hb).2
  rw [hmt, HSK.out, meantE_ok (tab_drop htr K) hsr, pick_R (tab_drop htr K) hsr] at h
  exact h.mono fun e w' h => SumPost.told hk h
 have HPl : Hid (wkMerge (wkAll k (pick (fun x => (meansS sk x.l).1) k (L.drop K))) (wkAll k (pick (fun x => (meansS sk x.l).1) k (L.take K))) = wkAll k (pick (fun x => (meansS sk x.l).1) k L)) := parts_plain hgd hk _ K
 have HO1 := Lib.hid (wkAll_ok hk (pick_ok (L := L.take K) (fun x hx => hgd x (List.mem_of_mem_take hx)) (fun x => (meansS sk x.l).1)))
 have HO2 := Lib.hid (wkAll_ok hk (pick_ok (L := L.drop K) (fun x hx => hgd x (List.mem_of_mem_drop hx)) (fun x => (meansS sk x.l).1)))
 have HO3 := Lib.hid (wkAll_ok hk (pick_ok hgd (fun x => (meansS sk x.l).1)))
 generalize wkAll k (pick (fun x => (meansS sk x.l).1) k L) = sA at HYK HPl HO3 hyk
 have HKR : Hid ((K : Int) ≤ (m.length : Int) ∧ 1 ≤ (k : Int) ∧ (k : Int) ≤ 3) := ⟨by omega, by omega, by omega⟩
 clear her hE0 htr hsr hgd hyk hk HQ HFi
 have i0 : (0 : Int) ≤ (K : Int) := by omega
 have i1 : (K : Int) ≤ (m.length : Int) := by omega
 have i2 : (K : Int) ≤ (cap2 : Int) := by omega
 have HB25 := Lib.hid hb25
 have HQW : Hid (∀ W, Below W5.heap.size W5 W → Below w2.heap.size w2 W) := fun W h => HB25.out.trans (h.mono HB25.out.size)
 clear hb25
 go_wp2_with fail
 go_cut [12, 13] (fun s12 s13 wx => ∃ (b : Nat) (y : Sk) (s : SS), s12 = .pointer (some ⟨b, 0, none⟩) ∧ s13 = .int .i64 0 ∧ Hid (y = skOf k (wkAll k (pick (fun x => (meansS sk x.l).1) k (L.take K))).1 (wkAll k (pick (fun x => (meansS sk x.l).1) k (L.take K))).2) ∧ Hid (wx.heap[b]? = some (.cells #[.int .i64 y.kind, .int .i64 y.level, .slice s.ea s.el s.ec, .int .i64 y.hb, .string y.hr, .int .i64 y.cr, .int .i64 y.cc, .slice s.ca s.cl s.cc, .int .i64 y.gf, .slice s.ga s.gl s.gc] 39 (0, 0))) ∧ Hid (s.At wx.heap.size wx y) ∧ Hid (Below W5.heap.size W5 wx))
 case first =>
  refine wp_region_any (by kernel_rfl) ?_
  change wpAny _ _ _ _ _ _ _ (World.drew _)
  refine wpAny_take (i := 0) (v := ?_) rfl (by kernel_rfl) (by kernel_rfl) (by kernel_rfl) (fun _ _ _ h => h) (Or.inl ⟨by rfl, ?_⟩) ?_
  rotate_left
  ·intro w; go_simp; with_reducible rfl
  refine wpAny_take (i := 1) (v := ?_) rfl (by kernel_rfl) (by kernel_rfl) (by kernel_rfl) (fun _ _ _ h => h) (Or.inl ⟨by rfl, ?_⟩) ?_
  rotate_left
  ·intro w; go_simp; with_reducible rfl
  refine wpAny_take (i := 2) (v := ?_) rfl (by kernel_rfl) (by kernel_rfl) (by kernel_rfl) (fun _ _ _ h => h) (Or.inl ⟨by rfl, ?_⟩) ?_
  rotate_left
  ·intro w; go_simp; with_reducible rfl
  refine wpAny_take (i := 3) (v := ?_) rfl (by kernel_rfl) (by kernel_rfl) (by kernel_rfl) (fun _ _ _ h => h) (Or.inl ⟨by rfl, ?_⟩) ?_
  rotate_left
  ·intro w; go_simp; with_reducible rfl
  refine wpAny_take (i := 5) (v := ?_) rfl (by kernel_rfl) (by kernel_rfl) (by kernel_rfl) (fun _ _ _ h => h) (Or.inl ⟨by rfl, ?_⟩) ?_
  rotate_left
  ·intro w; go_simp; with_reducible rfl
  refine wpAny_ready (rs := [4, 10]) (by kernel_rfl) (by simp) ?_
  refine AllReady.cons rfl (fun K_ hK_ => ?_) ?_
  ·go_simp
   refine (cut12_any sc _).mono ?_
   rintro e wc4 ⟨rfl, hb4⟩
   have hq4 : Below W5.heap.size W5 wc4 := ((Below.refl W5.heap.size W5).drew).trans (hb4.mono ((Below.refl W5.heap.size W5).drew).size)
   refine hK_ _ _ ?_
   clear hK_ K_
   refine wpAny_ready (rs := [6, 10]) (by kernel_rfl) (by simp) ?_
   refine AllReady.cons rfl (fun K_ hK_ => ?_) ?_
   ·go_simp
    refine (HM1.out _ (HQW.out _ (hq4))).mono ?_
    rintro e wc6 ⟨y, s, hy, rfl, hsA, hb6⟩
    have HYa := Lib.hid hy
    clear hy
    have hq6 : Below W5.heap.size W5 wc6 := (hq4).trans (hb6.mono (hq4).size)
    refine hK_ _ _ ?_
    clear hK_ K_
    refine wpAny_take (i := 7) (v := ?_) rfl (by kernel_rfl) (by kernel_rfl) (by kernel_rfl) (fun _ _ _ h => h) (Or.inl ⟨by rfl, ?_⟩) ?_
    rotate_left
    ·intro w; go_simp; with_reducible rfl
    refine wpAny_take (i := 8) (v := ?_) rfl (by kernel_rfl) (by kernel_rfl) (by kernel_rfl) (fun _ _ _ h => h) (Or.inl ⟨by rfl, ?_⟩) ?_
    rotate_left
    ·intro w; go_simp; with_reducible rfl
    refine wpAny_take (i := 9) (v := ?_) rfl (by kernel_rfl) (by kernel_rfl) (by kernel_rfl) (fun _ _ _ h => h) (Or.inl ⟨by rfl, ?_⟩) ?_
    rotate_left
    ·intro w; go_simp; with_reducible rfl
    refine wpAny_ready (rs := [10]) (by kernel_rfl) (by simp) ?_
    refine AllReady.cons rfl (fun K_ hK_ => ?_) ?_
    ·obtain ⟨Wb, hWb, hXb, hBb, hsb⟩ := boxes1 (wc6) #[.int .i64 0, .int .i64 0, .slice none 0 0, .int .i64 0, .string ⟨#[]⟩, .int .i64 0, .int .i64 0, .slice none 0 0, .int .i64 0, .slice none 0 0] 39
     have hqb : Below W5.heap.size W5 Wb := (hq6).trans (hBb.mono (hq6).size)
     replace hsA := hsA.go hBb
     go_simp
     refine hK_ _ _ ?_
     clear hK_ K_
     refine wpAny_ready (rs := [11]) (by kernel_rfl) (by simp) ?_
     refine AllReady.cons rfl (fun K_ hK_ => ?_) ?_
     ·obtain ⟨bB, hbB⟩ : ∃ bB, (wc6).heap.size = bB := ⟨_, rfl⟩
      rw [hbB] at hXb
      have hbl : W5.heap.size ≤ bB := by rw [← hbB]; exact (hq6).size
      have f0 : Wb.cell? ⟨bB, 0, none⟩ = some (.int .i64 0) := cCc hXb 0
      have f1 : Wb.cell? ⟨bB, 1, none⟩ = some (.int .i64 0) := cCc hXb 1
      have f2 : Wb.cell? ⟨bB, 2, none⟩ = some (.slice none 0 0) := cCc hXb 2
      have f3 : Wb.cell? ⟨bB, 3, none⟩ = some (.int .i64 0) := cCc hXb 3
      have f4 : Wb.cell? ⟨bB, 4, none⟩ = some (.string ⟨#[]⟩) := cCc hXb 4
      have f5 : Wb.cell? ⟨bB, 5, none⟩ = some (.int .i64 0) := cCc hXb 5
      have f6 : Wb.cell? ⟨bB, 6, none⟩ = some (.int .i64 0) := cCc hXb 6
      have f7 : Wb.cell? ⟨bB, 7, none⟩ = some (.slice none 0 0) := cCc hXb 7
      have f8 : Wb.cell? ⟨bB, 8, none⟩ = some (.int .i64 0) := cCc hXb 8
      have f9 : Wb.cell? ⟨bB, 9, none⟩ = some (.slice none 0 0) := cCc hXb 9
      have g'0 : Wb.frozen? ⟨bB, 0, none⟩ = false := cFz hXb 0
      have g'1 : Wb.frozen? ⟨bB, 1, none⟩ = false := cFz hXb 1
      have g'2 : Wb.frozen? ⟨bB, 2, none⟩ = false := cFz hXb 2
      have g'3 : Wb.frozen? ⟨bB, 3, none⟩ = false := cFz hXb 3
      have g'4 : Wb.frozen? ⟨bB, 4, none⟩ = false := cFz hXb 4
      have g'5 : Wb.frozen? ⟨bB, 5, none⟩ = false := cFz hXb 5
      have g'6 : Wb.frozen? ⟨bB, 6, none⟩ = false := cFz hXb 6
      have g'7 : Wb.frozen? ⟨bB, 7, none⟩ = false := cFz hXb 7
      have g'8 : Wb.frozen? ⟨bB, 8, none⟩ = false := cFz hXb 8
      have g'9 : Wb.frozen? ⟨bB, 9, none⟩ = false := cFz hXb 9
      obtain ⟨V, hV, hVX, hVO, hVB⟩ := store10 (.int .i64 y.kind) (.int .i64 y.level) (.slice s.ea s.el s.ec) (.int .i64 y.hb) (.string y.hr) (.int .i64 y.cr) (.int .i64 y.cc) (.slice s.ca s.cl s.cc) (.int .i64 y.gf) (.slice s.ga s.gl s.gc) hXb
      have HO : Hid (V.heap[bB]? = some (.cells #[.int .i64 y.kind, .int .i64 y.level, .slice s.ea s.el s.ec, .int .i64 y.hb, .string y.hr, .int .i64 y.cr, .int .i64 y.cc, .slice s.ca s.cl s.cc, .int .i64 y.gf, .slice s.ga s.gl s.gc] 39 (0, 0)) ∧ s.At V.heap.size V y ∧ Below W5.heap.size W5 V) := ⟨hVX, at_apart hsA hXb (fun i u => noU_zero u) hVO, hVB _ _ (hqb) hbl⟩
      clear hVX hVO hVB
      rw [hbB]
      go_simp
      refine hK_ _ _ ?_
      clear hK_ K_
      refine wpAny_take (i := 12) (v := ?_) rfl (by kernel_rfl) (by kernel_rfl) (by kernel_rfl) (fun _ _ _ h => h) (Or.inl ⟨by rfl, ?_⟩) ?_
      rotate_left
      ·intro w; go_simp; with_reducible rfl
      refine wpAny_done (by kernel_rfl) ?_ _
      go_wp2_with fail
      go_meet
      exact ⟨bB, y, s, rfl, rfl, HYa, HO.out.1, HO.out.2.1, HO.out.2.2⟩
     exact AllReady.nil
    exact AllReady.nil
   refine AllReady.cons rfl (fun K_ hK_ => ?_) ?_
   ·obtain ⟨Wb, hWb, hXb, hBb, hsb⟩ := boxes1 (wc4) #[.int .i64 0, .int .i64 0, .slice none 0 0, .int .i64 0, .string ⟨#[]⟩, .int .i64 0, .int .i64 0, .slice none 0 0, .int .i64 0, .slice none 0 0] 39
    have hqb : Below W5.heap.size W5 Wb := (hq4).trans (hBb.mono (hq4).size)
    go_simp
    refine hK_ _ _ ?_
    clear hK_ K_
    refine wpAny_ready (rs := [6]) (by kernel_rfl) (by simp) ?_
    refine AllReady.cons rfl (fun K_ hK_ => ?_) ?_
    ·go_simp
     refine (HM1.out _ (HQW.out _ (hqb))).mono ?_
     rintro e wc6 ⟨y, s, hy, rfl, hsA, hb6⟩
     have HYa := Lib.hid hy
     clear hy
     have hq6 : Below W5.heap.size W5 wc6 := (hqb).trans (hb6.mono (hqb).size)
     have hXb := known hb6 (Nat.le_refl _) hXb
     refine hK_ _ _ ?_
     clear hK_ K_
     refine wpAny_take (i := 7) (v := ?_) rfl (by kernel_rfl) (by kernel_rfl) (by kernel_rfl) (fun _ _ _ h => h) (Or.inl ⟨by rfl, ?_⟩) ?_
     rotate_left
     ·intro w; go_simp; with_reducible rfl
     refine wpAny_take (i := 8) (v := ?_) rfl (by kernel_rfl) (by kernel_rfl) (by kernel_rfl) (fun _ _ _ h => h) (Or.inl ⟨by rfl, ?_⟩) ?_
     rotate_left
     ·intro w; go_simp; with_reducible rfl
     refine wpAny_take (i := 9) (v := ?_) rfl (by kernel_rfl) (by kernel_rfl) (by kernel_rfl) (fun _ _ _ h => h) (Or.inl ⟨by rfl, ?_⟩) ?_
     rotate_left
     ·intro w; go_simp; with_reducible rfl
     refine wpAny_ready (rs := [11]) (by kernel_rfl) (by simp) ?_
     refine AllReady.cons rfl (fun K_ hK_ => ?_) ?_
     ·obtain ⟨bB, hbB⟩ : ∃ bB, (wc4).heap.size = bB := ⟨_, rfl⟩
      rw [hbB] at hXb
      have hbl : W5.heap.size ≤ bB := by rw [← hbB]; exact (hq4).size
      have f0 : wc6.cell? ⟨bB, 0, none⟩ = some (.int .i64 0) := cCc hXb 0
      have f1 : wc6.cell? ⟨bB, 1, none⟩ = some (.int .i64 0) := cCc hXb 1
      have f2 : wc6.cell? ⟨bB, 2, none⟩ = some (.slice none 0 0) := cCc hXb 2
      have f3 : wc6.cell? ⟨bB, 3, none⟩ = some (.int .i64 0) := cCc hXb 3
      have f4 : wc6.cell? ⟨bB, 4, none⟩ = some (.string ⟨#[]⟩) := cCc hXb 4
      have f5 : wc6.cell? ⟨bB, 5, none⟩ = some (.int .i64 0) := cCc hXb 5
      have f6 : wc6.cell? ⟨bB, 6, none⟩ = some (.int .i64 0) := cCc hXb 6
      have f7 : wc6.cell? ⟨bB, 7, none⟩ = some (.slice none 0 0) := cCc hXb 7
      have f8 : wc6.cell? ⟨bB, 8, none⟩ = some (.int .i64 0) := cCc hXb 8
      have f9 : wc6.cell? ⟨bB, 9, none⟩ = some (.slice none 0 0) := cCc hXb 9
      have g'0 : wc6.frozen? ⟨bB, 0, none⟩ = false := cFz hXb 0
      have g'1 : wc6.frozen? ⟨bB, 1, none⟩ = false := cFz hXb 1
      have g'2 : wc6.frozen? ⟨bB, 2, none⟩ = false := cFz hXb 2
      have g'3 : wc6.frozen? ⟨bB, 3, none⟩ = false := cFz hXb 3
      have g'4 : wc6.frozen? ⟨bB, 4, none⟩ = false := cFz hXb 4
      have g'5 : wc6.frozen? ⟨bB, 5, none⟩ = false := cFz hXb 5
      have g'6 : wc6.frozen? ⟨bB, 6, none⟩ = false := cFz hXb 6
      have g'7 : wc6.frozen? ⟨bB, 7, none⟩ = false := cFz hXb 7
      have g'8 : wc6.frozen? ⟨bB, 8, none⟩ = false := cFz hXb 8
      have g'9 : wc6.frozen? ⟨bB, 9, none⟩ = false := cFz hXb 9
      obtain ⟨V, hV, hVX, hVO, hVB⟩ := store10 (.int .i64 y.kind) (.int .i64 y.level) (.slice s.ea s.el s.ec) (.int .i64 y.hb) (.string y.hr) (.int .i64 y.cr) (.int .i64 y.cc) (.slice s.ca s.cl s.cc) (.int .i64 y.gf) (.slice s.ga s.gl s.gc) hXb
      have HO : Hid (V.heap[bB]? = some (.cells #[.int .i64 y.kind, .int .i64 y.level, .slice s.ea s.el s.ec, .int .i64 y.hb, .string y.hr, .int .i64 y.cr, .int .i64 y.cc, .slice s.ca s.cl s.cc, .int .i64 y.gf, .slice s.ga s.gl s.gc] 39 (0, 0)) ∧ s.At V.heap.size V y ∧ Below W5.heap.size W5 V) := ⟨hVX, at_apart hsA hXb (fun i u => noU_zero u) hVO, hVB _ _ (hq6) hbl⟩
      clear hVX hVO hVB
      rw [hbB]
      go_simp
      refine hK_ _ _ ?_
      clear hK_ K_
      refine wpAny_take (i := 12) (v := ?_) rfl (by kernel_rfl) (by kernel_rfl) (by kernel_rfl) (fun _ _ _ h => h) (Or.inl ⟨by rfl, ?_⟩) ?_
      rotate_left
      ·intro w; go_simp; with_reducible rfl
      refine wpAny_done (by kernel_rfl) ?_ _
      go_wp2_with fail
      go_meet
      exact ⟨bB, y, s, rfl, rfl, HYa, HO.out.1, HO.out.2.1, HO.out.2.2⟩
     exact AllReady.nil
    exact AllReady.nil
   exact AllReady.nil
  refine AllReady.cons rfl (fun K_ hK_ => ?_) ?_
  ·obtain ⟨Wb, hWb, hXb, hBb, hsb⟩ := boxes1 (W5.drew) #[.int .i64 0, .int .i64 0, .slice none 0 0, .int .i64 0, .string ⟨#[]⟩, .int .i64 0, .int .i64 0, .slice none 0 0, .int .i64 0, .slice none 0 0] 39
   have hqb : Below W5.heap.size W5 Wb := ((Below.refl W5.heap.size W5).drew).trans (hBb.mono ((Below.refl W5.heap.size W5).drew).size)
   go_simp
   refine hK_ _ _ ?_
   clear hK_ K_
   refine wpAny_ready (rs := [4]) (by kernel_rfl) (by simp) ?_
   refine AllReady.cons rfl (fun K_ hK_ => ?_) ?_
   ·go_simp
    refine (cut12_any sc _).mono ?_
    rintro e wc4 ⟨rfl, hb4⟩
    have hq4 : Below W5.heap.size W5 wc4 := (hqb).trans (hb4.mono (hqb).size)
    have hXb := known hb4 (Nat.le_refl _) hXb
    refine hK_ _ _ ?_
    clear hK_ K_
    refine wpAny_ready (rs := [6]) (by kernel_rfl) (by simp) ?_
    refine AllReady.cons rfl (fun K_ hK_ => ?_) ?_
    ·go_simp
     refine (HM1.out _ (HQW.out _ (hq4))).mono ?_
     rintro e wc6 ⟨y, s, hy, rfl, hsA, hb6⟩
     have HYa := Lib.hid hy
     clear hy
     have hq6 : Below W5.heap.size W5 wc6 := (hq4).trans (hb6.mono (hq4).size)
     have hXb := known hb6 (Nat.le_refl _) hXb
     refine hK_ _ _ ?_
     clear hK_ K_
     refine wpAny_take (i := 7) (v := ?_) rfl (by kernel_rfl) (by kernel_rfl) (by kernel_rfl) (fun _ _ _ h => h) (Or.inl ⟨by rfl, ?_⟩) ?_
     rotate_left
     ·intro w; go_simp; with_reducible rfl
     refine wpAny_take (i := 8) (v := ?_) rfl (by kernel_rfl) (by kernel_rfl) (by kernel_rfl) (fun _ _ _ h => h) (Or.inl ⟨by rfl, ?_⟩) ?_
     rotate_left
     ·intro w; go_simp; with_reducible rfl
     refine wpAny_take (i := 9) (v := ?_) rfl (by kernel_rfl) (by kernel_rfl) (by kernel_rfl) (fun _ _ _ h => h) (Or.inl ⟨by rfl, ?_⟩) ?_
     rotate_left
     ·intro w; go_simp; with_reducible rfl
     refine wpAny_ready (rs := [11]) (by kernel_rfl) (by simp) ?_
     refine AllReady.cons rfl (fun K_ hK_ => ?_) ?_
     ·obtain ⟨bB, hbB⟩ : ∃ bB, (W5.drew).heap.size = bB := ⟨_, rfl⟩
      rw [hbB] at hXb
      have hbl : W5.heap.size ≤ bB := by rw [← hbB]; exact ((Below.refl W5.heap.size W5).drew).size
      have f0 : wc6.cell? ⟨bB, 0, none⟩ = some (.int .i64 0) := cCc hXb 0
      have f1 : wc6.cell? ⟨bB, 1, none⟩ = some (.int .i64 0) := cCc hXb 1
      have f2 : wc6.cell? ⟨bB, 2, none⟩ = some (.slice none 0 0) := cCc hXb 2
      have f3 : wc6.cell? ⟨bB, 3, none⟩ = some (.int .i64 0) := cCc hXb 3
      have f4 : wc6.cell? ⟨bB, 4, none⟩ = some (.string ⟨#[]⟩) := cCc hXb 4
      have f5 : wc6.cell? ⟨bB, 5, none⟩ = some (.int .i64 0) := cCc hXb 5
      have f6 : wc6.cell? ⟨bB, 6, none⟩ = some (.int .i64 0) := cCc hXb 6
      have f7 : wc6.cell? ⟨bB, 7, none⟩ = some (.slice none 0 0) := cCc hXb 7
      have f8 : wc6.cell? ⟨bB, 8, none⟩ = some (.int .i64 0) := cCc hXb 8
      have f9 : wc6.cell? ⟨bB, 9, none⟩ = some (.slice none 0 0) := cCc hXb 9
      have g'0 : wc6.frozen? ⟨bB, 0, none⟩ = false := cFz hXb 0
      have g'1 : wc6.frozen? ⟨bB, 1, none⟩ = false := cFz hXb 1
      have g'2 : wc6.frozen? ⟨bB, 2, none⟩ = false := cFz hXb 2
      have g'3 : wc6.frozen? ⟨bB, 3, none⟩ = false := cFz hXb 3
      have g'4 : wc6.frozen? ⟨bB, 4, none⟩ = false := cFz hXb 4
      have g'5 : wc6.frozen? ⟨bB, 5, none⟩ = false := cFz hXb 5
      have g'6 : wc6.frozen? ⟨bB, 6, none⟩ = false := cFz hXb 6
      have g'7 : wc6.frozen? ⟨bB, 7, none⟩ = false := cFz hXb 7
      have g'8 : wc6.frozen? ⟨bB, 8, none⟩ = false := cFz hXb 8
      have g'9 : wc6.frozen? ⟨bB, 9, none⟩ = false := cFz hXb 9
      obtain ⟨V, hV, hVX, hVO, hVB⟩ := store10 (.int .i64 y.kind) (.int .i64 y.level) (.slice s.ea s.el s.ec) (.int .i64 y.hb) (.string y.hr) (.int .i64 y.cr) (.int .i64 y.cc) (.slice s.ca s.cl s.cc) (.int .i64 y.gf) (.slice s.ga s.gl s.gc) hXb
      have HO : Hid (V.heap[bB]? = some (.cells #[.int .i64 y.kind, .int .i64 y.level, .slice s.ea s.el s.ec, .int .i64 y.hb, .string y.hr, .int .i64 y.cr, .int .i64 y.cc, .slice s.ca s.cl s.cc, .int .i64 y.gf, .slice s.ga s.gl s.gc] 39 (0, 0)) ∧ s.At V.heap.size V y ∧ Below W5.heap.size W5 V) := ⟨hVX, at_apart hsA hXb (fun i u => noU_zero u) hVO, hVB _ _ (hq6) hbl⟩
      clear hVX hVO hVB
      first | rw [hbB] | rw [show W5.heap.size = bB from hbB] | rw [show w4.heap.size + 1 = bB by rw [← hbB]; exact hs5.symm]
      go_simp
      refine hK_ _ _ ?_
      clear hK_ K_
      refine wpAny_take (i := 12) (v := ?_) rfl (by kernel_rfl) (by kernel_rfl) (by kernel_rfl) (fun _ _ _ h => h) (Or.inl ⟨by rfl, ?_⟩) ?_
      rotate_left
      ·intro w; go_simp; with_reducible rfl
      refine wpAny_done (by kernel_rfl) ?_ _
      go_wp2_with fail
      go_meet
      exact ⟨bB, y, s, rfl, rfl, HYa, HO.out.1, HO.out.2.1, HO.out.2.2⟩
     exact AllReady.nil
    exact AllReady.nil
   exact AllReady.nil
  exact AllReady.nil
 case rest =>
  obtain ⟨w6, hw6⟩ : ∃ w6, w6 = wc := ⟨_, rfl⟩
  subst hw6
  obtain ⟨b2, y2, s2, rfl, rfl, HY2, HX6, HA6, HB6⟩ := hcut
  have HXall := Lib.hid (known HB6.out (Nat.le_refl _) HX5.out)
  have HAall := Lib.hid (HA5.out.go HB6.out)
  replace HQW : Hid (∀ W, Below w6.heap.size w6 W → Below w2.heap.size w2 W) := fun W h => HQW.out W (HB6.out.trans (h.mono HB6.out.size))
  clear HX5 HA5 HB6
  go_wp2_with fail
  go_cut [14, 15] (fun s12 s13 wx => ∃ (b : Nat) (y : Sk) (s : SS), s12 = .pointer (some ⟨b, 0, none⟩) ∧ s13 = .int .i64 0 ∧ Hid (y = skOf k (wkAll k (pick (fun x => (meansS sk x.l).1) k (L.drop K))).1 (wkAll k (pick (fun x => (meansS sk x.l).1) k (L.drop K))).2) ∧ Hid (wx.heap[b]? = some (.cells #[.int .i64 y.kind, .int .i64 y.level, .slice s.ea s.el s.ec, .int .i64 y.hb, .string y.hr, .int .i64 y.cr, .int .i64 y.cc, .slice s.ca s.cl s.cc, .int .i64 y.gf, .slice s.ga s.gl s.gc] 39 (0, 0))) ∧ Hid (s.At wx.heap.size wx y) ∧ Hid (Below w6.heap.size w6 wx))
  case first =>
   refine wp_region_any (by kernel_rfl) ?_
   change wpAny _ _ _ _ _ _ _ (World.drew _)
   refine wpAny_take (i := 0) (v := ?_) rfl (by kernel_rfl) (by kernel_rfl) (by kernel_rfl) (fun _ _ _ h => h) (Or.inl ⟨by rfl, ?_⟩) ?_
   rotate_left
   ·intro w; go_simp; with_reducible rfl
   refine wpAny_take (i := 1) (v := ?_) rfl (by kernel_rfl) (by kernel_rfl) (by kernel_rfl) (fun _ _ _ h => h) (Or.inl ⟨by rfl, ?_⟩) ?_
   rotate_left
   ·intro w; go_simp; with_reducible rfl
   refine wpAny_take (i := 2) (v := ?_) rfl (by kernel_rfl) (by kernel_rfl) (by kernel_rfl) (fun _ _ _ h => h) (Or.inl ⟨by rfl, ?_⟩) ?_
   rotate_left
   ·intro w; go_simp; with_reducible rfl
   refine wpAny_take (i := 3) (v := ?_) rfl (by kernel_rfl) (by kernel_rfl) (by kernel_rfl) (fun _ _ _ h => h) (Or.inl ⟨by rfl, ?_⟩) ?_
   rotate_left
   ·intro w; go_simp; with_reducible rfl
   refine wpAny_take (i := 5) (v := ?_) rfl (by kernel_rfl) (by kernel_rfl) (by kernel_rfl) (fun _ _ _ h => h) (Or.inl ⟨by rfl, ?_⟩) ?_
   rotate_left
   ·intro w; go_simp; with_reducible rfl
   refine wpAny_ready (rs := [4, 10]) (by kernel_rfl) (by simp) ?_
   refine AllReady.cons rfl (fun K_ hK_ => ?_) ?_
   ·go_simp
    refine (cut12_any sc _).mono ?_
    rintro e wc4z ⟨rfl, hb4z⟩
    have hq4z : Below w6.heap.size w6 wc4z := ((Below.refl w6.heap.size w6).drew).trans (hb4z.mono ((Below.refl w6.heap.size w6).drew).size)
    refine hK_ _ _ ?_
    clear hK_ K_
    refine wpAny_ready (rs := [6, 10]) (by kernel_rfl) (by simp) ?_
    refine AllReady.cons rfl (fun K_ hK_ => ?_) ?_
    ·go_simp
     refine (HM2.out _ (HQW.out _ (hq4z))).mono ?_
     rintro e wc6z ⟨y, s, hy, rfl, hsA, hb6z⟩
     have HYa := Lib.hid hy
     clear hy
     have hq6z : Below w6.heap.size w6 wc6z := (hq4z).trans (hb6z.mono (hq4z).size)
     refine hK_ _ _ ?_
     clear hK_ K_
     refine wpAny_take (i := 7) (v := ?_) rfl (by kernel_rfl) (by kernel_rfl) (by kernel_rfl) (fun _ _ _ h => h) (Or.inl ⟨by rfl, ?_⟩) ?_
     rotate_left
     ·intro w; go_simp; with_reducible rfl
     refine wpAny_take (i := 8) (v := ?_) rfl (by kernel_rfl) (by kernel_rfl) (by kernel_rfl) (fun _ _ _ h => h) (Or.inl ⟨by rfl, ?_⟩) ?_
     rotate_left
     ·intro w; go_simp; with_reducible rfl
     refine wpAny_take (i := 9) (v := ?_) rfl (by kernel_rfl) (by kernel_rfl) (by kernel_rfl) (fun _ _ _ h => h) (Or.inl ⟨by rfl, ?_⟩) ?_
     rotate_left
     ·intro w; go_simp; with_reducible rfl
     refine wpAny_ready (rs := [10]) (by kernel_rfl) (by simp) ?_
     refine AllReady.cons rfl (fun K_ hK_ => ?_) ?_
     ·obtain ⟨Wbz, hWbz, hXbz, hBbz, hsbz⟩ := boxes1 (wc6z) #[.int .i64 0, .int .i64 0, .slice none 0 0, .int .i64 0, .string ⟨#[]⟩, .int .i64 0, .int .i64 0, .slice none 0 0, .int .i64 0, .slice none 0 0] 39
      have hqbz : Below w6.heap.size w6 Wbz := (hq6z).trans (hBbz.mono (hq6z).size)
      replace hsA := hsA.go hBbz
      go_simp
      refine hK_ _ _ ?_
      clear hK_ K_
      refine wpAny_ready (rs := [11]) (by kernel_rfl) (by simp) ?_
      refine AllReady.cons rfl (fun K_ hK_ => ?_) ?_
      ·obtain ⟨bB, hbB⟩ : ∃ bB, (wc6z).heap.size = bB := ⟨_, rfl⟩
       rw [hbB] at hXbz
       have hbl : w6.heap.size ≤ bB := by rw [← hbB]; exact (hq6z).size
       have f0 : Wbz.cell? ⟨bB, 0, none⟩ = some (.int .i64 0) := cCc hXbz 0
       have f1 : Wbz.cell? ⟨bB, 1, none⟩ = some (.int .i64 0) := cCc hXbz 1
       have f2 : Wbz.cell? ⟨bB, 2, none⟩ = some (.slice none 0 0) := cCc hXbz 2
       have f3 : Wbz.cell? ⟨bB, 3, none⟩ = some (.int .i64 0) := cCc hXbz 3
       have f4 : Wbz.cell? ⟨bB, 4, none⟩ = some (.string ⟨#[]⟩) := cCc hXbz 4
       have f5 : Wbz.cell? ⟨bB, 5, none⟩ = some (.int .i64 0) := cCc hXbz 5
       have f6 : Wbz.cell? ⟨bB, 6, none⟩ = some (.int .i64 0) := cCc hXbz 6
       have f7 : Wbz.cell? ⟨bB, 7, none⟩ = some (.slice none 0 0) := cCc hXbz 7
       have f8 : Wbz.cell? ⟨bB, 8, none⟩ = some (.int .i64 0) := cCc hXbz 8
       have f9 : Wbz.cell? ⟨bB, 9, none⟩ = some (.slice none 0 0) := cCc hXbz 9
       have g'0 : Wbz.frozen? ⟨bB, 0, none⟩ = false := cFz hXbz 0
       have g'1 : Wbz.frozen? ⟨bB, 1, none⟩ = false := cFz hXbz 1
       have g'2 : Wbz.frozen? ⟨bB, 2, none⟩ = false := cFz hXbz 2
       have g'3 : Wbz.frozen? ⟨bB, 3, none⟩ = false := cFz hXbz 3
       have g'4 : Wbz.frozen? ⟨bB, 4, none⟩ = false := cFz hXbz 4
       have g'5 : Wbz.frozen? ⟨bB, 5, none⟩ = false := cFz hXbz 5
       have g'6 : Wbz.frozen? ⟨bB, 6, none⟩ = false := cFz hXbz 6
       have g'7 : Wbz.frozen? ⟨bB, 7, none⟩ = false := cFz hXbz 7
       have g'8 : Wbz.frozen? ⟨bB, 8, none⟩ = false := cFz hXbz 8
       have g'9 : Wbz.frozen? ⟨bB, 9, none⟩ = false := cFz hXbz 9
       obtain ⟨V, hV, hVX, hVO, hVB⟩ := store10 (.int .i64 y.kind) (.int .i64 y.level) (.slice s.ea s.el s.ec) (.int .i64 y.hb) (.string y.hr) (.int .i64 y.cr) (.int .i64 y.cc) (.slice s.ca s.cl s.cc) (.int .i64 y.gf) (.slice s.ga s.gl s.gc) hXbz
       have HO : Hid (V.heap[bB]? = some (.cells #[.int .i64 y.kind, .int .i64 y.level, .slice s.ea s.el s.ec, .int .i64 y.hb, .string y.hr, .int .i64 y.cr, .int .i64 y.cc, .slice s.ca s.cl s.cc, .int .i64 y.gf, .slice s.ga s.gl s.gc] 39 (0, 0)) ∧ s.At V.heap.size V y ∧ Below w6.heap.size w6 V) := ⟨hVX, at_apart hsA hXbz (fun i u => noU_zero u) hVO, hVB _ _ (hqbz) hbl⟩
       clear hVX hVO hVB
       rw [hbB]
       go_simp
       refine hK_ _ _ ?_
       clear hK_ K_
       refine wpAny_take (i := 12) (v := ?_) rfl (by kernel_rfl) (by kernel_rfl) (by kernel_rfl) (fun _ _ _ h => h) (Or.inl ⟨by rfl, ?_⟩) ?_
       rotate_left
       ·intro w; go_simp; with_reducible rfl
       refine wpAny_done (by kernel_rfl) ?_ _
       go_wp2_with fail
       go_meet
       exact ⟨bB, y, s, rfl, rfl, HYa, HO.out.1, HO.out.2.1, HO.out.2.2⟩
      exact AllReady.nil
     exact AllReady.nil
    refine AllReady.cons rfl (fun K_ hK_ => ?_) ?_
    ·obtain ⟨Wbz, hWbz, hXbz, hBbz, hsbz⟩ := boxes1 (wc4z) #[.int .i64 0, .int .i64 0, .slice none 0 0, .int .i64 0, .string ⟨#[]⟩, .int .i64 0, .int .i64 0, .slice none 0 0, .int .i64 0, .slice none 0 0] 39
     have hqbz : Below w6.heap.size w6 Wbz := (hq4z).trans (hBbz.mono (hq4z).size)
     go_simp
     refine hK_ _ _ ?_
     clear hK_ K_
     refine wpAny_ready (rs := [6]) (by kernel_rfl) (by simp) ?_
     refine AllReady.cons rfl (fun K_ hK_ => ?_) ?_
     ·go_simp
      refine (HM2.out _ (HQW.out _ (hqbz))).mono ?_
      rintro e wc6z ⟨y, s, hy, rfl, hsA, hb6z⟩
      have HYa := Lib.hid hy
      clear hy
      have hq6z : Below w6.heap.size w6 wc6z := (hqbz).trans (hb6z.mono (hqbz).size)
      have hXbz := known hb6z (Nat.le_refl _) hXbz
      refine hK_ _ _ ?_
      clear hK_ K_
      refine wpAny_take (i := 7) (v := ?_) rfl (by kernel_rfl) (by kernel_rfl) (by kernel_rfl) (fun _ _ _ h => h) (Or.inl ⟨by rfl, ?_⟩) ?_
      rotate_left
      ·intro w; go_simp; with_reducible rfl
      refine wpAny_take (i := 8) (v := ?_) rfl (by kernel_rfl) (by kernel_rfl) (by kernel_rfl) (fun _ _ _ h => h) (Or.inl ⟨by rfl, ?_⟩) ?_
      rotate_left
      ·intro w; go_simp; with_reducible rfl
      refine wpAny_take (i := 9) (v := ?_) rfl (by kernel_rfl) (by kernel_rfl) (by kernel_rfl) (fun _ _ _ h => h) (Or.inl ⟨by rfl, ?_⟩) ?_
      rotate_left
      ·intro w; go_simp; with_reducible rfl
      refine wpAny_ready (rs := [11]) (by kernel_rfl) (by simp) ?_
      refine AllReady.cons rfl (fun K_ hK_ => ?_) ?_
      ·obtain ⟨bB, hbB⟩ : ∃ bB, (wc4z).heap.size = bB := ⟨_, rfl⟩
       rw [hbB] at hXbz
       have hbl : w6.heap.size ≤ bB := by rw [← hbB]; exact (hq4z).size
       have f0 : wc6z.cell? ⟨bB, 0, none⟩ = some (.int .i64 0) := cCc hXbz 0
       have f1 : wc6z.cell? ⟨bB, 1, none⟩ = some (.int .i64 0) := cCc hXbz 1
       have f2 : wc6z.cell? ⟨bB, 2, none⟩ = some (.slice none 0 0) := cCc hXbz 2
       have f3 : wc6z.cell? ⟨bB, 3, none⟩ = some (.int .i64 0) := cCc hXbz 3
       have f4 : wc6z.cell? ⟨bB, 4, none⟩ = some (.string ⟨#[]⟩) := cCc hXbz 4
       have f5 : wc6z.cell? ⟨bB, 5, none⟩ = some (.int .i64 0) := cCc hXbz 5
       have f6 : wc6z.cell? ⟨bB, 6, none⟩ = some (.int .i64 0) := cCc hXbz 6
       have f7 : wc6z.cell? ⟨bB, 7, none⟩ = some (.slice none 0 0) := cCc hXbz 7
       have f8 : wc6z.cell? ⟨bB, 8, none⟩ = some (.int .i64 0) := cCc hXbz 8
       have f9 : wc6z.cell? ⟨bB, 9, none⟩ = some (.slice none 0 0) := cCc hXbz 9
       have g'0 : wc6z.frozen? ⟨bB, 0, none⟩ = false := cFz hXbz 0
       have g'1 : wc6z.frozen? ⟨bB, 1, none⟩ = false := cFz hXbz 1
       have g'2 : wc6z.frozen? ⟨bB, 2, none⟩ = false := cFz hXbz 2
       have g'3 : wc6z.frozen? ⟨bB, 3, none⟩ = false := cFz hXbz 3
       have g'4 : wc6z.frozen? ⟨bB, 4, none⟩ = false := cFz hXbz 4
       have g'5 : wc6z.frozen? ⟨bB, 5, none⟩ = false := cFz hXbz 5
       have g'6 : wc6z.frozen? ⟨bB, 6, none⟩ = false := cFz hXbz 6
       have g'7 : wc6z.frozen? ⟨bB, 7, none⟩ = false := cFz hXbz 7
       have g'8 : wc6z.frozen? ⟨bB, 8, none⟩ = false := cFz hXbz 8
       have g'9 : wc6z.frozen? ⟨bB, 9, none⟩ = false := cFz hXbz 9
       obtain ⟨V, hV, hVX, hVO, hVB⟩ := store10 (.int .i64 y.kind) (.int .i64 y.level) (.slice s.ea s.el s.ec) (.int .i64 y.hb) (.string y.hr) (.int .i64 y.cr) (.int .i64 y.cc) (.slice s.ca s.cl s.cc) (.int .i64 y.gf) (.slice s.ga s.gl s.gc) hXbz
       have HO : Hid (V.heap[bB]? = some (.cells #[.int .i64 y.kind, .int .i64 y.level, .slice s.ea s.el s.ec, .int .i64 y.hb, .string y.hr, .int .i64 y.cr, .int .i64 y.cc, .slice s.ca s.cl s.cc, .int .i64 y.gf, .slice s.ga s.gl s.gc] 39 (0, 0)) ∧ s.At V.heap.size V y ∧ Below w6.heap.size w6 V) := ⟨hVX, at_apart hsA hXbz (fun i u => noU_zero u) hVO, hVB _ _ (hq6z) hbl⟩
       clear hVX hVO hVB
       rw [hbB]
       go_simp
       refine hK_ _ _ ?_
       clear hK_ K_
       refine wpAny_take (i := 12) (v := ?_) rfl (by kernel_rfl) (by kernel_rfl) (by kernel_rfl) (fun _ _ _ h => h) (Or.inl ⟨by rfl, ?_⟩) ?_
       rotate_left
       ·intro w; go_simp; with_reducible rfl
       refine wpAny_done (by kernel_rfl) ?_ _
       go_wp2_with fail
       go_meet
       exact ⟨bB, y, s, rfl, rfl, HYa, HO.out.1, HO.out.2.1, HO.out.2.2⟩
      exact AllReady.nil
     exact AllReady.nil
    exact AllReady.nil
   refine AllReady.cons rfl (fun K_ hK_ => ?_) ?_
   ·obtain ⟨Wbz, hWbz, hXbz, hBbz, hsbz⟩ := boxes1 (w6.drew) #[.int .i64 0, .int .i64 0, .slice none 0 0, .int .i64 0, .string ⟨#[]⟩, .int .i64 0, .int .i64 0, .slice none 0 0, .int .i64 0, .slice none 0 0] 39
    have hqbz : Below w6.heap.size w6 Wbz := ((Below.refl w6.heap.size w6).drew).trans (hBbz.mono ((Below.refl w6.heap.size w6).drew).size)
    go_simp
    refine hK_ _ _ ?_
    clear hK_ K_
    refine wpAny_ready (rs := [4]) (by kernel_rfl) (by simp) ?_
    refine AllReady.cons rfl (fun K_ hK_ => ?_) ?_
    ·go_simp
     refine (cut12_any sc _).mono ?_
     rintro e wc4z ⟨rfl, hb4z⟩
     have hq4z : Below w6.heap.size w6 wc4z := (hqbz).trans (hb4z.mono (hqbz).size)
     have hXbz := known hb4z (Nat.le_refl _) hXbz
     refine hK_ _ _ ?_
     clear hK_ K_
     refine wpAny_ready (rs := [6]) (by kernel_rfl) (by simp) ?_
     refine AllReady.cons rfl (fun K_ hK_ => ?_) ?_
     ·go_simp
      refine (HM2.out _ (HQW.out _ (hq4z))).mono ?_
      rintro e wc6z ⟨y, s, hy, rfl, hsA, hb6z⟩
      have HYa := Lib.hid hy
      clear hy
      have hq6z : Below w6.heap.size w6 wc6z := (hq4z).trans (hb6z.mono (hq4z).size)
      have hXbz := known hb6z (Nat.le_refl _) hXbz
      refine hK_ _ _ ?_
      clear hK_ K_
      refine wpAny_take (i := 7) (v := ?_) rfl (by kernel_rfl) (by kernel_rfl) (by kernel_rfl) (fun _ _ _ h => h) (Or.inl ⟨by rfl, ?_⟩) ?_
      rotate_left
      ·intro w; go_simp; with_reducible rfl
      refine wpAny_take (i := 8) (v := ?_) rfl (by kernel_rfl) (by kernel_rfl) (by kernel_rfl) (fun _ _ _ h => h) (Or.inl ⟨by rfl, ?_⟩) ?_
      rotate_left
      ·intro w; go_simp; with_reducible rfl
      refine wpAny_take (i := 9) (v := ?_) rfl (by kernel_rfl) (by kernel_rfl) (by kernel_rfl) (fun _ _ _ h => h) (Or.inl ⟨by rfl, ?_⟩) ?_
      rotate_left
      ·intro w; go_simp; with_reducible rfl
      refine wpAny_ready (rs := [11]) (by kernel_rfl) (by simp) ?_
      refine AllReady.cons rfl (fun K_ hK_ => ?_) ?_
      ·obtain ⟨bB, hbB⟩ : ∃ bB, (w6.drew).heap.size = bB := ⟨_, rfl⟩
       rw [hbB] at hXbz
       have hbl : w6.heap.size ≤ bB := by rw [← hbB]; exact ((Below.refl w6.heap.size w6).drew).size
       have f0 : wc6z.cell? ⟨bB, 0, none⟩ = some (.int .i64 0) := cCc hXbz 0
       have f1 : wc6z.cell? ⟨bB, 1, none⟩ = some (.int .i64 0) := cCc hXbz 1
       have f2 : wc6z.cell? ⟨bB, 2, none⟩ = some (.slice none 0 0) := cCc hXbz 2
       have f3 : wc6z.cell? ⟨bB, 3, none⟩ = some (.int .i64 0) := cCc hXbz 3
       have f4 : wc6z.cell? ⟨bB, 4, none⟩ = some (.string ⟨#[]⟩) := cCc hXbz 4
       have f5 : wc6z.cell? ⟨bB, 5, none⟩ = some (.int .i64 0) := cCc hXbz 5
       have f6 : wc6z.cell? ⟨bB, 6, none⟩ = some (.int .i64 0) := cCc hXbz 6
       have f7 : wc6z.cell? ⟨bB, 7, none⟩ = some (.slice none 0 0) := cCc hXbz 7
       have f8 : wc6z.cell? ⟨bB, 8, none⟩ = some (.int .i64 0) := cCc hXbz 8
       have f9 : wc6z.cell? ⟨bB, 9, none⟩ = some (.slice none 0 0) := cCc hXbz 9
       have g'0 : wc6z.frozen? ⟨bB, 0, none⟩ = false := cFz hXbz 0
       have g'1 : wc6z.frozen? ⟨bB, 1, none⟩ = false := cFz hXbz 1
       have g'2 : wc6z.frozen? ⟨bB, 2, none⟩ = false := cFz hXbz 2
       have g'3 : wc6z.frozen? ⟨bB, 3, none⟩ = false := cFz hXbz 3
       have g'4 : wc6z.frozen? ⟨bB, 4, none⟩ = false := cFz hXbz 4
       have g'5 : wc6z.frozen? ⟨bB, 5, none⟩ = false := cFz hXbz 5
       have g'6 : wc6z.frozen? ⟨bB, 6, none⟩ = false := cFz hXbz 6
       have g'7 : wc6z.frozen? ⟨bB, 7, none⟩ = false := cFz hXbz 7
       have g'8 : wc6z.frozen? ⟨bB, 8, none⟩ = false := cFz hXbz 8
       have g'9 : wc6z.frozen? ⟨bB, 9, none⟩ = false := cFz hXbz 9
       obtain ⟨V, hV, hVX, hVO, hVB⟩ := store10 (.int .i64 y.kind) (.int .i64 y.level) (.slice s.ea s.el s.ec) (.int .i64 y.hb) (.string y.hr) (.int .i64 y.cr) (.int .i64 y.cc) (.slice s.ca s.cl s.cc) (.int .i64 y.gf) (.slice s.ga s.gl s.gc) hXbz
       have HO : Hid (V.heap[bB]? = some (.cells #[.int .i64 y.kind, .int .i64 y.level, .slice s.ea s.el s.ec, .int .i64 y.hb, .string y.hr, .int .i64 y.cr, .int .i64 y.cc, .slice s.ca s.cl s.cc, .int .i64 y.gf, .slice s.ga s.gl s.gc] 39 (0, 0)) ∧ s.At V.heap.size V y ∧ Below w6.heap.size w6 V) := ⟨hVX, at_apart hsA hXbz (fun i u => noU_zero u) hVO, hVB _ _ (hq6z) hbl⟩
       clear hVX hVO hVB
       first | rw [hbB] | rw [show w6.heap.size = bB from hbB]
       go_simp
       refine hK_ _ _ ?_
       clear hK_ K_
       refine wpAny_take (i := 12) (v := ?_) rfl (by kernel_rfl) (by kernel_rfl) (by kernel_rfl) (fun _ _ _ h => h) (Or.inl ⟨by rfl, ?_⟩) ?_
       rotate_left
       ·intro w; go_simp; with_reducible rfl
       refine wpAny_done (by kernel_rfl) ?_ _
       go_wp2_with fail
       go_meet
       exact ⟨bB, y, s, rfl, rfl, HYa, HO.out.1, HO.out.2.1, HO.out.2.2⟩
      exact AllReady.nil
     exact AllReady.nil
    exact AllReady.nil
   exact AllReady.nil
  case rest =>
   obtain ⟨w7, hw7⟩ : ∃ w7, w7 = wc := ⟨_, rfl⟩
   subst hw7
   obtain ⟨b3, y3, s3, rfl, rfl, HY3, HX7, HA7, HB7⟩ := hcut
   have hX1 := known HB7.out (Nat.le_refl _) HX6.out
   have HA1 := Lib.hid (HAall.out.go HB7.out)
   have hX0 := Lib.hid (known HB7.out (Nat.le_refl _) HXall.out)
   have hw27 := HQW.out w7 HB7.out
   have hX2 := HX7.out
   have HMg : Hid (Calls Tryz.prog 27 #[.agg #[.int .i64 y3.kind, .int .i64 y3.level, .slice s3.ea s3.el s3.ec, .int .i64 y3.hb, .string y3.hr, .int .i64 y3.cr, .int .i64 y3.cc, .slice s3.ca s3.cl s3.cc, .int .i64 y3.gf, .slice s3.ga s3.gl s3.gc], .agg #[.int .i64 y2.kind, .int .i64 y2.level, .slice s2.ea s2.el s2.ec, .int .i64 y2.hb, .string y2.hr, .int .i64 y2.cr, .int .i64 y2.cc, .slice s2.ca s2.cl s2.cc, .int .i64 y2.gf, .slice s2.ga s2.gl s2.gc]] w7 fun e w' => ∃ (y : Sk) (s : SS), e = .returned (.tuple #[.agg #[.int .i64 y.kind, .int .i64 y.level, .slice s.ea s.el s.ec, .int .i64 y.hb, .string y.hr, .int .i64 y.cr, .int .i64 y.cc, .slice s.ca s.cl s.cc, .int .i64 y.gf, .slice s.ga s.gl s.gc], .int .i64 0]) ∧ y = skOf k sA.1 sA.2 ∧ s.At w'.heap.size w' y ∧ Below w7.heap.size w7 w') := by
    have h := Merge_any HO2.out HO1.out (HG2.out w7 hw27).2 ⟨y3, s3, HY3.out, rfl, HA7.out⟩ ⟨y2, s2, HY2.out, rfl, HA6.out.go HB7.out⟩
    rw [show ((wkAll k (pick (fun x => (meansS sk x.l).1) k (L.drop K))).1, (wkAll k (pick (fun x => (meansS sk x.l).1) k (L.drop K))).2) = wkAll k (pick (fun x => (meansS sk x.l).1) k (L.drop K)) from rfl, show ((wkAll k (pick (fun x => (meansS sk x.l).1) k (L.take K))).1, (wkAll k (pick (fun x => (meansS sk x.l).1) k (L.take K))).2) = wkAll k (pick (fun x => (meansS sk x.l).1) k (L.take K)) from rfl, HPl.out] at h
    refine h.mono ?_
    rintro e w' ⟨x, rfl, ⟨y, s, h1, rfl, h3⟩, hb⟩
    exact ⟨y, s, rfl, h1, h3, hb⟩
   have p0 : w7.cell? ⟨b2, 0, none⟩ = some (.int .i64 y2.kind) := cCc hX1 0
   have p1 : w7.cell? ⟨b2, 1, none⟩ = some (.int .i64 y2.level) := cCc hX1 1
   have p2 : w7.cell? ⟨b2, 2, none⟩ = some (.slice s2.ea s2.el s2.ec) := cCc hX1 2
   have p3 : w7.cell? ⟨b2, 3, none⟩ = some (.int .i64 y2.hb) := cCc hX1 3
   have p4 : w7.cell? ⟨b2, 4, none⟩ = some (.string y2.hr) := cCc hX1 4
   have p5 : w7.cell? ⟨b2, 5, none⟩ = some (.int .i64 y2.cr) := cCc hX1 5
   have p6 : w7.cell? ⟨b2, 6, none⟩ = some (.int .i64 y2.cc) := cCc hX1 6
   have p7 : w7.cell? ⟨b2, 7, none⟩ = some (.slice s2.ca s2.cl s2.cc) := cCc hX1 7
   have p8 : w7.cell? ⟨b2, 8, none⟩ = some (.int .i64 y2.gf) := cCc hX1 8
   have p9 : w7.cell? ⟨b2, 9, none⟩ = some (.slice s2.ga s2.gl s2.gc) := cCc hX1 9
   have r0 : w7.cell? ⟨b3, 0, none⟩ = some (.int .i64 y3.kind) := cCc hX2 0
   have r1 : w7.cell? ⟨b3, 1, none⟩ = some (.int .i64 y3.level) := cCc hX2 1
   have r2 : w7.cell? ⟨b3, 2, none⟩ = some (.slice s3.ea s3.el s3.ec) := cCc hX2 2
   have r3 : w7.cell? ⟨b3, 3, none⟩ = some (.int .i64 y3.hb) := cCc hX2 3
   have r4 : w7.cell? ⟨b3, 4, none⟩ = some (.string y3.hr) := cCc hX2 4
   have r5 : w7.cell? ⟨b3, 5, none⟩ = some (.int .i64 y3.cr) := cCc hX2 5
   have r6 : w7.cell? ⟨b3, 6, none⟩ = some (.int .i64 y3.cc) := cCc hX2 6
   have r7 : w7.cell? ⟨b3, 7, none⟩ = some (.slice s3.ca s3.cl s3.cc) := cCc hX2 7
   have r8 : w7.cell? ⟨b3, 8, none⟩ = some (.int .i64 y3.gf) := cCc hX2 8
   have r9 : w7.cell? ⟨b3, 9, none⟩ = some (.slice s3.ga s3.gl s3.gc) := cCc hX2 9
   clear HY2 HX6 HA6 HB7 HX7 HA7 HY3 hX1 hX2 HXall HAall HM1 HM2 hst hsf HPl HO1 HO2
   go_wp2_with fail
   refine HMg.out.mono ?_
   rintro e w8 ⟨y4, s4, rfl, hy4, hA4, hb8⟩
   obtain ⟨W9, hW9, hX9, hB9, hs9⟩ := boxes1 w8 #[.int .i64 y4.kind, .int .i64 y4.level, .slice s4.ea s4.el s4.ec, .int .i64 y4.hb, .string y4.hr, .int .i64 y4.cr, .int .i64 y4.cc, .slice s4.ca s4.cl s4.cc, .int .i64 y4.gf, .slice s4.ga s4.gl s4.gc] 39
   have hb79 := hb8.trans (hB9.mono hb8.size)
   have hXa := known hb79 (Nat.le_refl _) hX0.out
   have HXa := Lib.hid hXa
   have hkk : y1.kind = (k : Int) := by rw [HYK.out]; exact (skOf_kind _ _ _).1
   have HSm : Hid (Calls Tryz.prog 28 #[.agg #[.int .i64 y4.kind, .int .i64 y4.level, .slice s4.ea s4.el s4.ec, .int .i64 y4.hb, .string y4.hr, .int .i64 y4.cr, .int .i64 y4.cc, .slice s4.ca s4.cl s4.cc, .int .i64 y4.gf, .slice s4.ga s4.gl s4.gc], .agg #[.int .i64 y1.kind, .int .i64 y1.level, .slice s1.ea s1.el s1.ec, .int .i64 y1.hb, .string y1.hr, .int .i64 y1.cr, .int .i64 y1.cc, .slice s1.ca s1.cl s1.cc, .int .i64 y1.gf, .slice s1.ga s1.gl s1.gc]] W9 fun e w' => e = .returned (.bool true) ∧ Below W9.heap.size W9 w') := Same_sk (B := sA.2) (k := k) (L := sA.1) ⟨y4, s4, hy4, rfl, hA4.go hB9⟩ ⟨y1, s1, HYK.out, rfl, HA1.out.go hb79⟩
   have HRt : Hid (∀ W, Below W9.heap.size W9 W → Calls Tryz.prog 29 #[.agg #[.int .i64 y1.kind, .int .i64 y1.level, .slice s1.ea s1.el s1.ec, .int .i64 y1.hb, .string y1.hr, .int .i64 y1.cr, .int .i64 y1.cc, .slice s1.ca s1.cl s1.cc, .int .i64 y1.gf, .slice s1.ga s1.gl s1.gc]] W fun e w' => e = .returned (.bool true) ∧ Below W.heap.size W w') := fun W hb => by
    have hA := (HA1.out.go hb79).go hb
    rw [HYK.out] at hA
    have h := ladder_Right_any (skOf k sA.1 sA.2) s1 W hA (at_short HO3.out hA) (skOf_fit HO3.out)
    rw [skOf_ok HO3.out, ← HYK.out] at h
    exact h
   have HB9 : Hid (Below w.heap.size w W9) := HB2.out.trans ((hw27.trans (hb79.mono hw27.size)).mono HB2.out.size)
   have hz9 : w4.heap.size < W9.heap.size := (Array.getElem?_eq_some_iff.1 hXa).1
   have q0 : W9.cell? ⟨w8.heap.size, 0, none⟩ = some (.int .i64 y4.kind) := cCc hX9 0
   have q1 : W9.cell? ⟨w8.heap.size, 1, none⟩ = some (.int .i64 y4.level) := cCc hX9 1
   have q2 : W9.cell? ⟨w8.heap.size, 2, none⟩ = some (.slice s4.ea s4.el s4.ec) := cCc hX9 2
   have q3 : W9.cell? ⟨w8.heap.size, 3, none⟩ = some (.int .i64 y4.hb) := cCc hX9 3
   have q4 : W9.cell? ⟨w8.heap.size, 4, none⟩ = some (.string y4.hr) := cCc hX9 4
   have q5 : W9.cell? ⟨w8.heap.size, 5, none⟩ = some (.int .i64 y4.cr) := cCc hX9 5
   have q6 : W9.cell? ⟨w8.heap.size, 6, none⟩ = some (.int .i64 y4.cc) := cCc hX9 6
   have q7 : W9.cell? ⟨w8.heap.size, 7, none⟩ = some (.slice s4.ca s4.cl s4.cc) := cCc hX9 7
   have q8 : W9.cell? ⟨w8.heap.size, 8, none⟩ = some (.int .i64 y4.gf) := cCc hX9 8
   have q9 : W9.cell? ⟨w8.heap.size, 9, none⟩ = some (.slice s4.ga s4.gl s4.gc) := cCc hX9 9
   have u0 : W9.cell? ⟨w4.heap.size, 0, none⟩ = some (.int .i64 y1.kind) := cCc hXa 0
   have u1 : W9.cell? ⟨w4.heap.size, 1, none⟩ = some (.int .i64 y1.level) := cCc hXa 1
   have u2 : W9.cell? ⟨w4.heap.size, 2, none⟩ = some (.slice s1.ea s1.el s1.ec) := cCc hXa 2
   have u3 : W9.cell? ⟨w4.heap.size, 3, none⟩ = some (.int .i64 y1.hb) := cCc hXa 3
   have u4 : W9.cell? ⟨w4.heap.size, 4, none⟩ = some (.string y1.hr) := cCc hXa 4
   have u5 : W9.cell? ⟨w4.heap.size, 5, none⟩ = some (.int .i64 y1.cr) := cCc hXa 5
   have u6 : W9.cell? ⟨w4.heap.size, 6, none⟩ = some (.int .i64 y1.cc) := cCc hXa 6
   have u7 : W9.cell? ⟨w4.heap.size, 7, none⟩ = some (.slice s1.ca s1.cl s1.cc) := cCc hXa 7
   have u8 : W9.cell? ⟨w4.heap.size, 8, none⟩ = some (.int .i64 y1.gf) := cCc hXa 8
   have u9 : W9.cell? ⟨w4.heap.size, 9, none⟩ = some (.slice s1.ga s1.gl s1.gc) := cCc hXa 9
   rw [hkk] at u0
   have HKK := Lib.hid hkk
   clear hX9 hXa hb79 hb8 hB9 hy4 hA4 hw27 p0 p1 p2 p3 p4 p5 p6 p7 p8 p9 r0 r1 r2 r3 r4 r5 r6 r7 r8 r9
   rw [← hkk] at u0
   clear hkk
   go_wp2_with fail
   refine HSm.out.mono ?_
   rintro e w10 ⟨rfl, hb10⟩
   have hXb := known hb10 (Nat.le_refl _) HXa.out
   have v0 : w10.cell? ⟨w4.heap.size, 0, none⟩ = some (.int .i64 y1.kind) := cCc hXb 0
   have v1 : w10.cell? ⟨w4.heap.size, 1, none⟩ = some (.int .i64 y1.level) := cCc hXb 1
   have v2 : w10.cell? ⟨w4.heap.size, 2, none⟩ = some (.slice s1.ea s1.el s1.ec) := cCc hXb 2
   have v3 : w10.cell? ⟨w4.heap.size, 3, none⟩ = some (.int .i64 y1.hb) := cCc hXb 3
   have v4 : w10.cell? ⟨w4.heap.size, 4, none⟩ = some (.string y1.hr) := cCc hXb 4
   have v5 : w10.cell? ⟨w4.heap.size, 5, none⟩ = some (.int .i64 y1.cr) := cCc hXb 5
   have v6 : w10.cell? ⟨w4.heap.size, 6, none⟩ = some (.int .i64 y1.cc) := cCc hXb 6
   have v7 : w10.cell? ⟨w4.heap.size, 7, none⟩ = some (.slice s1.ca s1.cl s1.cc) := cCc hXb 7
   have v8 : w10.cell? ⟨w4.heap.size, 8, none⟩ = some (.int .i64 y1.gf) := cCc hXb 8
   have v9 : w10.cell? ⟨w4.heap.size, 9, none⟩ = some (.slice s1.ga s1.gl s1.gc) := cCc hXb 9
   have HXb := Lib.hid hXb
   clear hXb u0 u1 u2 u3 u4 u5 u6 u7 u8 u9 q0 q1 q2 q3 q4 q5 q6 q7 q8 q9
   go_wp2_with fail
   refine (HRt.out w10 hb10).mono ?_
   rintro e w11 ⟨rfl, hb11⟩
   have hXc := known hb11 (Nat.le_refl _) HXb.out
   have x0 : w11.cell? ⟨w4.heap.size, 0, none⟩ = some (.int .i64 (k : Int)) := by rw [← HKK.out]; exact cCc hXc 0
   clear hXc v0 v1 v2 v3 v4 v5 v6 v7 v8 v9
   go_wp2_with fail
   go_ret
   exact ⟨rfl, HB9.out.trans ((hb10.trans (hb11.mono hb10.size)).mono HB9.out.size)⟩
end Go.Proofs.YthbhmnakmhambaaGreatDoor

/- aviarylaw15.GrantAll answers true. -/
import Derived.Test.YthbhmnakmhambaaGreatDoorZJ4
import Derived.Test.YthbhmnakmhambaaGreatDoorZRJ
namespace Go.Proofs.YthbhmnakmhambaaGreatDoor
open Go Go.RowKit Go.Shelf
theorem Same_at {x y : Sk} {s p : SS} {w : World} (e : y = x) (h1 : s.At w.heap.size w x) (h2 : p.At w.heap.size w y) : Calls Tryz.prog 20 #[.agg #[.int .i64 x.kind, .int .i64 x.level, .slice s.ea s.el s.ec, .int .i64 x.hb, .string x.hr, .int .i64 x.cr, .int .i64 x.cc, .slice s.ca s.cl s.cc, .int .i64 x.gf, .slice s.ga s.gl s.gc], .agg #[.int .i64 y.kind, .int .i64 y.level, .slice p.ea p.el p.ec, .int .i64 y.hb, .string y.hr, .int .i64 y.cr, .int .i64 y.cc, .slice p.ca p.cl p.cc, .int .i64 y.gf, .slice p.ga p.gl p.gc]] w fun e w' => e = .returned (.bool true) ∧ Below w.heap.size w w' := by
 subst e
 exact ref10_Same_eq y s p w h1 h2
set_option maxRecDepth 100000 in
set_option maxHeartbeats 16000000 in
theorem grantAll_any (l : List (Ser × SerP)) (a : Option Addr) (len cap : Nat) (sc : ByteArray) (n2 n3 : Int) (w : World) (hT : Tab w.heap.size w a len cap l) (hU : ∀ x ∈ l.map (·.1), Ser.wn x) (_h2 : I64 n2) (_h3 : U64 n3) (hG : GW w) (hg : GT w) :
  Calls Tryz.prog 4 #[.slice a len cap, .string sc, .int .i64 n2, .int .u64 n3] w fun e w' => e = .returned (.bool true) ∧ Below w.heap.size w w' := by
 have HT := Lib.hid hT
 have HG := Lib.hid hG
 have HGT := Lib.hid hg
 obtain ⟨L, hL⟩ : ∃ L, few12 (l.map (·.1)) = L := ⟨_, rfl⟩
 have HQ : Hid (tabRight L = true → QT L) := by rw [← hL]; exact qt_few hU
 have HFi : Hid (∀ x ∈ L, x.fine) := by rw [← hL]; exact fine_few (fun y hy => (hU y hy).wf)
 have HL := Lib.hid hL
 obtain ⟨sk, hsk⟩ : ∃ sk : StrK, sk.1 = cutN 200 sc := ⟨⟨cutN 200 sc, cutN_lt 200 (by decide) sc⟩, rfl⟩
 have HSK := Lib.hid hsk
 clear hT hU hG hg hL hsk
 go_enter Tryz.func4, Tryz.ntmps4
 go_wp2_with (first
  | (go_at_call 14; refine (shown15_any w HG.out).mono ?_; rintro e w1 ⟨rfl, hb1⟩)
  | (go_at_call 8; refine (few12_any l a len cap w1 (HT.out.go hb1)).mono ?_; rintro e w2 ⟨a2, cap2, m, rfl, hT2, hm, hlo, hla, hb2⟩; clear hlo hla)
  | (go_at_call 16; refine (grant_New_any _).mono ?_; rintro e w3 ⟨rfl, hb3⟩))
 have hB2 : Below w.heap.size w w2 := hb1.trans (hb2.mono hb1.size)
 have HM : Hid (m.map (·.1) = L) := hm.trans HL.out
 have HT2 := Lib.hid hT2
 have HF : Hid (TabFit m) := tabFit_of hT2 (by rw [HM.out]; exact HFi.out)
 have HG2 : Hid (∀ W, Below w2.heap.size w2 W → GW W ∧ GT W) := fun W hb => ⟨HG.out.below (hB2.trans (hb.mono hB2.size)), HGT.out.go (hB2.trans (hb.mono hB2.size))⟩
 have HB2 := Lib.hid hB2
 have HQg : Hid (∀ q : List (Ser × SerP), q.map (·.1) = L → tabRight (q.map (·.1)) = true → ∀ x ∈ q.map (·.1), SkGood x.sk) := fun q hq hr x hx => by rw [hq] at hr hx; exact ((HQ.out hr).good x hx).sk
 have hIs : Calls Tryz.prog 15 #[.agg #[.int .u64 1, .slice none 0 0], .int .u64 n3, .string ⟨#[]⟩] w3 (IssuePost (gAll n3, 1, 0) w3) := by
  have h := Issue_any ⟨1, []⟩ none 0 0 n3 emptyK w3 (.inl ⟨rfl, rfl, rfl⟩) (HG2.out w3 hb3).1 ⟨by decide, by decide⟩
  rw [issue_all] at h
  exact h
 clear hT2 hm HL HT hb1 hb2 hB2
 refine hIs.mono ?_
 rintro e w4 ⟨v4, rfl, ⟨a4, l4, c4, rfl, hg4, hlo4⟩, hb4⟩
 obtain ⟨W5, hW5, hX5, hB5, hs5⟩ := boxes1 w4 #[.int .u64 (gAll n3).next, .slice a4 l4 c4] 49
 have hb25 : Below w2.heap.size w2 W5 := hb3.trans ((hb4.trans (hB5.mono hb4.size)).mono hb3.size)
 have HX5 := Lib.hid hX5
 have HB25 := Lib.hid hb25
 have HGr : Hid (∀ W, Below W5.heap.size W5 W → Grs W.heap.size W (.slice a4 l4 c4) (gAll n3).l) := fun W hb => (SlAt.below (hB5.trans (hb.mono hB5.size)) hg4).mono (hB5.trans (hb.mono hB5.size)).size
 have HQW : Hid (∀ W, Below W5.heap.size W5 W → Below W5.heap.size W5 W) := fun W h => h
 have HRA : Hid (∀ W, Below W5.heap.size W5 W → Calls Tryz.prog 17 #[.agg #[.int .u64 2, .slice a4 l4 c4], .int .u64 n3, .slice a2 m.length cap2, .string (cutN 200 sc), .int .i64 n2] W (SumPost n2 (meantE L sk) (pickAt L n2 (meantR L sk)) W)) := fun W hb => by
  have hb2W := HB25.out.trans (hb.mono HB25.out.size)
  have h := Rollup_any (gAll n3) a4 l4 c4 n3 sk n2 m a2 m.length cap2 W (HGr.out W hb) (HT2.out.go hb2W) HF.out (HQg.out m HM.out) (HG2.out W hb2W).1 (HG2.out W hb2W).2
  rw [HM.out, HSK.out, (lent_all n3 L sk).1, (lent_all n3 L sk).2] at h
  exact h
 have HMA : Hid (∀ W, Below W5.heap.size W5 W → Calls Tryz.prog 19 #[.slice a2 m.length cap2, .string (cutN 200 sc), .int .i64 n2] W (SumPost n2 (meantE L sk) (pickAt L n2 (meantR L sk)) W)) := fun W hb => by
  have hb2W := HB25.out.trans (hb.mono HB25.out.size)
  have h := Merged_any sk n2 m a2 m.length cap2 W (HT2.out.go hb2W) HF.out (HQg.out m HM.out) (HG2.out W hb2W).1 (HG2.out W hb2W).2
  rw [HM.out, HSK.out] at h
  exact h
 have HRN : Hid (∀ W, Below W5.heap.size W5 W → Calls Tryz.prog 17 #[.agg #[.int .u64 1, .slice none 0 0], .int .u64 n3, .slice a2 m.length cap2, .string (cutN 200 sc), .int .i64 n2] W (SumPost n2 (meantE L sk) [] W)) := fun W hb => by
  have hb2W := HB25.out.trans (hb.mono HB25.out.size)
  have h := Rollup_any ⟨1, []⟩ none 0 0 n3 sk n2 m a2 m.length cap2 W (.inl ⟨rfl, rfl, rfl⟩) (HT2.out.go hb2W) HF.out (HQg.out m HM.out) (HG2.out W hb2W).1 (HG2.out W hb2W).2
  rw [HM.out, HSK.out, (lent_new n3 L sk).1, (lent_new n3 L sk).2] at h
  exact h
 have HMN : Hid (∀ W, Below W5.heap.size W5 W → Calls Tryz.prog 19 #[.slice none 0 0, .string ⟨#[]⟩, .int .i64 n2] W (SumPost n2 0 [] W)) := fun W hb => by
  have hb2W := HB25.out.trans (hb.mono HB25.out.size)
  have h := Merged_any emptyK n2 [] none 0 0 W Tab.nil (fun e h => by cases h) (fun _ x hx => by cases hx) (HG2.out W hb2W).1 (HG2.out W hb2W).2
  exact h
 have HB5 : Hid (Below w.heap.size w W5) := HB2.out.trans (hb25.mono HB2.out.size)
 obtain ⟨er, her⟩ : ∃ er, sumE (meantE L sk) n2 = er := ⟨_, rfl⟩
 have HER := Lib.hid her
 clear hg4 hlo4 hb3 hb4 hB5 hb25 hX5 hIs her
 generalize m.length = ml at *
 go_wp2_with fail
 go_cut [13, 14] (fun s12 s13 wx => ∃ (b : Nat) (y : Sk) (s : SS), s12 = .pointer (some ⟨b, 0, none⟩) ∧ s13 = .int .i64 (sumE (meantE L sk) n2) ∧ Hid (y = sumSk n2 (meantE L sk) (pickAt L n2 (meantR L sk))) ∧ Hid (wx.heap[b]? = some (.cells #[.int .i64 y.kind, .int .i64 y.level, .slice s.ea s.el s.ec, .int .i64 y.hb, .string y.hr, .int .i64 y.cr, .int .i64 y.cc, .slice s.ca s.cl s.cc, .int .i64 y.gf, .slice s.ga s.gl s.gc] 39 (0, 0))) ∧ Hid (s.At wx.heap.size wx y) ∧ Hid (Below W5.heap.size W5 wx))
 case first =>
  refine wp_region_any (by kernel_rfl) ?_
  change wpAny _ _ _ _ _ _ _ (World.drew _)
  have hXk0 : (W5.drew).heap[w4.heap.size]? = some (.cells #[.int .u64 2, .slice a4 l4 c4] 49 (0, 0)) := HX5.out
  refine wpAny_take (i := 1) (v := ?_) rfl (by kernel_rfl) (by kernel_rfl) (by kernel_rfl) (fun _ _ _ h => h) (Or.inl ⟨by rfl, ?_⟩) ?_
  rotate_left
  ·intro w; go_simp; with_reducible rfl
  refine wpAny_take (i := 2) (v := ?_) rfl (by kernel_rfl) (by kernel_rfl) (by kernel_rfl) (fun _ _ _ h => h) (Or.inl ⟨by rfl, ?_⟩) ?_
  rotate_left
  ·intro w; go_simp; with_reducible rfl
  refine wpAny_take (i := 3) (v := ?_) rfl (by kernel_rfl) (by kernel_rfl) (by kernel_rfl) (fun _ _ _ h => h) (Or.inl ⟨by rfl, ?_⟩) ?_
  rotate_left
  ·intro w; go_simp; with_reducible rfl
  refine wpAny_take (i := 5) (v := ?_) rfl (by kernel_rfl) (by kernel_rfl) (by kernel_rfl) (fun _ _ _ h => h) (Or.inl ⟨by rfl, ?_⟩) ?_
  rotate_left
  ·intro w; go_simp; with_reducible rfl
  refine wpAny_ready (rs := [0, 4, 10]) (by kernel_rfl) (by simp) ?_
  refine AllReady.cons rfl (fun K_ hK_ => ?_) ?_
  ·skip
   have n0 : W5.drew.cell? ⟨w4.heap.size, 0, none⟩ = some (.int .u64 2) := cCc hXk0 0
   have n1 : W5.drew.cell? ⟨w4.heap.size, 1, none⟩ = some (.slice a4 l4 c4) := cCc hXk0 1
   go_simp
   refine hK_ _ _ ?_
   clear hK_ K_
   refine wpAny_ready (rs := [4, 10]) (by kernel_rfl) (by simp) ?_
   refine AllReady.cons rfl (fun K_ hK_ => ?_) ?_
   ·go_simp
    refine (cut_any sc _).mono ?_
    rintro e wc4 ⟨rfl, hb4⟩
    have hq4 : Below W5.heap.size W5 wc4 := ((Below.refl W5.heap.size W5).drew).trans (hb4.mono ((Below.refl W5.heap.size W5).drew).size)
    have hXk4 := known hb4 (Nat.le_refl _) hXk0
    refine hK_ _ _ ?_
    clear hK_ K_
    refine wpAny_ready (rs := [6, 10]) (by kernel_rfl) (by simp) ?_
    refine AllReady.cons rfl (fun K_ hK_ => ?_) ?_
    ·go_simp
     refine (HRA.out _ (HQW.out _ (hq4))).mono ?_
     rintro e wc6 ⟨y, s, hy, rfl, hsA, hb6⟩
     have HYa := Lib.hid hy
     clear hy
     have hq6 : Below W5.heap.size W5 wc6 := (hq4).trans (hb6.mono (hq4).size)
     have hXk6 := known hb6 (Nat.le_refl _) hXk4
     refine hK_ _ _ ?_
     clear hK_ K_
     refine wpAny_take (i := 7) (v := ?_) rfl (by kernel_rfl) (by kernel_rfl) (by kernel_rfl) (fun _ _ _ h => h) (Or.inl ⟨by rfl, ?_⟩) ?_
     rotate_left
     ·intro w; go_simp; with_reducible rfl
     refine wpAny_take (i := 8) (v := ?_) rfl (by kernel_rfl) (by kernel_rfl) (by kernel_rfl) (fun _ _ _ h => h) (Or.inl ⟨by rfl, ?_⟩) ?_
     rotate_left
     ·intro w; go_simp; with_reducible rfl
     refine wpAny_take (i := 9) (v := ?_) rfl (by kernel_rfl) (by kernel_rfl) (by kernel_rfl) (fun _ _ _ h => h) (Or.inl ⟨by rfl, ?_⟩) ?_
     rotate_left
     ·intro w; go_simp; with_reducible rfl
     refine wpAny_ready (rs := [10]) (by kernel_rfl) (by simp) ?_
     refine AllReady.cons rfl (fun K_ hK_ => ?_) ?_
     ·obtain ⟨Wb, hWb, hXb, hBb, hsb⟩ := boxes1 (wc6) #[.int .i64 0, .int .i64 0, .slice none 0 0, .int .i64 0, .string ⟨#[]⟩, .int .i64 0, .int .i64 0, .slice none 0 0, .int .i64 0, .slice none 0 0] 39
      have hqb : Below W5.heap.size W5 Wb := (hq6).trans (hBb.mono (hq6).size)
      have hXkb := known hBb (Nat.le_refl _) hXk6
      replace hsA := hsA.go hBb
      go_simp
      refine hK_ _ _ ?_
      clear hK_ K_
      refine wpAny_ready (rs := [11]) (by kernel_rfl) (by simp) ?_
      refine AllReady.cons rfl (fun K_ hK_ => ?_) ?_
      ·obtain ⟨bB, hbB⟩ : ∃ bB, (wc6).heap.size = bB := ⟨_, rfl⟩
       rw [hbB] at hXb
       have hbl : W5.heap.size ≤ bB := by rw [← hbB]; exact (hq6).size
       have f0 : Wb.cell? ⟨bB, 0, none⟩ = some (.int .i64 0) := cCc hXb 0
       have f1 : Wb.cell? ⟨bB, 1, none⟩ = some (.int .i64 0) := cCc hXb 1
       have f2 : Wb.cell? ⟨bB, 2, none⟩ = some (.slice none 0 0) := cCc hXb 2
       have f3 : Wb.cell? ⟨bB, 3, none⟩ = some (.int .i64 0) := cCc hXb 3
       have f4 : Wb.cell? ⟨bB, 4, none⟩ = some (.string ⟨#[]⟩) := cCc hXb 4
       have f5 : Wb.cell? ⟨bB, 5, none⟩ = some (.int .i64 0) := cCc hXb 5
       have f6 : Wb.cell? ⟨bB, 6, none⟩ = some (.int .i64 0) := cCc hXb 6
       have f7 : Wb.cell? ⟨bB, 7, none⟩ = some (.slice none 0 0) := cCc hXb 7
       have f8 : Wb.cell? ⟨bB, 8, none⟩ = some (.int .i64 0) := cCc hXb 8
       have f9 : Wb.cell? ⟨bB, 9, none⟩ = some (.slice none 0 0) := cCc hXb 9
       have g'0 : Wb.frozen? ⟨bB, 0, none⟩ = false := cFz hXb 0
       have g'1 : Wb.frozen? ⟨bB, 1, none⟩ = false := cFz hXb 1
       have g'2 : Wb.frozen? ⟨bB, 2, none⟩ = false := cFz hXb 2
       have g'3 : Wb.frozen? ⟨bB, 3, none⟩ = false := cFz hXb 3
       have g'4 : Wb.frozen? ⟨bB, 4, none⟩ = false := cFz hXb 4
       have g'5 : Wb.frozen? ⟨bB, 5, none⟩ = false := cFz hXb 5
       have g'6 : Wb.frozen? ⟨bB, 6, none⟩ = false := cFz hXb 6
       have g'7 : Wb.frozen? ⟨bB, 7, none⟩ = false := cFz hXb 7
       have g'8 : Wb.frozen? ⟨bB, 8, none⟩ = false := cFz hXb 8
       have g'9 : Wb.frozen? ⟨bB, 9, none⟩ = false := cFz hXb 9
       obtain ⟨V, hV, hVX, hVO, hVB⟩ := store10 (.int .i64 y.kind) (.int .i64 y.level) (.slice s.ea s.el s.ec) (.int .i64 y.hb) (.string y.hr) (.int .i64 y.cr) (.int .i64 y.cc) (.slice s.ca s.cl s.cc) (.int .i64 y.gf) (.slice s.ga s.gl s.gc) hXb
       have HO : Hid (V.heap[bB]? = some (.cells #[.int .i64 y.kind, .int .i64 y.level, .slice s.ea s.el s.ec, .int .i64 y.hb, .string y.hr, .int .i64 y.cr, .int .i64 y.cc, .slice s.ca s.cl s.cc, .int .i64 y.gf, .slice s.ga s.gl s.gc] 39 (0, 0)) ∧ s.At V.heap.size V y ∧ Below W5.heap.size W5 V) := ⟨hVX, at_apart hsA hXb (fun i u => noU_zero u) hVO, hVB _ _ (hqb) hbl⟩
       clear hVX hVO hVB
       rw [hbB]
       go_simp
       refine hK_ _ _ ?_
       clear hK_ K_
       refine wpAny_take (i := 12) (v := ?_) rfl (by kernel_rfl) (by kernel_rfl) (by kernel_rfl) (fun _ _ _ h => h) (Or.inl ⟨by rfl, ?_⟩) ?_
       rotate_left
       ·intro w; go_simp; with_reducible rfl
       refine wpAny_done (by kernel_rfl) ?_ _
       go_wp2_with fail
       go_meet
       exact ⟨bB, y, s, rfl, rfl, HYa, HO.out.1, HO.out.2.1, HO.out.2.2⟩
      exact AllReady.nil
     exact AllReady.nil
    refine AllReady.cons rfl (fun K_ hK_ => ?_) ?_
    ·obtain ⟨Wb, hWb, hXb, hBb, hsb⟩ := boxes1 (wc4) #[.int .i64 0, .int .i64 0, .slice none 0 0, .int .i64 0, .string ⟨#[]⟩, .int .i64 0, .int .i64 0, .slice none 0 0, .int .i64 0, .slice none 0 0] 39
     have hqb : Below W5.heap.size W5 Wb := (hq4).trans (hBb.mono (hq4).size)
     have hXkb := known hBb (Nat.le_refl _) hXk4
     go_simp
     refine hK_ _ _ ?_
     clear hK_ K_
     refine wpAny_ready (rs := [6]) (by kernel_rfl) (by simp) ?_
     refine AllReady.cons rfl (fun K_ hK_ => ?_) ?_
     ·go_simp
      refine (HRA.out _ (HQW.out _ (hqb))).mono ?_
      rintro e wc6 ⟨y, s, hy, rfl, hsA, hb6⟩
      have HYa := Lib.hid hy
      clear hy
      have hq6 : Below W5.heap.size W5 wc6 := (hqb).trans (hb6.mono (hqb).size)
      have hXb := known hb6 (Nat.le_refl _) hXb
      have hXk6 := known hb6 (Nat.le_refl _) hXkb
      refine hK_ _ _ ?_
      clear hK_ K_
      refine wpAny_take (i := 7) (v := ?_) rfl (by kernel_rfl) (by kernel_rfl) (by kernel_rfl) (fun _ _ _ h => h) (Or.inl ⟨by rfl, ?_⟩) ?_
      rotate_left
      ·intro w; go_simp; with_reducible rfl
      refine wpAny_take (i := 8) (v := ?_) rfl (by kernel_rfl) (by kernel_rfl) (by kernel_rfl) (fun _ _ _ h => h) (Or.inl ⟨by rfl, ?_⟩) ?_
      rotate_left
      ·intro w; go_simp; with_reducible rfl
      refine wpAny_take (i := 9) (v := ?_) rfl (by kernel_rfl) (by kernel_rfl) (by kernel_rfl) (fun _ _ _ h => h) (Or.inl ⟨by rfl, ?_⟩) ?_
      rotate_left
      ·intro w; go_simp; with_reducible rfl
      refine wpAny_ready (rs := [11]) (by kernel_rfl) (by simp) ?_
      refine AllReady.cons rfl (fun K_ hK_ => ?_) ?_
      ·obtain ⟨bB, hbB⟩ : ∃ bB, (wc4).heap.size = bB := ⟨_, rfl⟩
       rw [hbB] at hXb
       have hbl : W5.heap.size ≤ bB := by rw [← hbB]; exact (hq4).size
       have f0 : wc6.cell? ⟨bB, 0, none⟩ = some (.int .i64 0) := cCc hXb 0
       have f1 : wc6.cell? ⟨bB, 1, none⟩ = some (.int .i64 0) := cCc hXb 1
       have f2 : wc6.cell? ⟨bB, 2, none⟩ = some (.slice none 0 0) := cCc hXb 2
       have f3 : wc6.cell? ⟨bB, 3, none⟩ = some (.int .i64 0) := cCc hXb 3
       have f4 : wc6.cell? ⟨bB, 4, none⟩ = some (.string ⟨#[]⟩) := cCc hXb 4
       have f5 : wc6.cell? ⟨bB, 5, none⟩ = some (.int .i64 0) := cCc hXb 5
       have f6 : wc6.cell? ⟨bB, 6, none⟩ = some (.int .i64 0) := cCc hXb 6
       have f7 : wc6.cell? ⟨bB, 7, none⟩ = some (.slice none 0 0) := cCc hXb 7
       have f8 : wc6.cell? ⟨bB, 8, none⟩ = some (.int .i64 0) := cCc hXb 8
       have f9 : wc6.cell? ⟨bB, 9, none⟩ = some (.slice none 0 0) := cCc hXb 9
       have g'0 : wc6.frozen? ⟨bB, 0, none⟩ = false := cFz hXb 0
       have g'1 : wc6.frozen? ⟨bB, 1, none⟩ = false := cFz hXb 1
       have g'2 : wc6.frozen? ⟨bB, 2, none⟩ = false := cFz hXb 2
       have g'3 : wc6.frozen? ⟨bB, 3, none⟩ = false := cFz hXb 3
       have g'4 : wc6.frozen? ⟨bB, 4, none⟩ = false := cFz hXb 4
       have g'5 : wc6.frozen? ⟨bB, 5, none⟩ = false := cFz hXb 5
       have g'6 : wc6.frozen? ⟨bB, 6, none⟩ = false := cFz hXb 6
       have g'7 : wc6.frozen? ⟨bB, 7, none⟩ = false := cFz hXb 7
       have g'8 : wc6.frozen? ⟨bB, 8, none⟩ = false := cFz hXb 8
       have g'9 : wc6.frozen? ⟨bB, 9, none⟩ = false := cFz hXb 9
       obtain ⟨V, hV, hVX, hVO, hVB⟩ := store10 (.int .i64 y.kind) (.int .i64 y.level) (.slice s.ea s.el s.ec) (.int .i64 y.hb) (.string y.hr) (.int .i64 y.cr) (.int .i64 y.cc) (.slice s.ca s.cl s.cc) (.int .i64 y.gf) (.slice s.ga s.gl s.gc) hXb
       have HO : Hid (V.heap[bB]? = some (.cells #[.int .i64 y.kind, .int .i64 y.level, .slice s.ea s.el s.ec, .int .i64 y.hb, .string y.hr, .int .i64 y.cr, .int .i64 y.cc, .slice s.ca s.cl s.cc, .int .i64 y.gf, .slice s.ga s.gl s.gc] 39 (0, 0)) ∧ s.At V.heap.size V y ∧ Below W5.heap.size W5 V) := ⟨hVX, at_apart hsA hXb (fun i u => noU_zero u) hVO, hVB _ _ (hq6) hbl⟩
       clear hVX hVO hVB
       rw [hbB]
       go_simp
       refine hK_ _ _ ?_
       clear hK_ K_
       refine wpAny_take (i := 12) (v := ?_) rfl (by kernel_rfl) (by kernel_rfl) (by kernel_rfl) (fun _ _ _ h => h) (Or.inl ⟨by rfl, ?_⟩) ?_
       rotate_left
       ·intro w; go_simp; with_reducible rfl
       refine wpAny_done (by kernel_rfl) ?_ _
       go_wp2_with fail
       go_meet
       exact ⟨bB, y, s, rfl, rfl, HYa, HO.out.1, HO.out.2.1, HO.out.2.2⟩
      exact AllReady.nil
     exact AllReady.nil
    exact AllReady.nil
   refine AllReady.cons rfl (fun K_ hK_ => ?_) ?_
   ·obtain ⟨Wb, hWb, hXb, hBb, hsb⟩ := boxes1 (W5.drew) #[.int .i64 0, .int .i64 0, .slice none 0 0, .int .i64 0, .string ⟨#[]⟩, .int .i64 0, .int .i64 0, .slice none 0 0, .int .i64 0, .slice none 0 0] 39
    have hqb : Below W5.heap.size W5 Wb := ((Below.refl W5.heap.size W5).drew).trans (hBb.mono ((Below.refl W5.heap.size W5).drew).size)
    have hXkb := known hBb (Nat.le_refl _) hXk0
    go_simp
    refine hK_ _ _ ?_
    clear hK_ K_
    refine wpAny_ready (rs := [4]) (by kernel_rfl) (by simp) ?_
    refine AllReady.cons rfl (fun K_ hK_ => ?_) ?_
    ·go_simp
     refine (cut_any sc _).mono ?_
     rintro e wc4 ⟨rfl, hb4⟩
     have hq4 : Below W5.heap.size W5 wc4 := (hqb).trans (hb4.mono (hqb).size)
     have hXb := known hb4 (Nat.le_refl _) hXb
     have hXk4 := known hb4 (Nat.le_refl _) hXkb
     refine hK_ _ _ ?_
     clear hK_ K_
     refine wpAny_ready (rs := [6]) (by kernel_rfl) (by simp) ?_
     refine AllReady.cons rfl (fun K_ hK_ => ?_) ?_
     ·go_simp
      refine (HRA.out _ (HQW.out _ (hq4))).mono ?_
      rintro e wc6 ⟨y, s, hy, rfl, hsA, hb6⟩
      have HYa := Lib.hid hy
      clear hy
      have hq6 : Below W5.heap.size W5 wc6 := (hq4).trans (hb6.mono (hq4).size)
      have hXb := known hb6 (Nat.le_refl _) hXb
      have hXk6 := known hb6 (Nat.le_refl _) hXk4
      refine hK_ _ _ ?_
      clear hK_ K_
      refine wpAny_take (i := 7) (v := ?_) rfl (by kernel_rfl) (by kernel_rfl) (by kernel_rfl) (fun _ _ _ h => h) (Or.inl ⟨by rfl, ?_⟩) ?_
      rotate_left
      ·intro w; go_simp; with_reducible rfl
      refine wpAny_take (i := 8) (v := ?_) rfl (by kernel_rfl) (by kernel_rfl) (by kernel_rfl) (fun _ _ _ h => h) (Or.inl ⟨by rfl, ?_⟩) ?_
      rotate_left
      ·intro w; go_simp; with_reducible rfl
      refine wpAny_take (i := 9) (v := ?_) rfl (by kernel_rfl) (by kernel_rfl) (by kernel_rfl) (fun _ _ _ h => h) (Or.inl ⟨by rfl, ?_⟩) ?_
      rotate_left
      ·intro w; go_simp; with_reducible rfl
      refine wpAny_ready (rs := [11]) (by kernel_rfl) (by simp) ?_
      refine AllReady.cons rfl (fun K_ hK_ => ?_) ?_
      ·obtain ⟨bB, hbB⟩ : ∃ bB, (W5.drew).heap.size = bB := ⟨_, rfl⟩
       rw [hbB] at hXb
       have hbl : W5.heap.size ≤ bB := by rw [← hbB]; exact ((Below.refl W5.heap.size W5).drew).size
       have f0 : wc6.cell? ⟨bB, 0, none⟩ = some (.int .i64 0) := cCc hXb 0
       have f1 : wc6.cell? ⟨bB, 1, none⟩ = some (.int .i64 0) := cCc hXb 1
       have f2 : wc6.cell? ⟨bB, 2, none⟩ = some (.slice none 0 0) := cCc hXb 2
       have f3 : wc6.cell? ⟨bB, 3, none⟩ = some (.int .i64 0) := cCc hXb 3
       have f4 : wc6.cell? ⟨bB, 4, none⟩ = some (.string ⟨#[]⟩) := cCc hXb 4
       have f5 : wc6.cell? ⟨bB, 5, none⟩ = some (.int .i64 0) := cCc hXb 5
       have f6 : wc6.cell? ⟨bB, 6, none⟩ = some (.int .i64 0) := cCc hXb 6
       have f7 : wc6.cell? ⟨bB, 7, none⟩ = some (.slice none 0 0) := cCc hXb 7
       have f8 : wc6.cell? ⟨bB, 8, none⟩ = some (.int .i64 0) := cCc hXb 8
       have f9 : wc6.cell? ⟨bB, 9, none⟩ = some (.slice none 0 0) := cCc hXb 9
       have g'0 : wc6.frozen? ⟨bB, 0, none⟩ = false := cFz hXb 0
       have g'1 : wc6.frozen? ⟨bB, 1, none⟩ = false := cFz hXb 1
       have g'2 : wc6.frozen? ⟨bB, 2, none⟩ = false := cFz hXb 2
       have g'3 : wc6.frozen? ⟨bB, 3, none⟩ = false := cFz hXb 3
       have g'4 : wc6.frozen? ⟨bB, 4, none⟩ = false := cFz hXb 4
       have g'5 : wc6.frozen? ⟨bB, 5, none⟩ = false := cFz hXb 5
       have g'6 : wc6.frozen? ⟨bB, 6, none⟩ = false := cFz hXb 6
       have g'7 : wc6.frozen? ⟨bB, 7, none⟩ = false := cFz hXb 7
       have g'8 : wc6.frozen? ⟨bB, 8, none⟩ = false := cFz hXb 8
       have g'9 : wc6.frozen? ⟨bB, 9, none⟩ = false := cFz hXb 9
       obtain ⟨V, hV, hVX, hVO, hVB⟩ := store10 (.int .i64 y.kind) (.int .i64 y.level) (.slice s.ea s.el s.ec) (.int .i64 y.hb) (.string y.hr) (.int .i64 y.cr) (.int .i64 y.cc) (.slice s.ca s.cl s.cc) (.int .i64 y.gf) (.slice s.ga s.gl s.gc) hXb
       have HO : Hid (V.heap[bB]? = some (.cells #[.int .i64 y.kind, .int .i64 y.level, .slice s.ea s.el s.ec, .int .i64 y.hb, .string y.hr, .int .i64 y.cr, .int .i64 y.cc, .slice s.ca s.cl s.cc, .int .i64 y.gf, .slice s.ga s.gl s.gc] 39 (0, 0)) ∧ s.At V.heap.size V y ∧ Below W5.heap.size W5 V) := ⟨hVX, at_apart hsA hXb (fun i u => noU_zero u) hVO, hVB _ _ (hq6) hbl⟩
       clear hVX hVO hVB
       first | rw [hbB] | rw [show W5.heap.size = bB from hbB] | rw [show w4.heap.size + 1 = bB by rw [← hbB]; exact hs5.symm]
       go_simp
       refine hK_ _ _ ?_
       clear hK_ K_
       refine wpAny_take (i := 12) (v := ?_) rfl (by kernel_rfl) (by kernel_rfl) (by kernel_rfl) (fun _ _ _ h => h) (Or.inl ⟨by rfl, ?_⟩) ?_
       rotate_left
       ·intro w; go_simp; with_reducible rfl
       refine wpAny_done (by kernel_rfl) ?_ _
       go_wp2_with fail
       go_meet
       exact ⟨bB, y, s, rfl, rfl, HYa, HO.out.1, HO.out.2.1, HO.out.2.2⟩
      exact AllReady.nil
     exact AllReady.nil
    exact AllReady.nil
   exact AllReady.nil
  refine AllReady.cons rfl (fun K_ hK_ => ?_) ?_
  ·go_simp
   refine (cut_any sc _).mono ?_
   rintro e wc4 ⟨rfl, hb4⟩
   have hq4 : Below W5.heap.size W5 wc4 := ((Below.refl W5.heap.size W5).drew).trans (hb4.mono ((Below.refl W5.heap.size W5).drew).size)
   have hXk4 := known hb4 (Nat.le_refl _) hXk0
   refine hK_ _ _ ?_
   clear hK_ K_
   refine wpAny_ready (rs := [0, 10]) (by kernel_rfl) (by simp) ?_
   refine AllReady.cons rfl (fun K_ hK_ => ?_) ?_
   ·skip
    have n0 : wc4.cell? ⟨w4.heap.size, 0, none⟩ = some (.int .u64 2) := cCc hXk4 0
    have n1 : wc4.cell? ⟨w4.heap.size, 1, none⟩ = some (.slice a4 l4 c4) := cCc hXk4 1
    go_simp
    refine hK_ _ _ ?_
    clear hK_ K_
    refine wpAny_ready (rs := [6, 10]) (by kernel_rfl) (by simp) ?_
    refine AllReady.cons rfl (fun K_ hK_ => ?_) ?_
    ·go_simp
     refine (HRA.out _ (HQW.out _ (hq4))).mono ?_
     rintro e wc6 ⟨y, s, hy, rfl, hsA, hb6⟩
     have HYa := Lib.hid hy
     clear hy
     have hq6 : Below W5.heap.size W5 wc6 := (hq4).trans (hb6.mono (hq4).size)
     have hXk6 := known hb6 (Nat.le_refl _) hXk4
     refine hK_ _ _ ?_
     clear hK_ K_
     refine wpAny_take (i := 7) (v := ?_) rfl (by kernel_rfl) (by kernel_rfl) (by kernel_rfl) (fun _ _ _ h => h) (Or.inl ⟨by rfl, ?_⟩) ?_
     rotate_left
     ·intro w; go_simp; with_reducible rfl
     refine wpAny_take (i := 8) (v := ?_) rfl (by kernel_rfl) (by kernel_rfl) (by kernel_rfl) (fun _ _ _ h => h) (Or.inl ⟨by rfl, ?_⟩) ?_
     rotate_left
     ·intro w; go_simp; with_reducible rfl
     refine wpAny_take (i := 9) (v := ?_) rfl (by kernel_rfl) (by kernel_rfl) (by kernel_rfl) (fun _ _ _ h => h) (Or.inl ⟨by rfl, ?_⟩) ?_
     rotate_left
     ·intro w; go_simp; with_reducible rfl
     refine wpAny_ready (rs := [10]) (by kernel_rfl) (by simp) ?_
     refine AllReady.cons rfl (fun K_ hK_ => ?_) ?_
     ·obtain ⟨Wb, hWb, hXb, hBb, hsb⟩ := boxes1 (wc6) #[.int .i64 0, .int .i64 0, .slice none 0 0, .int .i64 0, .string ⟨#[]⟩, .int .i64 0, .int .i64 0, .slice none 0 0, .int .i64 0, .slice none 0 0] 39
      have hqb : Below W5.heap.size W5 Wb := (hq6).trans (hBb.mono (hq6).size)
      have hXkb := known hBb (Nat.le_refl _) hXk6
      replace hsA := hsA.go hBb
      go_simp
      refine hK_ _ _ ?_
      clear hK_ K_
      refine wpAny_ready (rs := [11]) (by kernel_rfl) (by simp) ?_
      refine AllReady.cons rfl (fun K_ hK_ => ?_) ?_
      ·obtain ⟨bB, hbB⟩ : ∃ bB, (wc6).heap.size = bB := ⟨_, rfl⟩
       rw [hbB] at hXb
       have hbl : W5.heap.size ≤ bB := by rw [← hbB]; exact (hq6).size
       have f0 : Wb.cell? ⟨bB, 0, none⟩ = some (.int .i64 0) := cCc hXb 0
       have f1 : Wb.cell? ⟨bB, 1, none⟩ = some (.int .i64 0) := cCc hXb 1
       have f2 : Wb.cell? ⟨bB, 2, none⟩ = some (.slice none 0 0) := cCc hXb 2
       have f3 : Wb.cell? ⟨bB, 3, none⟩ = some (.int .i64 0) := cCc hXb 3
       have f4 : Wb.cell? ⟨bB, 4, none⟩ = some (.string ⟨#[]⟩) := cCc hXb 4
       have f5 : Wb.cell? ⟨bB, 5, none⟩ = some (.int .i64 0) := cCc hXb 5
       have f6 : Wb.cell? ⟨bB, 6, none⟩ = some (.int .i64 0) := cCc hXb 6
       have f7 : Wb.cell? ⟨bB, 7, none⟩ = some (.slice none 0 0) := cCc hXb 7
       have f8 : Wb.cell? ⟨bB, 8, none⟩ = some (.int .i64 0) := cCc hXb 8
       have f9 : Wb.cell? ⟨bB, 9, none⟩ = some (.slice none 0 0) := cCc hXb 9
       have g'0 : Wb.frozen? ⟨bB, 0, none⟩ = false := cFz hXb 0
       have g'1 : Wb.frozen? ⟨bB, 1, none⟩ = false := cFz hXb 1
       have g'2 : Wb.frozen? ⟨bB, 2, none⟩ = false := cFz hXb 2
       have g'3 : Wb.frozen? ⟨bB, 3, none⟩ = false := cFz hXb 3
       have g'4 : Wb.frozen? ⟨bB, 4, none⟩ = false := cFz hXb 4
       have g'5 : Wb.frozen? ⟨bB, 5, none⟩ = false := cFz hXb 5
       have g'6 : Wb.frozen? ⟨bB, 6, none⟩ = false := cFz hXb 6
       have g'7 : Wb.frozen? ⟨bB, 7, none⟩ = false := cFz hXb 7
       have g'8 : Wb.frozen? ⟨bB, 8, none⟩ = false := cFz hXb 8
       have g'9 : Wb.frozen? ⟨bB, 9, none⟩ = false := cFz hXb 9
       obtain ⟨V, hV, hVX, hVO, hVB⟩ := store10 (.int .i64 y.kind) (.int .i64 y.level) (.slice s.ea s.el s.ec) (.int .i64 y.hb) (.string y.hr) (.int .i64 y.cr) (.int .i64 y.cc) (.slice s.ca s.cl s.cc) (.int .i64 y.gf) (.slice s.ga s.gl s.gc) hXb
       have HO : Hid (V.heap[bB]? = some (.cells #[.int .i64 y.kind, .int .i64 y.level, .slice s.ea s.el s.ec, .int .i64 y.hb, .string y.hr, .int .i64 y.cr, .int .i64 y.cc, .slice s.ca s.cl s.cc, .int .i64 y.gf, .slice s.ga s.gl s.gc] 39 (0, 0)) ∧ s.At V.heap.size V y ∧ Below W5.heap.size W5 V) := ⟨hVX, at_apart hsA hXb (fun i u => noU_zero u) hVO, hVB _ _ (hqb) hbl⟩
       clear hVX hVO hVB
       rw [hbB]
       go_simp
       refine hK_ _ _ ?_
       clear hK_ K_
       refine wpAny_take (i := 12) (v := ?_) rfl (by kernel_rfl) (by kernel_rfl) (by kernel_rfl) (fun _ _ _ h => h) (Or.inl ⟨by rfl, ?_⟩) ?_
       rotate_left
       ·intro w; go_simp; with_reducible rfl
       refine wpAny_done (by kernel_rfl) ?_ _
       go_wp2_with fail
       go_meet
       exact ⟨bB, y, s, rfl, rfl, HYa, HO.out.1, HO.out.2.1, HO.out.2.2⟩
      exact AllReady.nil
     exact AllReady.nil
    refine AllReady.cons rfl (fun K_ hK_ => ?_) ?_
    ·obtain ⟨Wb, hWb, hXb, hBb, hsb⟩ := boxes1 (wc4) #[.int .i64 0, .int .i64 0, .slice none 0 0, .int .i64 0, .string ⟨#[]⟩, .int .i64 0, .int .i64 0, .slice none 0 0, .int .i64 0, .slice none 0 0] 39
     have hqb : Below W5.heap.size W5 Wb := (hq4).trans (hBb.mono (hq4).size)
     have hXkb := known hBb (Nat.le_refl _) hXk4
     go_simp
     refine hK_ _ _ ?_
     clear hK_ K_
     refine wpAny_ready (rs := [6]) (by kernel_rfl) (by simp) ?_
     refine AllReady.cons rfl (fun K_ hK_ => ?_) ?_
     ·go_simp
      refine (HRA.out _ (HQW.out _ (hqb))).mono ?_
      rintro e wc6 ⟨y, s, hy, rfl, hsA, hb6⟩
      have HYa := Lib.hid hy
      clear hy
      have hq6 : Below W5.heap.size W5 wc6 := (hqb).trans (hb6.mono (hqb).size)
      have hXb := known hb6 (Nat.le_refl _) hXb
      have hXk6 := known hb6 (Nat.le_refl _) hXkb
      refine hK_ _ _ ?_
      clear hK_ K_
      refine wpAny_take (i := 7) (v := ?_) rfl (by kernel_rfl) (by kernel_rfl) (by kernel_rfl) (fun _ _ _ h => h) (Or.inl ⟨by rfl, ?_⟩) ?_
      rotate_left
      ·intro w; go_simp; with_reducible rfl
      refine wpAny_take (i := 8) (v := ?_) rfl (by kernel_rfl) (by kernel_rfl) (by kernel_rfl) (fun _ _ _ h => h) (Or.inl ⟨by rfl, ?_⟩) ?_
      rotate_left
      ·intro w; go_simp; with_reducible rfl
      refine wpAny_take (i := 9) (v := ?_) rfl (by kernel_rfl) (by kernel_rfl) (by kernel_rfl) (fun _ _ _ h => h) (Or.inl ⟨by rfl, ?_⟩) ?_
      rotate_left
      ·intro w; go_simp; with_reducible rfl
      refine wpAny_ready (rs := [11]) (by kernel_rfl) (by simp) ?_
      refine AllReady.cons rfl (fun K_ hK_ => ?_) ?_
      ·obtain ⟨bB, hbB⟩ : ∃ bB, (wc4).heap.size = bB := ⟨_, rfl⟩
       rw [hbB] at hXb
       have hbl : W5.heap.size ≤ bB := by rw [← hbB]; exact (hq4).size
       have f0 : wc6.cell? ⟨bB, 0, none⟩ = some (.int .i64 0) := cCc hXb 0
       have f1 : wc6.cell? ⟨bB, 1, none⟩ = some (.int .i64 0) := cCc hXb 1
       have f2 : wc6.cell? ⟨bB, 2, none⟩ = some (.slice none 0 0) := cCc hXb 2
       have f3 : wc6.cell? ⟨bB, 3, none⟩ = some (.int .i64 0) := cCc hXb 3
       have f4 : wc6.cell? ⟨bB, 4, none⟩ = some (.string ⟨#[]⟩) := cCc hXb 4
       have f5 : wc6.cell? ⟨bB, 5, none⟩ = some (.int .i64 0) := cCc hXb 5
       have f6 : wc6.cell? ⟨bB, 6, none⟩ = some (.int .i64 0) := cCc hXb 6
       have f7 : wc6.cell? ⟨bB, 7, none⟩ = some (.slice none 0 0) := cCc hXb 7
       have f8 : wc6.cell? ⟨bB, 8, none⟩ = some (.int .i64 0) := cCc hXb 8
       have f9 : wc6.cell? ⟨bB, 9, none⟩ = some (.slice none 0 0) := cCc hXb 9
       have g'0 : wc6.frozen? ⟨bB, 0, none⟩ = false := cFz hXb 0
       have g'1 : wc6.frozen? ⟨bB, 1, none⟩ = false := cFz hXb 1
       have g'2 : wc6.frozen? ⟨bB, 2, none⟩ = false := cFz hXb 2
       have g'3 : wc6.frozen? ⟨bB, 3, none⟩ = false := cFz hXb 3
       have g'4 : wc6.frozen? ⟨bB, 4, none⟩ = false := cFz hXb 4
       have g'5 : wc6.frozen? ⟨bB, 5, none⟩ = false := cFz hXb 5
       have g'6 : wc6.frozen? ⟨bB, 6, none⟩ = false := cFz hXb 6
       have g'7 : wc6.frozen? ⟨bB, 7, none⟩ = false := cFz hXb 7
       have g'8 : wc6.frozen? ⟨bB, 8, none⟩ = false := cFz hXb 8
       have g'9 : wc6.frozen? ⟨bB, 9, none⟩ = false := cFz hXb 9
       obtain ⟨V, hV, hVX, hVO, hVB⟩ := store10 (.int .i64 y.kind) (.int .i64 y.level) (.slice s.ea s.el s.ec) (.int .i64 y.hb) (.string y.hr) (.int .i64 y.cr) (.int .i64 y.cc) (.slice s.ca s.cl s.cc) (.int .i64 y.gf) (.slice s.ga s.gl s.gc) hXb
       have HO : Hid (V.heap[bB]? = some (.cells #[.int .i64 y.kind, .int .i64 y.level, .slice s.ea s.el s.ec, .int .i64 y.hb, .string y.hr, .int .i64 y.cr, .int .i64 y.cc, .slice s.ca s.cl s.cc, .int .i64 y.gf, .slice s.ga s.gl s.gc] 39 (0, 0)) ∧ s.At V.heap.size V y ∧ Below W5.heap.size W5 V) := ⟨hVX, at_apart hsA hXb (fun i u => noU_zero u) hVO, hVB _ _ (hq6) hbl⟩
       clear hVX hVO hVB
       rw [hbB]
       go_simp
       refine hK_ _ _ ?_
       clear hK_ K_
       refine wpAny_take (i := 12) (v := ?_) rfl (by kernel_rfl) (by kernel_rfl) (by kernel_rfl) (fun _ _ _ h => h) (Or.inl ⟨by rfl, ?_⟩) ?_
       rotate_left
       ·intro w; go_simp; with_reducible rfl
       refine wpAny_done (by kernel_rfl) ?_ _
       go_wp2_with fail
       go_meet
       exact ⟨bB, y, s, rfl, rfl, HYa, HO.out.1, HO.out.2.1, HO.out.2.2⟩
      exact AllReady.nil
     exact AllReady.nil
    exact AllReady.nil
   refine AllReady.cons rfl (fun K_ hK_ => ?_) ?_
   ·obtain ⟨Wb, hWb, hXb, hBb, hsb⟩ := boxes1 (wc4) #[.int .i64 0, .int .i64 0, .slice none 0 0, .int .i64 0, .string ⟨#[]⟩, .int .i64 0, .int .i64 0, .slice none 0 0, .int .i64 0, .slice none 0 0] 39
    have hqb : Below W5.heap.size W5 Wb := (hq4).trans (hBb.mono (hq4).size)
    have hXkb := known hBb (Nat.le_refl _) hXk4
    go_simp
    refine hK_ _ _ ?_
    clear hK_ K_
    refine wpAny_ready (rs := [0]) (by kernel_rfl) (by simp) ?_
    refine AllReady.cons rfl (fun K_ hK_ => ?_) ?_
    ·skip
     have n0 : Wb.cell? ⟨w4.heap.size, 0, none⟩ = some (.int .u64 2) := cCc hXkb 0
     have n1 : Wb.cell? ⟨w4.heap.size, 1, none⟩ = some (.slice a4 l4 c4) := cCc hXkb 1
     go_simp
     refine hK_ _ _ ?_
     clear hK_ K_
     refine wpAny_ready (rs := [6]) (by kernel_rfl) (by simp) ?_
     refine AllReady.cons rfl (fun K_ hK_ => ?_) ?_
     ·go_simp
      refine (HRA.out _ (HQW.out _ (hqb))).mono ?_
      rintro e wc6 ⟨y, s, hy, rfl, hsA, hb6⟩
      have HYa := Lib.hid hy
      clear hy
      have hq6 : Below W5.heap.size W5 wc6 := (hqb).trans (hb6.mono (hqb).size)
      have hXb := known hb6 (Nat.le_refl _) hXb
      have hXk6 := known hb6 (Nat.le_refl _) hXkb
      refine hK_ _ _ ?_
      clear hK_ K_
      refine wpAny_take (i := 7) (v := ?_) rfl (by kernel_rfl) (by kernel_rfl) (by kernel_rfl) (fun _ _ _ h => h) (Or.inl ⟨by rfl, ?_⟩) ?_
      rotate_left
      ·intro w; go_simp; with_reducible rfl
      refine wpAny_take (i := 8) (v := ?_) rfl (by kernel_rfl) (by kernel_rfl) (by kernel_rfl) (fun _ _ _ h => h) (Or.inl ⟨by rfl, ?_⟩) ?_
      rotate_left
      ·intro w; go_simp; with_reducible rfl
      refine wpAny_take (i := 9) (v := ?_) rfl (by kernel_rfl) (by kernel_rfl) (by kernel_rfl) (fun _ _ _ h => h) (Or.inl ⟨by rfl, ?_⟩) ?_
      rotate_left
      ·intro w; go_simp; with_reducible rfl
      refine wpAny_ready (rs := [11]) (by kernel_rfl) (by simp) ?_
      refine AllReady.cons rfl (fun K_ hK_ => ?_) ?_
      ·obtain ⟨bB, hbB⟩ : ∃ bB, (wc4).heap.size = bB := ⟨_, rfl⟩
       rw [hbB] at hXb
       have hbl : W5.heap.size ≤ bB := by rw [← hbB]; exact (hq4).size
       have f0 : wc6.cell? ⟨bB, 0, none⟩ = some (.int .i64 0) := cCc hXb 0
       have f1 : wc6.cell? ⟨bB, 1, none⟩ = some (.int .i64 0) := cCc hXb 1
       have f2 : wc6.cell? ⟨bB, 2, none⟩ = some (.slice none 0 0) := cCc hXb 2
       have f3 : wc6.cell? ⟨bB, 3, none⟩ = some (.int .i64 0) := cCc hXb 3
       have f4 : wc6.cell? ⟨bB, 4, none⟩ = some (.string ⟨#[]⟩) := cCc hXb 4
       have f5 : wc6.cell? ⟨bB, 5, none⟩ = some (.int .i64 0) := cCc hXb 5
       have f6 : wc6.cell? ⟨bB, 6, none⟩ = some (.int .i64 0) := cCc hXb 6
       have f7 : wc6.cell? ⟨bB, 7, none⟩ = some (.slice none 0 0) := cCc hXb 7
       have f8 : wc6.cell? ⟨bB, 8, none⟩ = some (.int .i64 0) := cCc hXb 8
       have f9 : wc6.cell? ⟨bB, 9, none⟩ = some (.slice none 0 0) := cCc hXb 9
       have g'0 : wc6.frozen? ⟨bB, 0, none⟩ = false := cFz hXb 0
       have g'1 : wc6.frozen? ⟨bB, 1, none⟩ = false := cFz hXb 1
       have g'2 : wc6.frozen? ⟨bB, 2, none⟩ = false := cFz hXb 2
       have g'3 : wc6.frozen? ⟨bB, 3, none⟩ = false := cFz hXb 3
       have g'4 : wc6.frozen? ⟨bB, 4, none⟩ = false := cFz hXb 4
       have g'5 : wc6.frozen? ⟨bB, 5, none⟩ = false := cFz hXb 5
       have g'6 : wc6.frozen? ⟨bB, 6, none⟩ = false := cFz hXb 6
       have g'7 : wc6.frozen? ⟨bB, 7, none⟩ = false := cFz hXb 7
       have g'8 : wc6.frozen? ⟨bB, 8, none⟩ = false := cFz hXb 8
       have g'9 : wc6.frozen? ⟨bB, 9, none⟩ = false := cFz hXb 9
       obtain ⟨V, hV, hVX, hVO, hVB⟩ := store10 (.int .i64 y.kind) (.int .i64 y.level) (.slice s.ea s.el s.ec) (.int .i64 y.hb) (.string y.hr) (.int .i64 y.cr) (.int .i64 y.cc) (.slice s.ca s.cl s.cc) (.int .i64 y.gf) (.slice s.ga s.gl s.gc) hXb
       have HO : Hid (V.heap[bB]? = some (.cells #[.int .i64 y.kind, .int .i64 y.level, .slice s.ea s.el s.ec, .int .i64 y.hb, .string y.hr, .int .i64 y.cr, .int .i64 y.cc, .slice s.ca s.cl s.cc, .int .i64 y.gf, .slice s.ga s.gl s.gc] 39 (0, 0)) ∧ s.At V.heap.size V y ∧ Below W5.heap.size W5 V) := ⟨hVX, at_apart hsA hXb (fun i u => noU_zero u) hVO, hVB _ _ (hq6) hbl⟩
       clear hVX hVO hVB
       rw [hbB]
       go_simp
       refine hK_ _ _ ?_
       clear hK_ K_
       refine wpAny_take (i := 12) (v := ?_) rfl (by kernel_rfl) (by kernel_rfl) (by kernel_rfl) (fun _ _ _ h => h) (Or.inl ⟨by rfl, ?_⟩) ?_
       rotate_left
       ·intro w; go_simp; with_reducible rfl
       refine wpAny_done (by kernel_rfl) ?_ _
       go_wp2_with fail
       go_meet
       exact ⟨bB, y, s, rfl, rfl, HYa, HO.out.1, HO.out.2.1, HO.out.2.2⟩
      exact AllReady.nil
     exact AllReady.nil
    exact AllReady.nil
   exact AllReady.nil
  refine AllReady.cons rfl (fun K_ hK_ => ?_) ?_
  ·obtain ⟨Wb, hWb, hXb, hBb, hsb⟩ := boxes1 (W5.drew) #[.int .i64 0, .int .i64 0, .slice none 0 0, .int .i64 0, .string ⟨#[]⟩, .int .i64 0, .int .i64 0, .slice none 0 0, .int .i64 0, .slice none 0 0] 39
   have hqb : Below W5.heap.size W5 Wb := ((Below.refl W5.heap.size W5).drew).trans (hBb.mono ((Below.refl W5.heap.size W5).drew).size)
   have hXkb := known hBb (Nat.le_refl _) hXk0
   go_simp
   refine hK_ _ _ ?_
   clear hK_ K_
   refine wpAny_ready (rs := [0, 4]) (by kernel_rfl) (by simp) ?_
   refine AllReady.cons rfl (fun K_ hK_ => ?_) ?_
   ·skip
    have n0 : Wb.cell? ⟨w4.heap.size, 0, none⟩ = some (.int .u64 2) := cCc hXkb 0
    have n1 : Wb.cell? ⟨w4.heap.size, 1, none⟩ = some (.slice a4 l4 c4) := cCc hXkb 1
    go_simp
    refine hK_ _ _ ?_
    clear hK_ K_
    refine wpAny_ready (rs := [4]) (by kernel_rfl) (by simp) ?_
    refine AllReady.cons rfl (fun K_ hK_ => ?_) ?_
    ·go_simp
     refine (cut_any sc _).mono ?_
     rintro e wc4 ⟨rfl, hb4⟩
     have hq4 : Below W5.heap.size W5 wc4 := (hqb).trans (hb4.mono (hqb).size)
     have hXb := known hb4 (Nat.le_refl _) hXb
     have hXk4 := known hb4 (Nat.le_refl _) hXkb
     refine hK_ _ _ ?_
     clear hK_ K_
     refine wpAny_ready (rs := [6]) (by kernel_rfl) (by simp) ?_
     refine AllReady.cons rfl (fun K_ hK_ => ?_) ?_
     ·go_simp
      refine (HRA.out _ (HQW.out _ (hq4))).mono ?_
      rintro e wc6 ⟨y, s, hy, rfl, hsA, hb6⟩
      have HYa := Lib.hid hy
      clear hy
      have hq6 : Below W5.heap.size W5 wc6 := (hq4).trans (hb6.mono (hq4).size)
      have hXb := known hb6 (Nat.le_refl _) hXb
      have hXk6 := known hb6 (Nat.le_refl _) hXk4
      refine hK_ _ _ ?_
      clear hK_ K_
      refine wpAny_take (i := 7) (v := ?_) rfl (by kernel_rfl) (by kernel_rfl) (by kernel_rfl) (fun _ _ _ h => h) (Or.inl ⟨by rfl, ?_⟩) ?_
      rotate_left
      ·intro w; go_simp; with_reducible rfl
      refine wpAny_take (i := 8) (v := ?_) rfl (by kernel_rfl) (by kernel_rfl) (by kernel_rfl) (fun _ _ _ h => h) (Or.inl ⟨by rfl, ?_⟩) ?_
      rotate_left
      ·intro w; go_simp; with_reducible rfl
      refine wpAny_take (i := 9) (v := ?_) rfl (by kernel_rfl) (by kernel_rfl) (by kernel_rfl) (fun _ _ _ h => h) (Or.inl ⟨by rfl, ?_⟩) ?_
      rotate_left
      ·intro w; go_simp; with_reducible rfl
      refine wpAny_ready (rs := [11]) (by kernel_rfl) (by simp) ?_
      refine AllReady.cons rfl (fun K_ hK_ => ?_) ?_
      ·obtain ⟨bB, hbB⟩ : ∃ bB, (W5.drew).heap.size = bB := ⟨_, rfl⟩
       rw [hbB] at hXb
       have hbl : W5.heap.size ≤ bB := by rw [← hbB]; exact ((Below.refl W5.heap.size W5).drew).size
       have f0 : wc6.cell? ⟨bB, 0, none⟩ = some (.int .i64 0) := cCc hXb 0
       have f1 : wc6.cell? ⟨bB, 1, none⟩ = some (.int .i64 0) := cCc hXb 1
       have f2 : wc6.cell? ⟨bB, 2, none⟩ = some (.slice none 0 0) := cCc hXb 2
       have f3 : wc6.cell? ⟨bB, 3, none⟩ = some (.int .i64 0) := cCc hXb 3
       have f4 : wc6.cell? ⟨bB, 4, none⟩ = some (.string ⟨#[]⟩) := cCc hXb 4
       have f5 : wc6.cell? ⟨bB, 5, none⟩ = some (.int .i64 0) := cCc hXb 5
       have f6 : wc6.cell? ⟨bB, 6, none⟩ = some (.int .i64 0) := cCc hXb 6
       have f7 : wc6.cell? ⟨bB, 7, none⟩ = some (.slice none 0 0) := cCc hXb 7
       have f8 : wc6.cell? ⟨bB, 8, none⟩ = some (.int .i64 0) := cCc hXb 8
       have f9 : wc6.cell? ⟨bB, 9, none⟩ = some (.slice none 0 0) := cCc hXb 9
       have g'0 : wc6.frozen? ⟨bB, 0, none⟩ = false := cFz hXb 0
       have g'1 : wc6.frozen? ⟨bB, 1, none⟩ = false := cFz hXb 1
       have g'2 : wc6.frozen? ⟨bB, 2, none⟩ = false := cFz hXb 2
       have g'3 : wc6.frozen? ⟨bB, 3, none⟩ = false := cFz hXb 3
       have g'4 : wc6.frozen? ⟨bB, 4, none⟩ = false := cFz hXb 4
       have g'5 : wc6.frozen? ⟨bB, 5, none⟩ = false := cFz hXb 5
       have g'6 : wc6.frozen? ⟨bB, 6, none⟩ = false := cFz hXb 6
       have g'7 : wc6.frozen? ⟨bB, 7, none⟩ = false := cFz hXb 7
       have g'8 : wc6.frozen? ⟨bB, 8, none⟩ = false := cFz hXb 8
       have g'9 : wc6.frozen? ⟨bB, 9, none⟩ = false := cFz hXb 9
       obtain ⟨V, hV, hVX, hVO, hVB⟩ := store10 (.int .i64 y.kind) (.int .i64 y.level) (.slice s.ea s.el s.ec) (.int .i64 y.hb) (.string y.hr) (.int .i64 y.cr) (.int .i64 y.cc) (.slice s.ca s.cl s.cc) (.int .i64 y.gf) (.slice s.ga s.gl s.gc) hXb
       have HO : Hid (V.heap[bB]? = some (.cells #[.int .i64 y.kind, .int .i64 y.level, .slice s.ea s.el s.ec, .int .i64 y.hb, .string y.hr, .int .i64 y.cr, .int .i64 y.cc, .slice s.ca s.cl s.cc, .int .i64 y.gf, .slice s.ga s.gl s.gc] 39 (0, 0)) ∧ s.At V.heap.size V y ∧ Below W5.heap.size W5 V) := ⟨hVX, at_apart hsA hXb (fun i u => noU_zero u) hVO, hVB _ _ (hq6) hbl⟩
       clear hVX hVO hVB
       first | rw [hbB] | rw [show W5.heap.size = bB from hbB] | rw [show w4.heap.size + 1 = bB by rw [← hbB]; exact hs5.symm]
       go_simp
       refine hK_ _ _ ?_
       clear hK_ K_
       refine wpAny_take (i := 12) (v := ?_) rfl (by kernel_rfl) (by kernel_rfl) (by kernel_rfl) (fun _ _ _ h => h) (Or.inl ⟨by rfl, ?_⟩) ?_
       rotate_left
       ·intro w; go_simp; with_reducible rfl
       refine wpAny_done (by kernel_rfl) ?_ _
       go_wp2_with fail
       go_meet
       exact ⟨bB, y, s, rfl, rfl, HYa, HO.out.1, HO.out.2.1, HO.out.2.2⟩
      exact AllReady.nil
     exact AllReady.nil
    exact AllReady.nil
   refine AllReady.cons rfl (fun K_ hK_ => ?_) ?_
   ·go_simp
    refine (cut_any sc _).mono ?_
    rintro e wc4 ⟨rfl, hb4⟩
    have hq4 : Below W5.heap.size W5 wc4 := (hqb).trans (hb4.mono (hqb).size)
    have hXb := known hb4 (Nat.le_refl _) hXb
    have hXk4 := known hb4 (Nat.le_refl _) hXkb
    refine hK_ _ _ ?_
    clear hK_ K_
    refine wpAny_ready (rs := [0]) (by kernel_rfl) (by simp) ?_
    refine AllReady.cons rfl (fun K_ hK_ => ?_) ?_
    ·skip
     have n0 : wc4.cell? ⟨w4.heap.size, 0, none⟩ = some (.int .u64 2) := cCc hXk4 0
     have n1 : wc4.cell? ⟨w4.heap.size, 1, none⟩ = some (.slice a4 l4 c4) := cCc hXk4 1
     go_simp
     refine hK_ _ _ ?_
     clear hK_ K_
     refine wpAny_ready (rs := [6]) (by kernel_rfl) (by simp) ?_
     refine AllReady.cons rfl (fun K_ hK_ => ?_) ?_
     ·go_simp
      refine (HRA.out _ (HQW.out _ (hq4))).mono ?_
      rintro e wc6 ⟨y, s, hy, rfl, hsA, hb6⟩
      have HYa := Lib.hid hy
      clear hy
      have hq6 : Below W5.heap.size W5 wc6 := (hq4).trans (hb6.mono (hq4).size)
      have hXb := known hb6 (Nat.le_refl _) hXb
      have hXk6 := known hb6 (Nat.le_refl _) hXk4
      refine hK_ _ _ ?_
      clear hK_ K_
      refine wpAny_take (i := 7) (v := ?_) rfl (by kernel_rfl) (by kernel_rfl) (by kernel_rfl) (fun _ _ _ h => h) (Or.inl ⟨by rfl, ?_⟩) ?_
      rotate_left
      ·intro w; go_simp; with_reducible rfl
      refine wpAny_take (i := 8) (v := ?_) rfl (by kernel_rfl) (by kernel_rfl) (by kernel_rfl) (fun _ _ _ h => h) (Or.inl ⟨by rfl, ?_⟩) ?_
      rotate_left
      ·intro w; go_simp; with_reducible rfl
      refine wpAny_take (i := 9) (v := ?_) rfl (by kernel_rfl) (by kernel_rfl) (by kernel_rfl) (fun _ _ _ h => h) (Or.inl ⟨by rfl, ?_⟩) ?_
      rotate_left
      ·intro w; go_simp; with_reducible rfl
      refine wpAny_ready (rs := [11]) (by kernel_rfl) (by simp) ?_
      refine AllReady.cons rfl (fun K_ hK_ => ?_) ?_
      ·obtain ⟨bB, hbB⟩ : ∃ bB, (W5.drew).heap.size = bB := ⟨_, rfl⟩
       rw [hbB] at hXb
       have hbl : W5.heap.size ≤ bB := by rw [← hbB]; exact ((Below.refl W5.heap.size W5).drew).size
       have f0 : wc6.cell? ⟨bB, 0, none⟩ = some (.int .i64 0) := cCc hXb 0
       have f1 : wc6.cell? ⟨bB, 1, none⟩ = some (.int .i64 0) := cCc hXb 1
       have f2 : wc6.cell? ⟨bB, 2, none⟩ = some (.slice none 0 0) := cCc hXb 2
       have f3 : wc6.cell? ⟨bB, 3, none⟩ = some (.int .i64 0) := cCc hXb 3
       have f4 : wc6.cell? ⟨bB, 4, none⟩ = some (.string ⟨#[]⟩) := cCc hXb 4
       have f5 : wc6.cell? ⟨bB, 5, none⟩ = some (.int .i64 0) := cCc hXb 5
       have f6 : wc6.cell? ⟨bB, 6, none⟩ = some (.int .i64 0) := cCc hXb 6
       have f7 : wc6.cell? ⟨bB, 7, none⟩ = some (.slice none 0 0) := cCc hXb 7
       have f8 : wc6.cell? ⟨bB, 8, none⟩ = some (.int .i64 0) := cCc hXb 8
       have f9 : wc6.cell? ⟨bB, 9, none⟩ = some (.slice none 0 0) := cCc hXb 9
       have g'0 : wc6.frozen? ⟨bB, 0, none⟩ = false := cFz hXb 0
       have g'1 : wc6.frozen? ⟨bB, 1, none⟩ = false := cFz hXb 1
       have g'2 : wc6.frozen? ⟨bB, 2, none⟩ = false := cFz hXb 2
       have g'3 : wc6.frozen? ⟨bB, 3, none⟩ = false := cFz hXb 3
       have g'4 : wc6.frozen? ⟨bB, 4, none⟩ = false := cFz hXb 4
       have g'5 : wc6.frozen? ⟨bB, 5, none⟩ = false := cFz hXb 5
       have g'6 : wc6.frozen? ⟨bB, 6, none⟩ = false := cFz hXb 6
       have g'7 : wc6.frozen? ⟨bB, 7, none⟩ = false := cFz hXb 7
       have g'8 : wc6.frozen? ⟨bB, 8, none⟩ = false := cFz hXb 8
       have g'9 : wc6.frozen? ⟨bB, 9, none⟩ = false := cFz hXb 9
       obtain ⟨V, hV, hVX, hVO, hVB⟩ := store10 (.int .i64 y.kind) (.int .i64 y.level) (.slice s.ea s.el s.ec) (.int .i64 y.hb) (.string y.hr) (.int .i64 y.cr) (.int .i64 y.cc) (.slice s.ca s.cl s.cc) (.int .i64 y.gf) (.slice s.ga s.gl s.gc) hXb
       have HO : Hid (V.heap[bB]? = some (.cells #[.int .i64 y.kind, .int .i64 y.level, .slice s.ea s.el s.ec, .int .i64 y.hb, .string y.hr, .int .i64 y.cr, .int .i64 y.cc, .slice s.ca s.cl s.cc, .int .i64 y.gf, .slice s.ga s.gl s.gc] 39 (0, 0)) ∧ s.At V.heap.size V y ∧ Below W5.heap.size W5 V) := ⟨hVX, at_apart hsA hXb (fun i u => noU_zero u) hVO, hVB _ _ (hq6) hbl⟩
       clear hVX hVO hVB
       first | rw [hbB] | rw [show W5.heap.size = bB from hbB] | rw [show w4.heap.size + 1 = bB by rw [← hbB]; exact hs5.symm]
       go_simp
       refine hK_ _ _ ?_
       clear hK_ K_
       refine wpAny_take (i := 12) (v := ?_) rfl (by kernel_rfl) (by kernel_rfl) (by kernel_rfl) (fun _ _ _ h => h) (Or.inl ⟨by rfl, ?_⟩) ?_
       rotate_left
       ·intro w; go_simp; with_reducible rfl
       refine wpAny_done (by kernel_rfl) ?_ _
       go_wp2_with fail
       go_meet
       exact ⟨bB, y, s, rfl, rfl, HYa, HO.out.1, HO.out.2.1, HO.out.2.2⟩
      exact AllReady.nil
     exact AllReady.nil
    exact AllReady.nil
   exact AllReady.nil
  exact AllReady.nil
 case rest =>
  obtain ⟨w6, hw6⟩ : ∃ w6, w6 = wc := ⟨_, rfl⟩
  subst hw6
  obtain ⟨b2, y2, s2, rfl, rfl, HY2, HX6, HA6, HB6⟩ := hcut
  rw [HER.out]
  go_wp2_with (go_at_call 18; refine (cut_any sc _).mono ?_; rintro e w7 ⟨rfl, hb7⟩)
  have hb57 := HB6.out.trans (hb7.mono HB6.out.size)
  refine (HMA.out w7 hb57).mono ?_
  rintro e w8 ⟨y3, s3, hy3, rfl, hA3, hb8⟩
  rw [HER.out]
  obtain ⟨W9, hW9, hX9, hB9, hs9⟩ := boxes1 w8 #[.int .i64 y3.kind, .int .i64 y3.level, .slice s3.ea s3.el s3.ec, .int .i64 y3.hb, .string y3.hr, .int .i64 y3.cr, .int .i64 y3.cc, .slice s3.ca s3.cl s3.cc, .int .i64 y3.gf, .slice s3.ga s3.gl s3.gc] 39
  have hb69 : Below w6.heap.size w6 W9 := hb7.trans ((hb8.trans (hB9.mono hb8.size)).mono hb7.size)
  have HX2 := Lib.hid (known hb69 (Nat.le_refl _) HX6.out)
  have HA2 := Lib.hid (HA6.out.go hb69)
  have HY3 := Lib.hid hy3
  have HX3 := Lib.hid hX9
  have HA3 := Lib.hid (hA3.go hB9)
  have HB9 : Hid (Below W5.heap.size W5 W9) := HB6.out.trans (hb69.mono HB6.out.size)
  clear hb57 hb7 hb8 hB9 hy3 hA3 hX9 hb69 HX6 HA6 HB6
  go_wp2_with (first
   | (go_at_call 16; refine (grant_New_any _).mono ?_; rintro e w10 ⟨rfl, hb10⟩)
   | (go_at_call 18; refine (cut_any sc _).mono ?_; rintro e w11 ⟨rfl, hb11⟩))
  have hb511 := HB9.out.trans ((hb10.trans (hb11.mono hb10.size)).mono HB9.out.size)
  have hb911 := hb10.trans (hb11.mono hb10.size)
  refine (HRN.out w11 hb511).mono ?_
  rintro e w12 ⟨y4, s4, hy4, rfl, hA4, hb12⟩
  rw [HER.out]
  obtain ⟨W13, hW13, hX13, hB13, hs13⟩ := boxes1 w12 #[.int .i64 y4.kind, .int .i64 y4.level, .slice s4.ea s4.el s4.ec, .int .i64 y4.hb, .string y4.hr, .int .i64 y4.cr, .int .i64 y4.cc, .slice s4.ca s4.cl s4.cc, .int .i64 y4.gf, .slice s4.ga s4.gl s4.gc] 39
  have hb913 : Below W9.heap.size W9 W13 := hb911.trans ((hb12.trans (hB13.mono hb12.size)).mono hb911.size)
  replace HX2 := Lib.hid (known hb913 (Nat.le_refl _) HX2.out)
  replace HX3 := Lib.hid (known hb913 (Nat.le_refl _) HX3.out)
  replace HA2 := Lib.hid (HA2.out.go hb913)
  replace HA3 := Lib.hid (HA3.out.go hb913)
  have HX4 := Lib.hid hX13
  have HA4 := Lib.hid (hA4.go hB13)
  have HY4 := Lib.hid hy4
  replace HB9 : Hid (Below W5.heap.size W5 W13) := HB9.out.trans (hb913.mono HB9.out.size)
  clear hb511 hb911 hb10 hb11 hb12 hB13 hy4 hA4 hX13 hb913
  go_wp2_with fail
  refine (HMN.out W13 HB9.out).mono ?_
  rintro e w14 ⟨y5, s5, hy5, rfl, hA5, hb14⟩
  obtain ⟨W15, hW15, hX15, hB15, hs15⟩ := boxes1 w14 #[.int .i64 y5.kind, .int .i64 y5.level, .slice s5.ea s5.el s5.ec, .int .i64 y5.hb, .string y5.hr, .int .i64 y5.cr, .int .i64 y5.cc, .slice s5.ca s5.cl s5.cc, .int .i64 y5.gf, .slice s5.ga s5.gl s5.gc] 39
  have hb1315 : Below W13.heap.size W13 W15 := hb14.trans (hB15.mono hb14.size)
  have hx2 := known hb1315 (Nat.le_refl _) HX2.out
  have hx3 := known hb1315 (Nat.le_refl _) HX3.out
  replace HX4 := Lib.hid (known hb1315 (Nat.le_refl _) HX4.out)
  have HX5' := Lib.hid hX15
  have HSa := Lib.hid (Same_at (w := W15) (HY3.out.trans HY2.out.symm) (HA2.out.go hb1315) (HA3.out.go hb1315))
  replace HA4 := Lib.hid (HA4.out.go hb1315)
  have HA5 := Lib.hid (hA5.go hB15)
  have HY5 := Lib.hid hy5
  replace HB9 : Hid (Below w.heap.size w W15) := HB5.out.trans ((HB9.out.trans (hb1315.mono HB9.out.size)).mono HB5.out.size)
  have p0 : W15.cell? ⟨b2, 0, none⟩ = some (.int .i64 y2.kind) := cCc hx2 0
  have p1 : W15.cell? ⟨b2, 1, none⟩ = some (.int .i64 y2.level) := cCc hx2 1
  have p2 : W15.cell? ⟨b2, 2, none⟩ = some (.slice s2.ea s2.el s2.ec) := cCc hx2 2
  have p3 : W15.cell? ⟨b2, 3, none⟩ = some (.int .i64 y2.hb) := cCc hx2 3
  have p4 : W15.cell? ⟨b2, 4, none⟩ = some (.string y2.hr) := cCc hx2 4
  have p5 : W15.cell? ⟨b2, 5, none⟩ = some (.int .i64 y2.cr) := cCc hx2 5
  have p6 : W15.cell? ⟨b2, 6, none⟩ = some (.int .i64 y2.cc) := cCc hx2 6
  have p7 : W15.cell? ⟨b2, 7, none⟩ = some (.slice s2.ca s2.cl s2.cc) := cCc hx2 7
  have p8 : W15.cell? ⟨b2, 8, none⟩ = some (.int .i64 y2.gf) := cCc hx2 8
  have p9 : W15.cell? ⟨b2, 9, none⟩ = some (.slice s2.ga s2.gl s2.gc) := cCc hx2 9
  have r0 : W15.cell? ⟨w8.heap.size, 0, none⟩ = some (.int .i64 y3.kind) := cCc hx3 0
  have r1 : W15.cell? ⟨w8.heap.size, 1, none⟩ = some (.int .i64 y3.level) := cCc hx3 1
  have r2 : W15.cell? ⟨w8.heap.size, 2, none⟩ = some (.slice s3.ea s3.el s3.ec) := cCc hx3 2
  have r3 : W15.cell? ⟨w8.heap.size, 3, none⟩ = some (.int .i64 y3.hb) := cCc hx3 3
  have r4 : W15.cell? ⟨w8.heap.size, 4, none⟩ = some (.string y3.hr) := cCc hx3 4
  have r5 : W15.cell? ⟨w8.heap.size, 5, none⟩ = some (.int .i64 y3.cr) := cCc hx3 5
  have r6 : W15.cell? ⟨w8.heap.size, 6, none⟩ = some (.int .i64 y3.cc) := cCc hx3 6
  have r7 : W15.cell? ⟨w8.heap.size, 7, none⟩ = some (.slice s3.ca s3.cl s3.cc) := cCc hx3 7
  have r8 : W15.cell? ⟨w8.heap.size, 8, none⟩ = some (.int .i64 y3.gf) := cCc hx3 8
  have r9 : W15.cell? ⟨w8.heap.size, 9, none⟩ = some (.slice s3.ga s3.gl s3.gc) := cCc hx3 9
  obtain ⟨ei, hei⟩ : ∃ ei, sumE 0 n2 = ei := ⟨_, rfl⟩
  rw [hei]
  have HEI := Lib.hid hei
  clear hx2 hx3 hb1315 hb14 hB15 hy5 hA5 hX15 hei
  go_wp2_with fail
  refine HSa.out.mono ?_
  rintro e w16 ⟨rfl, hb16⟩
  clear p0 p1 p2 p3 p4 p5 p6 p7 p8 p9 r0 r1 r2 r3 r4 r5 r6 r7 r8 r9
  have HB16 : Hid (Below w.heap.size w w16) := HB9.out.trans (hb16.mono HB9.out.size)
  by_cases h0 : er = 0
  case neg =>
   have t1 : (er != 0) = true := by rw [bne_iff_ne]; exact h0
   go_wp2_with fail
   go_ret
   exact ⟨rfl, HB16.out⟩
  subst h0
  obtain ⟨hE0, k, hk1, hk⟩ := sumE_0 HER.out
  have hei0 : ei = 0 := by rw [← HEI.out, hk1]; exact (sumSk_ok (S := []) hk).1
  subst hei0
  have h45 : y5 = y4 := by rw [HY5.out, HY4.out, hE0]
  have HSb := Lib.hid (Same_at (w := w16) h45 (HA4.out.go hb16) (HA5.out.go hb16))
  have hx4 := known hb16 (Nat.le_refl _) HX4.out
  have hx5 := known hb16 (Nat.le_refl _) HX5'.out
  have p0 : w16.cell? ⟨w12.heap.size, 0, none⟩ = some (.int .i64 y4.kind) := cCc hx4 0
  have p1 : w16.cell? ⟨w12.heap.size, 1, none⟩ = some (.int .i64 y4.level) := cCc hx4 1
  have p2 : w16.cell? ⟨w12.heap.size, 2, none⟩ = some (.slice s4.ea s4.el s4.ec) := cCc hx4 2
  have p3 : w16.cell? ⟨w12.heap.size, 3, none⟩ = some (.int .i64 y4.hb) := cCc hx4 3
  have p4 : w16.cell? ⟨w12.heap.size, 4, none⟩ = some (.string y4.hr) := cCc hx4 4
  have p5 : w16.cell? ⟨w12.heap.size, 5, none⟩ = some (.int .i64 y4.cr) := cCc hx4 5
  have p6 : w16.cell? ⟨w12.heap.size, 6, none⟩ = some (.int .i64 y4.cc) := cCc hx4 6
  have p7 : w16.cell? ⟨w12.heap.size, 7, none⟩ = some (.slice s4.ca s4.cl s4.cc) := cCc hx4 7
  have p8 : w16.cell? ⟨w12.heap.size, 8, none⟩ = some (.int .i64 y4.gf) := cCc hx4 8
  have p9 : w16.cell? ⟨w12.heap.size, 9, none⟩ = some (.slice s4.ga s4.gl s4.gc) := cCc hx4 9
  have r0 : w16.cell? ⟨w14.heap.size, 0, none⟩ = some (.int .i64 y5.kind) := cCc hx5 0
  have r1 : w16.cell? ⟨w14.heap.size, 1, none⟩ = some (.int .i64 y5.level) := cCc hx5 1
  have r2 : w16.cell? ⟨w14.heap.size, 2, none⟩ = some (.slice s5.ea s5.el s5.ec) := cCc hx5 2
  have r3 : w16.cell? ⟨w14.heap.size, 3, none⟩ = some (.int .i64 y5.hb) := cCc hx5 3
  have r4 : w16.cell? ⟨w14.heap.size, 4, none⟩ = some (.string y5.hr) := cCc hx5 4
  have r5 : w16.cell? ⟨w14.heap.size, 5, none⟩ = some (.int .i64 y5.cr) := cCc hx5 5
  have r6 : w16.cell? ⟨w14.heap.size, 6, none⟩ = some (.int .i64 y5.cc) := cCc hx5 6
  have r7 : w16.cell? ⟨w14.heap.size, 7, none⟩ = some (.slice s5.ca s5.cl s5.cc) := cCc hx5 7
  have r8 : w16.cell? ⟨w14.heap.size, 8, none⟩ = some (.int .i64 y5.gf) := cCc hx5 8
  have r9 : w16.cell? ⟨w14.heap.size, 9, none⟩ = some (.slice s5.ga s5.gl s5.gc) := cCc hx5 9
  clear hx4 hx5 h45 hE0 hk1 hk hb16
  go_wp2_with fail
  refine HSb.out.mono ?_
  rintro e w17 ⟨rfl, hb17⟩
  go_wp2_with fail
  go_ret
  exact ⟨rfl, HB16.out.trans (hb17.mono HB16.out.size)⟩
end Go.Proofs.YthbhmnakmhambaaGreatDoor

/- aviarylaw15.GrantMore: the walk. -/
import Derived.Test.YtohfemdjkdjeeaaDoorD0
import Derived.Test.YtohfemdjkdjeeaaDoorE1
import Derived.Deep.RegionHeld3
import Derived.StillTactics
import Derived.Deep.QuietTactic
import Derived.Deep.Cut
import Derived.Deep.CutRange
import Derived.Deep.DeepCutAuto
namespace Go.Proofs.YtohfemdjkdjeeaaDoor
open Go Go.RowKit Go.Shelf

set_option maxRecDepth 100000 in
set_option maxHeartbeats 4000000 in
theorem more_any (next : Int) (l : List RGr) (a : Option Addr) (len cap : Nat) (tn other : Int) (s : ByteArray) (ll : List Lab) (b0 : Option Addr) (blen bcap : Nat) (w : World) (hL : RGrs w.heap.size w (.slice a len cap) l) (hLL : Labs w.heap.size w (.slice b0 blen bcap) ll) (hG : GW w) (hu : U64 next) :
    Calls Tryd.prog 4 #[.agg #[.int .u64 next, .slice a len cap], .int .u64 tn, .int .u64 other, .string s, .slice b0 blen bcap] w fun e w' => e = .returned (.bool true) ∧ Below w.heap.size w w' := by
  have hFg : ∀ W, RGrs W.heap.size W (.slice a len cap) l → _ := fun W h => few15_any next l a len cap W h
  have hFl : ∀ W, Labs W.heap.size W (.slice b0 blen bcap) ll → _ := fun W h => few04_any ll b0 blen bcap W h
  have hgn : (few15 next l).next = next := rfl
  generalize few15 next l = g at hFg hgn ⊢
  have hls : (few04 ll).length < 4294967281 := by simp [few04]; omega
  generalize few04 ll = ls at hFl hls ⊢
  subst hgn
  have HFg := Lib.hid hFg
  have HFl := Lib.hid hFl
  clear hFg hFl
  generalize hsk : cutK 200 (by decide) s = sk
  have HSK : Hid (cutN 200 s = sk.1) := by rw [Hid, ← hsk]; rfl
  clear hsk
  obtain ⟨W0, hW0⟩ : ∃ W0, w.alloc (.cells #[.int .u64 g.next, .slice a len cap] 25) = W0 := ⟨_, rfl⟩
  have hB0 : Below w.heap.size w W0 := by rw [← hW0]; exact (Below.refl _ w).alloc (Nat.le_refl _) _
  have hX0 : W0.heap[w.heap.size]? = some (.cells #[.int .u64 g.next, .slice a len cap] 25 (0, 0)) := by rw [← hW0]; exact World.alloc_heap_new w _
  have hsh := shown15_any W0 (hG.below hB0)
  go_enter Tryd.func4, Tryd.ntmps4
  go_wp2_with fail
  refine hsh.mono ?_
  rintro e w1 ⟨rfl, hb1⟩
  clear hW0 hsh
  have hX1 := (hb1.block _ (Array.getElem?_eq_some_iff.1 hX0).1).trans hX0
  have hB1 : Below w.heap.size w w1 := hB0.trans (hb1.mono hB0.size)
  have c0 := cell_of_cells hX1 0
  have c1 := cell_of_cells hX1 1
  simp at c0 c1
  have hF := HFg.out w1 ((SlAt.below hB1 hL).mono hB1.size)
  clear hX0 hB0 hb1
  go_wp2_with fail
  refine hF.mono ?_
  rintro e w2 ⟨v2, rfl, ⟨a1, l1, cc1, rfl, hg2, hlo2⟩, hb2⟩
  have hX2 := (hb2.block _ (Array.getElem?_eq_some_iff.1 hX1).1).trans hX1
  have hB2 : Below w.heap.size w w2 := hB1.trans (hb2.mono hB1.size)
  have hlo : w.heap.size < w1.heap.size := (Array.getElem?_eq_some_iff.1 hX1).1
  clear hF c0 c1
  have d0 := cell_of_cells hX2 0
  have d1 := cell_of_cells hX2 1
  have d2 := frozen_of_cells hX2 0
  have d3 := frozen_of_cells hX2 1
  simp at d0 d1
  obtain ⟨W3, hW3⟩ : ∃ W3, (w2.setCell ⟨w.heap.size, 0, none⟩ (.int .u64 g.next)).setCell ⟨w.heap.size, 1, none⟩ (.slice a1 l1 cc1) = W3 := ⟨_, rfl⟩
  have hX3 : W3.heap[w.heap.size]? = some (.cells #[.int .u64 g.next, .slice a1 l1 cc1] 25 (0, 0)) := by rw [← hW3]; exact set_cells2 hX2
  have hB3 : Below w.heap.size w W3 := by rw [← hW3]; exact (hB2.setCell (p := ⟨w.heap.size, 0, none⟩) (Nat.le_refl _) _).setCell (p := ⟨w.heap.size, 1, none⟩) (Nat.le_refl _) _
  have hz3 : W3.heap.size = w2.heap.size := by rw [← hW3]; simp [World.setCell]
  have hne : ∀ x, a1 = some x → w.heap.size ≠ x.block := fun x h => by have := hlo2 x h; omega
  have hg3 : Grs W3.heap.size W3 (.slice a1 l1 cc1) g.l := by rw [hz3, ← hW3]; exact slAt_far2 (p := ⟨w.heap.size, 1, none⟩) hne _ (slAt_far2 (p := ⟨w.heap.size, 0, none⟩) hne _ hg2)
  have hF4 := HFl.out W3 ((SlAt.below hB3 hLL).mono hB3.size)
  clear hz3
  go_wp2_with fail
  refine hF4.mono ?_
  rintro e w4 ⟨a0, lc, rfl, hl4, hb4⟩
  have hH4 : HeadAt w g a1 l1 cc1 ls a0 lc w4 := ⟨hB3.trans (hb4.mono hB3.size), (hb4.block _ (Array.getElem?_eq_some_iff.1 hX3).1).trans hX3, (SlAt.below hb4 hg3).mono hb4.size, hl4⟩
  clear hW3 hF4 hX3 hB3 hne hg3 hb4 hl4 d0 d1 d2 d3 hX2 hB2 hlo hlo2 hb2 hg2 hX1 hB1 hL hLL HFg HFl
  go_wp2_with fail
  have hGW : ∀ W, Below w4.heap.size w4 W → GW W := fun W h => hG.below (hH4.go h).below
  have HGW := Lib.hid hGW
  have hgr : ∀ W, Below w4.heap.size w4 W → Grs W.heap.size W (.slice a1 l1 cc1) g.l := fun W h => (hH4.go h).grs
  have HGR := Lib.hid hgr
  have hkp : ∀ W, Below w4.heap.size w4 W → W.cell? ⟨w.heap.size, 0, none⟩ = some (.int .u64 g.next) ∧ W.cell? ⟨w.heap.size, 1, none⟩ = some (.slice a1 l1 cc1) ∧ Below w4.heap.size w4 W := fun W h => by
    have hb := (hH4.go h).box
    have c0 := cell_of_cells hb 0
    have c1 := cell_of_cells hb 1
    simp at c0 c1
    exact ⟨c0, c1, h⟩
  have HKP := Lib.hid hkp
  obtain ⟨q0, q1, qB⟩ := hkp w4 (Below.refl _ _)
  clear hGW hgr hkp
  go_cut [12, 13, 14] (fun s12 s13 s14 wx => ∃ b12, s12 = .pointer (some ⟨b12, 0, none⟩) ∧ s13 = .int .u64 (issueS g tn sk).2.1 ∧ s14 = .int .i64 (issueS g tn sk).2.2 ∧ Below w4.heap.size w4 wx ∧ GBox wx b12 (issueS g tn sk).1)
  case first =>
    have hz4 : w.heap.size < w4.heap.size := (Array.getElem?_eq_some_iff.1 hH4.box).1
    go_region_held3 (fun w' => w'.cell? ⟨w.heap.size, 0, none⟩ = some (.int .u64 g.next) ∧ w'.cell? ⟨w.heap.size, 1, none⟩ = some (.slice a1 l1 cc1) ∧ Below w4.heap.size w4 w')
      (first
        | exact HKP.out _ qB.drew
        | (go_split_ands; refine HKP.out _ ?_; first | exact Below.trans (by assumption) (Below.mono (by assumption) (Below.size (by assumption))) | exact Below.alloc (by assumption) (Below.size (by assumption)) _ | exact Below.drew (by assumption))
        | exact HKP.out _ (Below.alloc hq6 hq6.size _)
        | exact HKP.out _ (Below.setCell (Below.setCell hq6 (p := ⟨_, 0, none⟩) (by first | exact Nat.le_refl _ | exact hqc.size) _) (p := ⟨_, 1, none⟩) (by first | exact Nat.le_refl _ | exact hqc.size) _)
        | go_keep)
      (first
        | (go_at_call 9; refine (cut_any s _).mono ?_; rintro e wc ⟨rfl, hbc⟩; rw [HSK.out]; have hqc : Below w4.heap.size w4 wc := (by go_split_ands; exact Below.trans (by assumption) (Below.mono hbc (Below.size (by assumption)))); obtain ⟨hcc, hcf⟩ := bcell hbc; (try (have hzd : w4.heap.size < wc.heap.size := (by have h := hbc.size; simp at h; omega))); (try simp at hcc hcf))
        | (go_at_call 8; refine (Issue_any g a1 l1 cc1 tn sk _ (HGR.out _ (by go_split_ands; assumption)) (HGW.out _ (by go_split_ands; assumption)) hu).mono ?_; rintro e w6 ⟨v6, rfl, ⟨a6, len6, cap6, rfl, hg6, hlo6⟩, hb6⟩; have hq6 : Below w4.heap.size w4 w6 := (by go_split_ands; exact Below.trans (by assumption) (Below.mono hb6 (Below.size (by assumption)))); obtain ⟨hic, hif⟩ := bcell hb6; (try simp at hic hif)))
    all_goals go_wp2_with fail
    all_goals go_meet
    · exact ⟨_, rfl, rfl, rfl, hq6.alloc hq6.size _, gbox_alloc hg6⟩
    · exact ⟨_, rfl, rfl, rfl, (Below.setCell (p := ⟨_, 0, none⟩) hq6 hqc.size _).setCell (p := ⟨_, 1, none⟩) hqc.size _, gbox_store hb6 (World.alloc_heap_new _ _) hg6 hlo6⟩
    · exact ⟨_, rfl, rfl, rfl, (Below.setCell (p := ⟨_, 0, none⟩) hq6 (Nat.le_refl _) _).setCell (p := ⟨_, 1, none⟩) (Nat.le_refl _) _, gbox_store hb6 (alloc_at hbc) hg6 hlo6⟩
  case rest =>
    obtain ⟨b12, rfl, rfl, rfl, hB5, hX5⟩ := hcut
    have hM := Lib.hid (more_true g tn other sk (ls.map (·.1)))
    have hH5 := hH4.go hB5
    generalize hI : issueS g tn sk = I at hX5 hM ⊢
    obtain ⟨h, id, en⟩ := I
    have HI := Lib.hid hI
    clear hI hH4 hB5 q0 q1 qB HKP HGR HGW
    by_cases he : en = 0
    · have he1 : (en != 0) = false := by simp [he]
      have HE := Lib.hid he
      clear he
      go_wp2_with fail
      refine (cut_any s _).mono ?_
      rintro e w6 ⟨rfl, hb6⟩
      rw [HSK.out]
      have hH6 := hH5.go hb6
      have hX6 := hX5.go hb6
      have hmn := Means_any sk a0 lc ls w6 hH6.labs (hG.below hH6.below) hls
      clear hH5 hX5 hb6
      have hN := hM.out
      unfold moreB at hN
      rw [HI.out] at hN
      simp only [he1, Bool.false_or, Bool.and_eq_true, Bool.or_eq_true, beq_iff_eq] at hN
      obtain ⟨hN1, hN2⟩ := hN
      generalize hmm : meansS sk (ls.map (·.1)) = mm at hmn hN1
      obtain ⟨m1, m2⟩ := mm
      generalize hnow : mayS h tn (ls.map (·.1)) = now at hN1
      generalize hwas : mayS g tn (ls.map (·.1)) = was at hN1
      generalize hno : mayS h other (ls.map (·.1)) = no at hN2
      generalize hwo : mayS g other (ls.map (·.1)) = wo at hN2
      have HN1 := Lib.hid hN1
      have HN2 := Lib.hid hN2
      have Hnow := Lib.hid hnow
      have Hwas := Lib.hid hwas
      have Hno := Lib.hid hno
      have Hwo := Lib.hid hwo
      clear hmm hN1 hN2 hnow hwas hno hwo hM HI
      dsimp only at hmn HN1
      go_wp2_with fail
      refine hmn.mono ?_
      rintro e w7 ⟨rfl, hb7⟩
      have hH7 := hH6.go hb7
      have hX7 := hX6.go hb7
      clear hmn hH6 hX6 hb7
      have c0 := cell_of_cells hH7.box 0
      have c1 := cell_of_cells hH7.box 1
      simp at c0 c1
      have hmy := May_any g a1 l1 cc1 tn a0 lc ls w7 hH7.grs hH7.labs (hG.below hH7.below) hls
      rw [Hwas.out] at hmy
      go_wp2_with fail
      refine hmy.mono ?_
      rintro e w8 ⟨rfl, hb8⟩
      have hH8 := hH7.go hb8
      have hX8 := hX7.go hb8
      clear hmy hH7 hX7 hb8 c0 c1
      obtain ⟨a6, len6, cap6, hXb, hXg⟩ := hX8
      have d0 := cell_of_cells hXb 0
      have d1 := cell_of_cells hXb 1
      simp at d0 d1
      have hmz := May_any h a6 len6 cap6 tn a0 lc ls w8 hXg hH8.labs (hG.below hH8.below) hls
      rw [Hnow.out] at hmz
      go_wp2_with fail
      refine hmz.mono ?_
      rintro e w9 ⟨rfl, hb9⟩
      clear d0 d1
      have hH9 := hH8.go hb9
      have hX9 : w9.heap[b12]? = some (.cells #[.int .u64 h.next, .slice a6 len6 cap6] 25 (0, 0)) := (hb9.block _ (Array.getElem?_eq_some_iff.1 hXb).1).trans hXb
      have hg9 : Grs w9.heap.size w9 (.slice a6 len6 cap6) h.l := (SlAt.below hb9 hXg).mono hb9.size
      clear hmz hH8 hXb hXg hb9
      go_wp2_with fail
      have hcs : (was = true ∧ now = true) ∨ (was = false ∧ m1 = false ∧ now = false) ∨ (was = false ∧ m1 = true ∧ (m2 == 0) = true ∧ now = true) ∨ (was = false ∧ m1 = true ∧ (m2 == 0) = false ∧ now = false) := by
        have := HN1.out
        cases was <;> cases m1 <;> cases hm2 : (m2 == 0) <;> simp_all
      let Inv : World → Prop := fun W => HeadAt w g a1 l1 cc1 ls a0 lc W ∧ W.heap[b12]? = some (.cells #[.int .u64 h.next, .slice a6 len6 cap6] 25 (0, 0)) ∧ Grs W.heap.size W (.slice a6 len6 cap6) h.l
      have hgo : ∀ W W', Inv W → Below W.heap.size W W' → Inv W' := fun W W' ⟨h1, h2, h3⟩ hb => ⟨h1.go hb, (hb.block _ (Array.getElem?_eq_some_iff.1 h2).1).trans h2, (SlAt.below hb h3).mono hb.size⟩
      have q0 : ∀ X : WIn Inv, X.world.cell? ⟨w.heap.size, 0, none⟩ = some (.int .u64 g.next) := fun X => by have := cell_of_cells X.ok.1.box 0; simpa using this
      have q1 : ∀ X : WIn Inv, X.world.cell? ⟨w.heap.size, 1, none⟩ = some (.slice a1 l1 cc1) := fun X => by have := cell_of_cells X.ok.1.box 1; simpa using this
      have q2 : ∀ X : WIn Inv, X.world.cell? ⟨b12, 0, none⟩ = some (.int .u64 h.next) := fun X => by have := cell_of_cells X.ok.2.1 0; simpa using this
      have q3 : ∀ X : WIn Inv, X.world.cell? ⟨b12, 1, none⟩ = some (.slice a6 len6 cap6) := fun X => by have := cell_of_cells X.ok.2.1 1; simpa using this
      have HMH : Hid (∀ X : WIn Inv, Calls Tryd.prog 12 #[.agg #[.int .u64 h.next, .slice a6 len6 cap6], .int .u64 other, .slice a0 ls.length lc] X.world fun e w' => e = .returned (.bool no) ∧ ∃ Y : WIn Inv, w' = Y.world) := fun X => by
        rw [← Hno.out]
        exact calls_class_below hgo (May_any h a6 len6 cap6 other a0 lc ls X.world X.ok.2.2 X.ok.1.labs (hG.below X.ok.1.below) hls)
      have HMG : Hid (∀ X : WIn Inv, Calls Tryd.prog 12 #[.agg #[.int .u64 g.next, .slice a1 l1 cc1], .int .u64 other, .slice a0 ls.length lc] X.world fun e w' => e = .returned (.bool wo) ∧ ∃ Y : WIn Inv, w' = Y.world) := fun X => by
        rw [← Hwo.out]
        exact calls_class_below hgo (May_any g a1 l1 cc1 other a0 lc ls X.world X.ok.1.grs X.ok.1.labs (hG.below X.ok.1.below) hls)
      have hfin : Hid (∀ X : WIn Inv, Below w.heap.size w X.world) := fun X => X.ok.1.below
      have hI0 : Hid (Inv w9.drew) := ⟨hH9.go (Below.refl _ _).drew, hX9, hg9⟩
      have HW := Lib.hid hgo
      clear hgo hg9 hX9 hH9 hG hu Hnow Hwas Hno Hwo HSK
      clear_value Inv
      have hos : ((other == tn) = true ∧ no = no) ∨ ((other == tn) = false ∧ no = wo) := by
        rcases HN2.out with h1 | h1
        · exact .inl ⟨by simp [h1], rfl⟩
        · by_cases ho : other = tn
          · exact .inl ⟨by simp [ho], rfl⟩
          · exact .inr ⟨by simp [ho], h1⟩
      have hne : Nonempty (WIn Inv) := ⟨⟨_, hI0.out⟩⟩
      refine wp_region_class Inv (by kernel_rfl) (by kernel_rfl) hI0.out ?_
      clear HN1 HN2 HE hI0 HW
      rcases hcs with ⟨rfl, rfl⟩ | ⟨rfl, rfl, rfl⟩ | ⟨rfl, rfl, t2, rfl⟩ | ⟨rfl, rfl, t2, rfl⟩
      all_goals rcases hos with ⟨ho1, hnw⟩ | ⟨ho1, hnw⟩
      all_goals (try subst hnw)
      all_goals repeat (first | go_big_quiet_step ((first | (go_at_call 12; with_reducible exact HMH.out _) | (go_at_call 12; with_reducible exact HMG.out _))) | quiet_step ((first | (go_at_call 12; with_reducible exact HMH.out _) | (go_at_call 12; with_reducible exact HMG.out _))))
      all_goals refine wpQuiet_nil ?_
      all_goals (rintro _ ⟨X, rfl⟩)
      all_goals go_wp2_with fail
      all_goals go_ret
      all_goals exact ⟨rfl, hfin.out X⟩
    · have he1 : (en != 0) = true := by simp [he]
      go_wp2_with fail
      go_ret
      exact ⟨rfl, hH5.below⟩
end Go.Proofs.YtohfemdjkdjeeaaDoor

/- aviarylaw15.GrantOnce: the walk. -/
import Derived.Test.YtohfemdjkdjeeaaDoorD0
import Derived.Test.YtohfemdjkdjeeaaDoorE1
import Derived.Deep.RegionHeld3
import Derived.StillTactics
import Derived.Deep.QuietTactic
import Derived.Deep.Cut
import Derived.Deep.CutRange
import Derived.Deep.DeepCutAuto
namespace Go.Proofs.YtohfemdjkdjeeaaDoor
open Go Go.RowKit Go.Shelf

set_option maxRecDepth 100000 in
set_option maxHeartbeats 4000000 in
theorem once_any (next : Int) (l : List RGr) (a : Option Addr) (len cap : Nat) (tn : Int) (s : ByteArray) (other : Int) (more : ByteArray) (ll : List Lab) (b0 : Option Addr) (blen bcap : Nat) (w : World) (hL : RGrs w.heap.size w (.slice a len cap) l) (hLL : Labs w.heap.size w (.slice b0 blen bcap) ll) (hG : GW w) (hu : U64 next) :
    Calls Tryd.prog 3 #[.agg #[.int .u64 next, .slice a len cap], .int .u64 tn, .string s, .int .u64 other, .string more, .slice b0 blen bcap] w fun e w' => e = .returned (.bool true) ∧ Below w.heap.size w w' := by
  have hFg : ∀ W, RGrs W.heap.size W (.slice a len cap) l → _ := fun W h => few15_any next l a len cap W h
  have hFl : ∀ W, Labs W.heap.size W (.slice b0 blen bcap) ll → _ := fun W h => few04_any ll b0 blen bcap W h
  have hgn : (few15 next l).next = next := rfl
  generalize few15 next l = g at hFg hgn ⊢
  have hls : (few04 ll).length < 4294967281 := by simp [few04]; omega
  generalize few04 ll = ls at hFl hls ⊢
  subst hgn
  have HFg := Lib.hid hFg
  have HFl := Lib.hid hFl
  clear hFg hFl
  generalize hsk : cutK 200 (by decide) s = sk
  have HSK : Hid (cutN 200 s = sk.1) := by rw [Hid, ← hsk]; rfl
  clear hsk
  generalize hmk : cutK 200 (by decide) more = mk
  have HMK : Hid (cutN 200 more = mk.1) := by rw [Hid, ← hmk]; rfl
  clear hmk
  obtain ⟨W0, hW0⟩ : ∃ W0, w.alloc (.cells #[.int .u64 g.next, .slice a len cap] 25) = W0 := ⟨_, rfl⟩
  have hB0 : Below w.heap.size w W0 := by rw [← hW0]; exact (Below.refl _ w).alloc (Nat.le_refl _) _
  have hX0 : W0.heap[w.heap.size]? = some (.cells #[.int .u64 g.next, .slice a len cap] 25 (0, 0)) := by rw [← hW0]; exact World.alloc_heap_new w _
  have hsh := shown15_any W0 (hG.below hB0)
  go_enter Tryd.func3, Tryd.ntmps3
  go_wp2_with fail
  refine hsh.mono ?_
  rintro e w1 ⟨rfl, hb1⟩
  clear hW0 hsh
  have hX1 := (hb1.block _ (Array.getElem?_eq_some_iff.1 hX0).1).trans hX0
  have hB1 : Below w.heap.size w w1 := hB0.trans (hb1.mono hB0.size)
  have c0 := cell_of_cells hX1 0
  have c1 := cell_of_cells hX1 1
  simp at c0 c1
  have hF := HFg.out w1 ((SlAt.below hB1 hL).mono hB1.size)
  clear hX0 hB0 hb1
  go_wp2_with fail
  refine hF.mono ?_
  rintro e w2 ⟨v2, rfl, ⟨a1, l1, cc1, rfl, hg2, hlo2⟩, hb2⟩
  have hX2 := (hb2.block _ (Array.getElem?_eq_some_iff.1 hX1).1).trans hX1
  have hB2 : Below w.heap.size w w2 := hB1.trans (hb2.mono hB1.size)
  have hlo : w.heap.size < w1.heap.size := (Array.getElem?_eq_some_iff.1 hX1).1
  clear hF c0 c1
  have d0 := cell_of_cells hX2 0
  have d1 := cell_of_cells hX2 1
  have d2 := frozen_of_cells hX2 0
  have d3 := frozen_of_cells hX2 1
  simp at d0 d1
  obtain ⟨W3, hW3⟩ : ∃ W3, (w2.setCell ⟨w.heap.size, 0, none⟩ (.int .u64 g.next)).setCell ⟨w.heap.size, 1, none⟩ (.slice a1 l1 cc1) = W3 := ⟨_, rfl⟩
  have hX3 : W3.heap[w.heap.size]? = some (.cells #[.int .u64 g.next, .slice a1 l1 cc1] 25 (0, 0)) := by rw [← hW3]; exact set_cells2 hX2
  have hB3 : Below w.heap.size w W3 := by rw [← hW3]; exact (hB2.setCell (p := ⟨w.heap.size, 0, none⟩) (Nat.le_refl _) _).setCell (p := ⟨w.heap.size, 1, none⟩) (Nat.le_refl _) _
  have hz3 : W3.heap.size = w2.heap.size := by rw [← hW3]; simp [World.setCell]
  have hne : ∀ x, a1 = some x → w.heap.size ≠ x.block := fun x h => by have := hlo2 x h; omega
  have hg3 : Grs W3.heap.size W3 (.slice a1 l1 cc1) g.l := by rw [hz3, ← hW3]; exact slAt_far2 (p := ⟨w.heap.size, 1, none⟩) hne _ (slAt_far2 (p := ⟨w.heap.size, 0, none⟩) hne _ hg2)
  have hF4 := HFl.out W3 ((SlAt.below hB3 hLL).mono hB3.size)
  clear hz3
  go_wp2_with fail
  refine hF4.mono ?_
  rintro e w4 ⟨a0, lc, rfl, hl4, hb4⟩
  have hH4 : HeadAt w g a1 l1 cc1 ls a0 lc w4 := ⟨hB3.trans (hb4.mono hB3.size), (hb4.block _ (Array.getElem?_eq_some_iff.1 hX3).1).trans hX3, (SlAt.below hb4 hg3).mono hb4.size, hl4⟩
  clear hW3 hF4 hX3 hB3 hne hg3 hb4 hl4 d0 d1 d2 d3 hX2 hB2 hlo hlo2 hb2 hg2 hX1 hB1 hL hLL HFg HFl
  go_wp2_with fail
  have hGW : ∀ W, Below w4.heap.size w4 W → GW W := fun W h => hG.below (hH4.go h).below
  have HGW := Lib.hid hGW
  have hgr : ∀ W, Below w4.heap.size w4 W → Grs W.heap.size W (.slice a1 l1 cc1) g.l := fun W h => (hH4.go h).grs
  have HGR := Lib.hid hgr
  have hkp : ∀ W, Below w4.heap.size w4 W → W.cell? ⟨w.heap.size, 0, none⟩ = some (.int .u64 g.next) ∧ W.cell? ⟨w.heap.size, 1, none⟩ = some (.slice a1 l1 cc1) ∧ Below w4.heap.size w4 W := fun W h => by
    have hb := (hH4.go h).box
    have c0 := cell_of_cells hb 0
    have c1 := cell_of_cells hb 1
    simp at c0 c1
    exact ⟨c0, c1, h⟩
  have HKP := Lib.hid hkp
  obtain ⟨q0, q1, qB⟩ := hkp w4 (Below.refl _ _)
  clear hGW hgr hkp
  go_cut [14, 15, 16] (fun s12 s13 s14 wx => ∃ b12, s12 = .pointer (some ⟨b12, 0, none⟩) ∧ s13 = .int .u64 (issueS g tn sk).2.1 ∧ s14 = .int .i64 (issueS g tn sk).2.2 ∧ Below w4.heap.size w4 wx ∧ GBox wx b12 (issueS g tn sk).1)
  case first =>
    have hz4 : w.heap.size < w4.heap.size := (Array.getElem?_eq_some_iff.1 hH4.box).1
    go_region_held3 (fun w' => w'.cell? ⟨w.heap.size, 0, none⟩ = some (.int .u64 g.next) ∧ w'.cell? ⟨w.heap.size, 1, none⟩ = some (.slice a1 l1 cc1) ∧ Below w4.heap.size w4 w')
      (first
        | exact HKP.out _ qB.drew
        | (go_split_ands; refine HKP.out _ ?_; first | exact Below.trans (by assumption) (Below.mono (by assumption) (Below.size (by assumption))) | exact Below.alloc (by assumption) (Below.size (by assumption)) _ | exact Below.drew (by assumption))
        | exact HKP.out _ (Below.alloc hq6 hq6.size _)
        | exact HKP.out _ (Below.setCell (Below.setCell hq6 (p := ⟨_, 0, none⟩) (by first | exact Nat.le_refl _ | exact hqc.size) _) (p := ⟨_, 1, none⟩) (by first | exact Nat.le_refl _ | exact hqc.size) _)
        | go_keep)
      (first
        | (go_at_call 9; refine (cut_any s _).mono ?_; rintro e wc ⟨rfl, hbc⟩; rw [HSK.out]; have hqc : Below w4.heap.size w4 wc := (by go_split_ands; exact Below.trans (by assumption) (Below.mono hbc (Below.size (by assumption)))); obtain ⟨hcc, hcf⟩ := bcell hbc; (try (have hzd : w4.heap.size < wc.heap.size := (by have h := hbc.size; simp at h; omega))); (try simp at hcc hcf))
        | (go_at_call 8; refine (Issue_any g a1 l1 cc1 tn sk _ (HGR.out _ (by go_split_ands; assumption)) (HGW.out _ (by go_split_ands; assumption)) hu).mono ?_; rintro e w6 ⟨v6, rfl, ⟨a6, len6, cap6, rfl, hg6, hlo6⟩, hb6⟩; have hq6 : Below w4.heap.size w4 w6 := (by go_split_ands; exact Below.trans (by assumption) (Below.mono hb6 (Below.size (by assumption)))); obtain ⟨hic, hif⟩ := bcell hb6; (try simp at hic hif)))
    all_goals go_wp2_with fail
    all_goals go_meet
    · exact ⟨_, rfl, rfl, rfl, hq6.alloc hq6.size _, gbox_alloc hg6⟩
    · exact ⟨_, rfl, rfl, rfl, (Below.setCell (p := ⟨_, 0, none⟩) hq6 hqc.size _).setCell (p := ⟨_, 1, none⟩) hqc.size _, gbox_store hb6 (World.alloc_heap_new _ _) hg6 hlo6⟩
    · exact ⟨_, rfl, rfl, rfl, (Below.setCell (p := ⟨_, 0, none⟩) hq6 (Nat.le_refl _) _).setCell (p := ⟨_, 1, none⟩) (Nat.le_refl _) _, gbox_store hb6 (alloc_at hbc) hg6 hlo6⟩
  case rest =>
    obtain ⟨b12, rfl, rfl, rfl, hB5, hX5⟩ := hcut
    have hH5 := hH4.go hB5
    by_cases he : (issueS g tn sk).2.2 = 0
    · have he1 : ((issueS g tn sk).2.2 != 0) = false := by simp [he]
      obtain ⟨hr1, hr2, hr3, hr4, hr5⟩ := issue_ok he
      obtain ⟨v1, v2⟩ := revoke_last (tn := tn) hr1 hr2 hr3
      obtain ⟨r1, r2, -⟩ := right_more (tn := tn) hr1 hr2 hr3
      have r3 := may_back (tn := tn) tn (ls.map (·.1)) hr1 hr2 hr3
      have hlB : (⟨g.next + 1, g.l⟩ : Grants).l.length = g.l.length := rfl
      have hnB : (⟨g.next + 1, g.l⟩ : Grants).next = g.next + 1 := rfl
      rw [hr5] at hX5 he1 ⊢
      dsimp only at hX5 he1 ⊢
      generalize (⟨g.next + 1, g.l ++ [⟨g.next, tn, sk⟩]⟩ : Grants) = A at hX5 v1 r1 ⊢
      generalize (⟨g.next + 1, g.l⟩ : Grants) = B at v1 v2 r2 r3 hlB hnB
      have HV1 := Lib.hid v1
      have HV2 := Lib.hid v2
      have HR1 := Lib.hid r1
      have HR2 := Lib.hid r2
      have HR3 := Lib.hid r3
      have HLB := Lib.hid hlB
      have HNB := Lib.hid hnB
      have huu := hu
      obtain ⟨hu0, hu1⟩ := huu
      have hu2 : g.next < 18446744073709551615 := by omega
      clear hr1 hr2 hr3 hr4 hr5 v1 v2 r1 r2 r3 hlB hnB he hH4 hB5 q0 q1 qB HKP HGR HGW
      obtain ⟨aA, lA, cA, hXb, hXg⟩ := hX5
      have d0 := cell_of_cells hXb 0
      have d1 := cell_of_cells hXb 1
      simp at d0 d1
      have hrv := Revoke_any A aA lA cA g.next wc hXg (hG.below hH5.below)
      rw [HV1.out] at hrv
      go_wp2_with fail
      refine hrv.mono ?_
      rintro e w6 ⟨v6, rfl, ⟨aB, lB, cB, rfl, hgB, hloB⟩, hb6⟩
      dsimp only at hgB ⊢
      have hH6 := hH5.go hb6
      have hA6 : w6.heap[b12]? = some (.cells #[.int .u64 A.next, .slice aA lA cA] 25 (0, 0)) := (hb6.block _ (Array.getElem?_eq_some_iff.1 hXb).1).trans hXb
      have hgA6 : Grs w6.heap.size w6 (.slice aA lA cA) A.l := (SlAt.below hb6 hXg).mono hb6.size
      clear hrv d0 d1 hXb hXg hH5 hb6 hloB
      obtain ⟨W7, hW7⟩ : ∃ W7, w6.alloc (.cells #[.int .u64 B.next, .slice aB lB cB] 25) = W7 := ⟨_, rfl⟩
      have hOA : OnceAt w g a1 l1 cc1 ls a0 lc b12 A aA lA cA w6.heap.size B aB lB cB W7 := by rw [← hW7]; exact once_at hH6 hA6 hgA6 hgB
      clear hH6 hA6 hgA6 hgB
      go_wp2_with fail
      clear hW7
      have hz7 : w6.heap.size < W7.heap.size := (Array.getElem?_eq_some_iff.1 hOA.boxB).1
      have HGW : Hid (∀ W, Below W7.heap.size W7 W → GW W) := fun W h => hG.below (hOA.go h).head.below
      have HGR : Hid (∀ W, Below W7.heap.size W7 W → Grs W.heap.size W (.slice aB lB cB) B.l) := fun W h => (hOA.go h).grsB
      have hkp : ∀ W, Below W7.heap.size W7 W → W.cell? ⟨w6.heap.size, 0, none⟩ = some (.int .u64 B.next) ∧ W.cell? ⟨w6.heap.size, 1, none⟩ = some (.slice aB lB cB) ∧ Below W7.heap.size W7 W := fun W h => by
        have hb := (hOA.go h).boxB
        have c0 := cell_of_cells hb 0
        have c1 := cell_of_cells hb 1
        simp at c0 c1
        exact ⟨c0, c1, h⟩
      have HKP := Lib.hid hkp
      obtain ⟨q0, q1, qB⟩ := hkp W7 (Below.refl _ _)
      clear hkp
      have huB : U64 B.next := by rw [HNB.out]; exact ⟨by omega, by omega⟩
      generalize hJ : issueS B other mk = J
      have HJ := Lib.hid hJ
      clear hJ
      obtain ⟨JC, jj, jf⟩ := J
      go_cut [19, 20, 21] (fun s12 s13 s14 wx => ∃ b19, s12 = .pointer (some ⟨b19, 0, none⟩) ∧ s13 = .int .u64 jj ∧ s14 = .int .i64 jf ∧ Below W7.heap.size W7 wx ∧ GBox wx b19 JC)
      case first =>
        have hIss : ∀ W, Below W7.heap.size W7 W → Calls Tryd.prog 8 #[.agg #[.int .u64 B.next, .slice aB lB cB], .int .u64 other, .string mk.1] W (IssuePost (JC, jj, jf) W) := fun W h => by rw [← HJ.out]; exact Issue_any B aB lB cB other mk W (HGR.out W h) (HGW.out W h) huB
        have HIss := Lib.hid hIss
        clear hIss
        go_region_held3 (fun w' => w'.cell? ⟨w6.heap.size, 0, none⟩ = some (.int .u64 B.next) ∧ w'.cell? ⟨w6.heap.size, 1, none⟩ = some (.slice aB lB cB) ∧ Below W7.heap.size W7 w')
          (first
            | exact HKP.out _ qB.drew
            | (go_split_ands; refine HKP.out _ ?_; first | exact Below.trans (by assumption) (Below.mono (by assumption) (Below.size (by assumption))) | exact Below.alloc (by assumption) (Below.size (by assumption)) _ | exact Below.drew (by assumption))
            | exact HKP.out _ (Below.alloc hq6 hq6.size _)
            | exact HKP.out _ (Below.setCell (Below.setCell hq6 (p := ⟨_, 0, none⟩) (by first | exact Nat.le_refl _ | exact hqc.size) _) (p := ⟨_, 1, none⟩) (by first | exact Nat.le_refl _ | exact hqc.size) _)
            | go_keep)
          (first
            | (go_at_call 9; refine (cut_any more _).mono ?_; rintro e wc ⟨rfl, hbc⟩; rw [HMK.out]; have hqc : Below W7.heap.size W7 wc := (by go_split_ands; exact Below.trans (by assumption) (Below.mono hbc (Below.size (by assumption)))); obtain ⟨hcc, hcf⟩ := bcell hbc; (try (have hzd : W7.heap.size < wc.heap.size := (by have h := hbc.size; simp at h; omega))); (try simp at hcc hcf))
            | (go_at_call 8; refine (HIss.out _ (by go_split_ands; assumption)).mono ?_; rintro e w8 ⟨v8, rfl, ⟨aC, lC, cC, rfl, hgC, hloC⟩, hb8⟩; have hq6 : Below W7.heap.size W7 w8 := (by go_split_ands; exact Below.trans (by assumption) (Below.mono hb8 (Below.size (by assumption)))); obtain ⟨hic, hif⟩ := bcell hb8; (try simp at hic hif)))
        all_goals go_wp2_with fail
        all_goals go_meet
        · exact ⟨_, rfl, rfl, rfl, hq6.alloc hq6.size _, gbox_alloc hgC⟩
        · exact ⟨_, rfl, rfl, rfl, (Below.setCell (p := ⟨_, 0, none⟩) hq6 hqc.size _).setCell (p := ⟨_, 1, none⟩) hqc.size _, gbox_store hb8 (World.alloc_heap_new _ _) hgC hloC⟩
        · exact ⟨_, rfl, rfl, rfl, (Below.setCell (p := ⟨_, 0, none⟩) hq6 (Nat.le_refl _) _).setCell (p := ⟨_, 1, none⟩) (Nat.le_refl _) _, gbox_store hb8 (alloc_at hbc) hgC hloC⟩
      case rest =>
        obtain ⟨b19, rfl, rfl, rfl, hB8, hX8⟩ := hcut
        have hO8 := hOA.go hB8
        clear hOA hB8 q0 q1 qB HKP HGR HGW huB
        have d0 := cell_of_cells hO8.boxB 0
        have d1 := cell_of_cells hO8.boxB 1
        simp at d0 d1
        have hrv := Revoke_any B aB lB cB g.next wc hO8.grsB (hG.below hO8.head.below)
        rw [HV2.out] at hrv
        go_wp2_with fail
        refine hrv.mono ?_
        rintro e w9 ⟨v9, rfl, ⟨a9, l9, c9, rfl, -, -⟩, hb9⟩
        have hO9 := hO8.go hb9
        have hX9 := hX8.go hb9
        clear hrv hO8 hX8 hb9 d0 d1
        obtain ⟨W10, hW10⟩ : ∃ W10, w9.alloc (.cells #[.int .u64 0, .slice a9 l9 c9] 25) = W10 := ⟨_, rfl⟩
        have hO10 := hO9.go (W' := W10) (by rw [← hW10]; exact (Below.refl _ _).alloc (Nat.le_refl _) _)
        have hX10 := hX9.go (W' := W10) (by rw [← hW10]; exact (Below.refl _ _).alloc (Nat.le_refl _) _)
        clear hO9 hX9
        dsimp only
        by_cases hj : jf = 0
        · have tj : (jf == 0) = true := by simp [hj]
          have hjj : jj = g.next + 1 ∧ grRight JC = true := by
            have h0 : (issueS B other mk).2.2 = 0 := by rw [HJ.out]; exact hj
            obtain ⟨j1, j2, j3, -, j5⟩ := issue_ok h0
            have h6 := (right_more (tn := other) j1 j2 j3).1
            rw [HJ.out] at j5
            have e1 : JC = _ := congrArg Prod.fst j5
            have e2 : jj = B.next := congrArg (fun p => p.2.1) j5
            exact ⟨by rw [e2, HNB.out], by rw [e1]; exact h6⟩
          obtain ⟨rfl, hrc⟩ := hjj
          obtain ⟨aC, lC, cC, hXc, hgC⟩ := hX10
          have d0 := cell_of_cells hXc 0
          have d1 := cell_of_cells hXc 1
          simp at d0 d1
          have hRC := grant_Right_any JC aC lC cC W10 hgC (hG.below hO10.head.below)
          rw [hrc] at hRC
          have tk : decide (g.next + 1 ≤ g.next) = false := decide_eq_false (by omega)
          have hz10 := (Array.getElem?_eq_some_iff.1 hXc).1
          clear hj hrc hXc hgC
          go_wp2_with fail
          refine hRC.mono ?_
          rintro e w11 ⟨rfl, hb11⟩
          have hO11 := hO10.go hb11
          clear hRC hO10 hb11 d0 d1 hW10
          go_wp2_with fail
          let Inv : World → Prop := fun W => OnceAt w g a1 l1 cc1 ls a0 lc b12 A aA lA cA w6.heap.size B aB lB cB W
          have hgo : ∀ W W', Inv W → Below W.heap.size W W' → Inv W' := fun W W' h1 hb => h1.go hb
          have q0 : ∀ X : WIn Inv, X.world.cell? ⟨w.heap.size, 0, none⟩ = some (.int .u64 g.next) := fun X => by have := cell_of_cells X.ok.head.box 0; simpa using this
          have q1 : ∀ X : WIn Inv, X.world.cell? ⟨w.heap.size, 1, none⟩ = some (.slice a1 l1 cc1) := fun X => by have := cell_of_cells X.ok.head.box 1; simpa using this
          have q2 : ∀ X : WIn Inv, X.world.cell? ⟨b12, 0, none⟩ = some (.int .u64 A.next) := fun X => by have := cell_of_cells X.ok.boxA 0; simpa using this
          have q3 : ∀ X : WIn Inv, X.world.cell? ⟨b12, 1, none⟩ = some (.slice aA lA cA) := fun X => by have := cell_of_cells X.ok.boxA 1; simpa using this
          have q4 : ∀ X : WIn Inv, X.world.cell? ⟨w6.heap.size, 0, none⟩ = some (.int .u64 B.next) := fun X => by have := cell_of_cells X.ok.boxB 0; simpa using this
          have q5 : ∀ X : WIn Inv, X.world.cell? ⟨w6.heap.size, 1, none⟩ = some (.slice aB lB cB) := fun X => by have := cell_of_cells X.ok.boxB 1; simpa using this
          have K1 : Hid (∀ X : WIn Inv, Calls Tryd.prog 11 #[.agg #[.int .u64 A.next, .slice aA lA cA]] X.world fun e w' => e = .returned (.bool true) ∧ ∃ Y : WIn Inv, w' = Y.world) := fun X => by
            have := grant_Right_any A aA lA cA X.world X.ok.grsA (hG.below X.ok.head.below)
            rw [HR1.out] at this
            exact calls_class_below hgo this
          have K2 : Hid (∀ X : WIn Inv, Calls Tryd.prog 11 #[.agg #[.int .u64 B.next, .slice aB lB cB]] X.world fun e w' => e = .returned (.bool true) ∧ ∃ Y : WIn Inv, w' = Y.world) := fun X => by
            have := grant_Right_any B aB lB cB X.world X.ok.grsB (hG.below X.ok.head.below)
            rw [HR2.out] at this
            exact calls_class_below hgo this
          generalize hmb : mayS g tn (ls.map (·.1)) = mb at HR3
          have HMB := Lib.hid hmb
          clear hmb
          have K3 : Hid (∀ X : WIn Inv, Calls Tryd.prog 12 #[.agg #[.int .u64 B.next, .slice aB lB cB], .int .u64 tn, .slice a0 ls.length lc] X.world fun e w' => e = .returned (.bool mb) ∧ ∃ Y : WIn Inv, w' = Y.world) := fun X => by
            have := May_any B aB lB cB tn a0 lc ls X.world X.ok.grsB X.ok.head.labs (hG.below X.ok.head.below) hls
            rw [HR3.out] at this
            exact calls_class_below hgo this
          have K4 : Hid (∀ X : WIn Inv, Calls Tryd.prog 12 #[.agg #[.int .u64 g.next, .slice a1 l1 cc1], .int .u64 tn, .slice a0 ls.length lc] X.world fun e w' => e = .returned (.bool mb) ∧ ∃ Y : WIn Inv, w' = Y.world) := fun X => by
            have := May_any g a1 l1 cc1 tn a0 lc ls X.world X.ok.head.grs X.ok.head.labs (hG.below X.ok.head.below) hls
            rw [HMB.out] at this
            exact calls_class_below hgo this
          have hll : lB = l1 := by
            have h1 := (SlAt.elems gr_enc_len hO11.grsB).1
            have h2 := (SlAt.elems gr_enc_len hO11.head.grs).1
            rw [h1, h2, HLB.out]
          have t9 : ((lB : Int) == (l1 : Int)) = true := by rw [hll]; simp
          have hfin : Hid (∀ X : WIn Inv, Below w.heap.size w X.world) := fun X => X.ok.head.below
          have hI0 : Hid (Inv w11.drew) := hO11.go (Below.refl _ _).drew
          have hne : Nonempty (WIn Inv) := ⟨⟨_, hI0.out⟩⟩
          clear hll hgo hO11 hG hu HR1 HR2 HR3 HMB HSK HMK HV1 HV2 HLB HNB HJ
          clear_value Inv
          refine wp_region_class Inv (by kernel_rfl) (by kernel_rfl) hI0.out ?_
          clear hI0
          repeat (first | go_big_quiet_step ((first | (go_at_call 11; with_reducible exact K1.out _) | (go_at_call 11; with_reducible exact K2.out _) | (go_at_call 12; with_reducible exact K3.out _) | (go_at_call 12; with_reducible exact K4.out _))) | quiet_step ((first | (go_at_call 11; with_reducible exact K1.out _) | (go_at_call 11; with_reducible exact K2.out _) | (go_at_call 12; with_reducible exact K3.out _) | (go_at_call 12; with_reducible exact K4.out _))))
          refine wpQuiet_nil ?_
          rintro _ ⟨X, rfl⟩
          go_wp2_with fail
          go_ret
          exact ⟨rfl, hfin.out X⟩
        · have tj : (jf == 0) = false := by simp [hj]
          clear hj hX10
          go_wp2_with fail
          clear hW10
          let Inv : World → Prop := fun W => OnceAt w g a1 l1 cc1 ls a0 lc b12 A aA lA cA w6.heap.size B aB lB cB W
          have hgo : ∀ W W', Inv W → Below W.heap.size W W' → Inv W' := fun W W' h1 hb => h1.go hb
          have q0 : ∀ X : WIn Inv, X.world.cell? ⟨w.heap.size, 0, none⟩ = some (.int .u64 g.next) := fun X => by have := cell_of_cells X.ok.head.box 0; simpa using this
          have q1 : ∀ X : WIn Inv, X.world.cell? ⟨w.heap.size, 1, none⟩ = some (.slice a1 l1 cc1) := fun X => by have := cell_of_cells X.ok.head.box 1; simpa using this
          have q2 : ∀ X : WIn Inv, X.world.cell? ⟨b12, 0, none⟩ = some (.int .u64 A.next) := fun X => by have := cell_of_cells X.ok.boxA 0; simpa using this
          have q3 : ∀ X : WIn Inv, X.world.cell? ⟨b12, 1, none⟩ = some (.slice aA lA cA) := fun X => by have := cell_of_cells X.ok.boxA 1; simpa using this
          have q4 : ∀ X : WIn Inv, X.world.cell? ⟨w6.heap.size, 0, none⟩ = some (.int .u64 B.next) := fun X => by have := cell_of_cells X.ok.boxB 0; simpa using this
          have q5 : ∀ X : WIn Inv, X.world.cell? ⟨w6.heap.size, 1, none⟩ = some (.slice aB lB cB) := fun X => by have := cell_of_cells X.ok.boxB 1; simpa using this
          have K1 : Hid (∀ X : WIn Inv, Calls Tryd.prog 11 #[.agg #[.int .u64 A.next, .slice aA lA cA]] X.world fun e w' => e = .returned (.bool true) ∧ ∃ Y : WIn Inv, w' = Y.world) := fun X => by
            have := grant_Right_any A aA lA cA X.world X.ok.grsA (hG.below X.ok.head.below)
            rw [HR1.out] at this
            exact calls_class_below hgo this
          have K2 : Hid (∀ X : WIn Inv, Calls Tryd.prog 11 #[.agg #[.int .u64 B.next, .slice aB lB cB]] X.world fun e w' => e = .returned (.bool true) ∧ ∃ Y : WIn Inv, w' = Y.world) := fun X => by
            have := grant_Right_any B aB lB cB X.world X.ok.grsB (hG.below X.ok.head.below)
            rw [HR2.out] at this
            exact calls_class_below hgo this
          generalize hmb : mayS g tn (ls.map (·.1)) = mb at HR3
          have HMB := Lib.hid hmb
          clear hmb
          have K3 : Hid (∀ X : WIn Inv, Calls Tryd.prog 12 #[.agg #[.int .u64 B.next, .slice aB lB cB], .int .u64 tn, .slice a0 ls.length lc] X.world fun e w' => e = .returned (.bool mb) ∧ ∃ Y : WIn Inv, w' = Y.world) := fun X => by
            have := May_any B aB lB cB tn a0 lc ls X.world X.ok.grsB X.ok.head.labs (hG.below X.ok.head.below) hls
            rw [HR3.out] at this
            exact calls_class_below hgo this
          have K4 : Hid (∀ X : WIn Inv, Calls Tryd.prog 12 #[.agg #[.int .u64 g.next, .slice a1 l1 cc1], .int .u64 tn, .slice a0 ls.length lc] X.world fun e w' => e = .returned (.bool mb) ∧ ∃ Y : WIn Inv, w' = Y.world) := fun X => by
            have := May_any g a1 l1 cc1 tn a0 lc ls X.world X.ok.head.grs X.ok.head.labs (hG.below X.ok.head.below) hls
            rw [HMB.out] at this
            exact calls_class_below hgo this
          have hll : lB = l1 := by
            have h1 := (SlAt.elems gr_enc_len hO10.grsB).1
            have h2 := (SlAt.elems gr_enc_len hO10.head.grs).1
            rw [h1, h2, HLB.out]
          have t9 : ((lB : Int) == (l1 : Int)) = true := by rw [hll]; simp
          have hfin : Hid (∀ X : WIn Inv, Below w.heap.size w X.world) := fun X => X.ok.head.below
          have hI0 : Hid (Inv W10.drew) := hO10.go (Below.refl _ _).drew
          have hne : Nonempty (WIn Inv) := ⟨⟨_, hI0.out⟩⟩
          clear hll hgo hO10 hG hu HR1 HR2 HR3 HMB HSK HMK HV1 HV2 HLB HNB HJ
          clear_value Inv
          refine wp_region_class Inv (by kernel_rfl) (by kernel_rfl) hI0.out ?_
          clear hI0
          repeat (first | go_big_quiet_step ((first | (go_at_call 11; with_reducible exact K1.out _) | (go_at_call 11; with_reducible exact K2.out _) | (go_at_call 12; with_reducible exact K3.out _) | (go_at_call 12; with_reducible exact K4.out _))) | quiet_step ((first | (go_at_call 11; with_reducible exact K1.out _) | (go_at_call 11; with_reducible exact K2.out _) | (go_at_call 12; with_reducible exact K3.out _) | (go_at_call 12; with_reducible exact K4.out _))))
          refine wpQuiet_nil ?_
          rintro _ ⟨X, rfl⟩
          go_wp2_with fail
          go_ret
          exact ⟨rfl, hfin.out X⟩
    · have he1 : ((issueS g tn sk).2.2 != 0) = true := by simp [he]
      have he2 : ((issueS g tn sk).2.1 == 0) = true := by rw [issue_err0 he]; rfl
      clear he
      go_wp2_with fail
      go_ret
      exact ⟨rfl, hH5.below⟩
end Go.Proofs.YtohfemdjkdjeeaaDoor

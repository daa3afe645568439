/- Package scope: IsPattern, Fits. -/
import Derived.Test.YthnfhklfmaeccaaGreatDoorS3
namespace Go.Proofs.YthnfhklfmaeccaaGreatDoor
open Go Go.RowKit Go.Shelf

theorem set_block {w w' : World} {b n : Nat} {S : Int → Bool} (h : PSet w b n S) (hb : w'.heap[b]? = w.heap[b]?) : PSet w' b n S := by
  obtain ⟨D, ⟨es, clock, h1, h2, h3, h4⟩, h5⟩ := h
  exact ⟨D, ⟨es, clock, hb.trans h1, h2, h3, h4⟩, h5⟩
theorem set_ne {w : World} {b n k : Nat} {S : Int → Bool} {s : ByteArray} {p : Nat} (h : PSet w b n S) (hk : w.heap[k]? = some (.stringIter s p)) : b ≠ k := by
  obtain ⟨D, ⟨es, clock, h1, _⟩, _⟩ := h
  intro e
  subst e
  rw [h1] at hk
  cases hk
def isPatS (p : ByteArray) : Bool := (signsOf p).isSome
theorem IsPattern_any (p : ByteArray) (w : World) (hp : p.size < 4294967281) (hG : GW w) : Calls Tryz.prog 43 #[.string p] w fun e w' => e = .returned (.bool (isPatS p)) ∧ Below w.heap.size w w' := by
  have hS := signs_any p w hp hG
  go_enter Tryz.func43, Tryz.ntmps43
  go_wp2_with (go_at_call 46; refine hS.mono ?_; rintro e w1 ⟨a, len, cap, rfl, -, hb1⟩)
  go_ret
  exact ⟨rfl, hb1⟩

def fitsRun (l : List Sign) (S : Int → Bool) : List Int → Int → Bool
  | [] => S
  | c :: cs => fitsRun l (behindB l S c) cs
def fitsS (p v : ByteArray) : Bool := match signsOf p with
  | none => false
  | some l => runesOk v && fitsRun l (cloB l 0) (runesC v 0) (l.length : Int)
theorem fitsRun_none (l : List Sign) (hl : l.length ≤ 24) : ∀ (cs : List Int) (S : Int → Bool), (∀ i, wfI i → S i = false) → ∀ j, wfI j → fitsRun l S cs j = false
  | [], S, h, j, hj => h j hj
  | c :: cs, S, h, j, hj => by
    refine fitsRun_none l hl cs _ (fun i _ => ?_) j hj
    unfold behindB
    rw [List.any_eq_false]
    intro a ha
    have := List.mem_range.1 ha
    rw [h a (wfI_of (by omega) (by omega))]; simp
/-- What the loop of Fits carries: the set's block, the iterator's place. -/
def FitsRel (l : List Sign) (v : ByteArray) (sv : Value) (w1 : World) (N : Nat) (m : Value) (wr : World) : Prop :=
  ∃ (pos mb : Nat) (S : Int → Bool), m = .map (some mb) ∧ PSet wr mb (l.length + 1) S ∧ (∀ i, wfI i → S i = true → 0 ≤ i ∧ i < (l.length + 1 : Nat)) ∧ wr.heap[N]? = some (.stringIter v pos) ∧ Below w1.heap.size w1 wr ∧ Signs w1.heap.size wr sv l ∧
    fitsRun l (cloB l 0) (runesC v 0) = fitsRun l S (runesC v pos)

set_option maxRecDepth 100000 in
set_option maxHeartbeats 2000000 in
theorem Fits_any (p v : ByteArray) (w : World) (hp : p.size < 4294967281) (hv : v.size < 4294967281) (hG : GW w) : Calls Tryz.prog 26 #[.string p, .string v] w fun e w' => e = .returned (.bool (fitsS p v)) ∧ Below w.heap.size w w' := by
  have hS := signs_any p w hp hG
  cases hso : signsOf p with
  | none =>
    unfold SignsPost at hS
    rw [hso] at hS
    have HS := Lib.hid hso
    clear hso
    go_enter Tryz.func26, Tryz.ntmps26
    go_wp2_with fail
    go_step3
    go_wp2_with (go_at_call 46; refine hS.mono ?_; rintro e w1 ⟨a, len, cap, rfl, -, hb1⟩)
    rw [Exit.noGoto_ret]
    go_ret
    exact ⟨by simp [fitsS, HS.out], hb1⟩
  | some l =>
    have hlen := signsOf_len p l hso
    unfold SignsPost at hS
    rw [hso] at hS
    have HS := Lib.hid hso
    clear hso
    by_cases hr : runesOk v = true
    · have HR := Lib.hid hr
      have hmm := @run_makeMap Tryz.prog
      go_enter Tryz.func26, Tryz.ntmps26
      go_wp2_with fail
      go_step3
      go_wp2_with (go_at_call 46; refine hS.mono ?_; rintro e w1 ⟨a, len, cap, rfl, hsg, hb1⟩)
      have hlen' := hsg.cell.1
      simp only [Option.getD_some] at hlen' hsg
      subst hlen'
      have hRn := Runes_any v w1 (by unfold maxLen; omega) (hG.below hb1)
      rw [hr] at hRn
      refine hRn.mono ?_
      rintro e w2 ⟨rfl, hb2⟩
      have hT := setAt_new (P := Tryz.prog) (kt := 3) w2
      have hB3 : Below w2.heap.size w2 (w2.alloc (.map #[] 0)) := (Below.refl _ w2).alloc (Nat.le_refl _) _
      have hsg3 : Signs w1.heap.size (w2.alloc (.map #[] 0)) _ l := SlAt.below (hb2.trans (hB3.mono hb2.size)) hsg
      have hput := put_any a l.length cap l 0 w2.heap.size 0 w1.heap.size _ _ hsg3 hT hb2.size (Nat.zero_le _) (by omega) (by omega)
      clear hRn hS hr hT
      go_wp2_with (go_at_call 48; refine hput.mono ?_; rintro e w4 ⟨⟨v4, rfl⟩, hT4, hg4⟩)
      go_step3
      go_wp2_with fail
      have hsz2 := hb2.size
      have hsz4 := hg4.size
      rw [World.size_alloc] at hsz4
      have hB4 : Below w1.heap.size w1 w4 := (hb2.trans (hB3.mono hsz2)).grown hg4 (by rw [World.size_alloc]; omega) (fun k e => by cases e; omega)
      have hBi : Below w1.heap.size w1 (w4.iter v 0) := hB4.alloc (by omega) _
      have hT0 : PSet (w4.iter v 0) w2.heap.size (l.length + 1) (cloB l 0) := ((hT4.kept (World.grownBy_alloc w4 _ none) (by simp)).congr (fun j _ => by simp)).mono (by omega)
      clear hput hmm
      go_loopw [9] (FitsRel l v (.slice a l.length cap) w1 w4.heap.size) (fun _ wr => v.size - wr.iterPos w4.heap.size)
      case atStart => exact ⟨0, w2.heap.size, cloB l 0, rfl, hT0, fun i _ h => cloB_dom l 0 (Nat.zero_le _) i h, World.iter_heap w4 v 0, hBi, SlAt.below hBi hsg, rfl⟩
      case round =>
        obtain ⟨pos, mb, S, rfl, hT, hdom, hit, hB, hsgr, hspec⟩ := hrel
        have HSP := Lib.hid hspec
        have HD := Lib.hid hdom
        clear hspec hdom hT0 hBi hT4
        have hpos0 := iterPos_of hit
        have hNlt := (Array.getElem?_eq_some_iff.1 hit).1
        by_cases hps : pos < v.size
        · obtain ⟨W1, hnx, hit2, hB2, hszW, hoth⟩ := next_str (P := Tryz.prog) hit hB (by omega) hps
          have hd := dec_pos v pos hps
          have hst := Lib.hid (runesC_step v pos hps)
          have hT2 : PSet W1 mb (l.length + 1) S := set_block hT (hoth mb (set_ne hT hit))
          have hbe := behind_any a l.length cap l ((Utf8.decode v pos).1 : Int) mb (l.length + 1) w1.heap.size S W1 (SlAt.below hB2 hsg) hT2 hB2.size HD.out (by omega)
          generalize ((Utf8.decode v pos).1 : Int) = c at hnx hst hbe
          clear hT hit hB hoth hszW
          go_wp2_with (go_at_call 49; refine hbe.mono ?_; rintro e W5 ⟨nb, rfl, hnb, hT5, hb5⟩)
          obtain ⟨kk, hln, hk0⟩ := SetAt.len Tryz.underlying3 und_places hT5
          have hln' := hln 3
          clear hln
          rw [hln']
          clear hln'
          have hit5 : W5.heap[w4.heap.size]? = some (.stringIter v (pos + (Utf8.decode v pos).2)) := (hb5.block _ (Array.getElem?_eq_some_iff.1 hit2).1).trans hit2
          have hB5 := hB2.trans (hb5.mono hB2.size)
          have hbf : Below w.heap.size w W5 := hb1.trans (hB5.mono hb1.size)
          have HB := Lib.hid (HSP.out.trans (by rw [hst.out]; rfl : fitsRun l S (runesC v pos) = fitsRun l (behindB l S c) (runesC v (pos + (Utf8.decode v pos).2))))
          clear hbe hT2
          by_cases hkk : kk = 0
          · have hk1 : ((kk : Int) == 0) = true := by simp [hkk]
            have HK := Lib.hid (hk0.1 hkk)
            clear hkk hk0
            have hlook := SetAt.look Tryz.underlying3 und_places zero_unit hT5 (i := l.length) (wfI_of (by omega) (by omega))
            go_wp2_with fail
            rw [Exit.noGoto_ret]
            go_ret
            refine ⟨?_, hbf⟩
            have hwl : wfI (l.length : Int) := wfI_of (by omega) (by omega)
            have h9 : fitsS p v = false := by simp only [fitsS, HS.out, HR.out, HB.out, Bool.true_and]; exact fitsRun_none l hlen _ _ HK.out _ hwl
            rw [h9]
            show Ending.returned (.bool (behindB l S c l.length)) = _
            rw [HK.out _ hwl]
          · have hk1 : ((kk : Int) == 0) = false := by rw [beq_eq_false_iff_ne]; omega
            clear hkk hk0
            go_wp2_with fail
            go_roundw
            case rel => exact ⟨_, nb, _, rfl, hT5, fun i _ h => behindB_dom l S c i h, hit5, hB5, SlAt.below hB5 hsg, HB.out⟩
            case measure => rw [iterPos_of hit5, hpos0]; omega
        · have hnx : ∀ ty, (Instr.next (.pointer (some ⟨w4.heap.size, 0, none⟩)) true ty).run Tryz.prog wr = _ := fun ty => Lib.run_next_end_at wr w4.heap.size v pos ty hit hps
          have hlook := SetAt.look Tryz.underlying3 und_places zero_unit hT (i := l.length) (wfI_of (by omega) (by omega))
          go_wp2_with fail
          rw [Exit.noGoto_ret]
          go_ret
          have h9 : fitsS p v = S (l.length : Int) := by simp only [fitsS, HS.out, HR.out, HSP.out, Bool.true_and, runesC_end v pos hps]; rfl
          exact ⟨by rw [h9]; rfl, hb1.trans (hB.mono hb1.size)⟩
    · have hr' : runesOk v = false := by simpa using hr
      have HR := Lib.hid hr'
      clear hr
      go_enter Tryz.func26, Tryz.ntmps26
      go_wp2_with fail
      go_step3
      go_wp2_with (go_at_call 46; refine hS.mono ?_; rintro e w1 ⟨a, len, cap, rfl, hsg, hb1⟩)
      have hRn := Runes_any v w1 (by unfold maxLen; omega) (hG.below hb1)
      rw [hr'] at hRn
      refine hRn.mono ?_
      rintro e w2 ⟨rfl, hb2⟩
      clear hRn hS hr'
      go_wp2_with fail
      rw [Exit.noGoto_ret]
      go_ret
      exact ⟨by simp [fitsS, HS.out, HR.out], hb1.trans (hb2.mono hb1.size)⟩
end Go.Proofs.YthnfhklfmaeccaaGreatDoor

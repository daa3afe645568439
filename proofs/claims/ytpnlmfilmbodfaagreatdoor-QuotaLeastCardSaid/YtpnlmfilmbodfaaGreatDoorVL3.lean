/- Package label: quoted. -/
import Derived.Test.YtpnlmfilmbodfaaGreatDoorVL2
import Derived.Test.YtpnlmfilmbodfaaGreatDoorVB1
namespace Go.Proofs.YtpnlmfilmbodfaaGreatDoor
open Go Go.RowKit Go.Shelf
def quotedB (l : List (Nat × Int)) : List UInt8 := l.flatMap fun p => (if p.2 == 44 || p.2 == 92 then [92] else []) ++ Lib.encodeRune p.2
theorem quotedB_snoc (l : List (Nat × Int)) (p : Nat × Int) : quotedB (l ++ [p]) = quotedB l ++ ((if p.2 == 44 || p.2 == 92 then [92] else []) ++ Lib.encodeRune p.2) := by simp [quotedB]
theorem enc_le (r : Int) : (Lib.encodeRune r).length ≤ 4 := by have := Lib.runeCells_le r; rw [Lib.runeCells_length] at this; omega
theorem quotedB_len (l : List (Nat × Int)) : (quotedB l).length ≤ 5 * l.length := by
  induction l with
  | nil => simp [quotedB]
  | cons x xs ih =>
    have h := enc_le x.2
    have e : quotedB (x :: xs) = ((if x.2 == 44 || x.2 == 92 then [92] else []) ++ Lib.encodeRune x.2) ++ quotedB xs := by simp [quotedB]
    rw [e, List.length_append, List.length_append, List.length_cons]
    split <;> simp <;> omega
theorem isB_iter {T e : TypeId} {B b k : Nat} {bs : List Value} {w w' : World} {s : ByteArray} {pos : Nat} (h : Lib.IsBuilderF T e B b bs w) (hk : w.heap[k]? = some (.stringIter s pos)) (hs : ∀ j, j ≠ k → w'.heap[j]? = w.heap[j]?) : Lib.IsBuilderF T e B b bs w' := by
  have one : ∀ p, Lib.BuilderAtF T e B b p bs w → Lib.BuilderAtF T e B b p bs w' := fun p ⟨h1, v, h2, h3, h4⟩ => by
    refine ⟨h1, v, ?_, ⟨h3.1, ?_⟩, h4⟩
    · rw [hs b (fun e => by rw [e, hk] at h2; cases h2)]; exact h2
    · rcases h3.2 with h5 | ⟨g, cap, cur, fz, hv, hg, hh, r⟩
      · exact .inl h5
      · exact .inr ⟨g, cap, cur, fz, hv, hg, by rw [hs g (fun e => by rw [e, hk] at hh; cases hh)]; exact hh, r⟩
  exact h.imp (one _) (one _)
theorem isB_old {T e : TypeId} {B b : Nat} {bs : List Value} {w w' : World} (h : Lib.IsBuilderF T e B b bs w) (hs : ∀ j, j < w.heap.size → w'.heap[j]? = w.heap[j]?) : Lib.IsBuilderF T e B b bs w' := by
  have one : ∀ p, Lib.BuilderAtF T e B b p bs w → Lib.BuilderAtF T e B b p bs w' := fun p ⟨h1, v, h2, h3, h4⟩ => by
    refine ⟨h1, v, (hs b (Array.getElem?_eq_some_iff.1 h2).1).trans h2, ⟨h3.1, ?_⟩, h4⟩
    rcases h3.2 with h5 | ⟨g, cap, cur, fz, hv, hg, hh, r⟩
    · exact .inl h5
    · exact .inr ⟨g, cap, cur, fz, hv, hg, (hs g (Array.getElem?_eq_some_iff.1 hh).1).trans hh, r⟩
  exact h.imp (one _) (one _)
set_option maxRecDepth 100000 in
set_option maxHeartbeats 1000000 in
theorem quoted_any (s : ByteArray) (w : World) (hs : s.size < 4294967281) : Calls Tryz.prog 162 #[.string s] w fun e w' => e = .returned (.string ⟨(quotedB (rl s 0)).toArray⟩) ∧ Below w.heap.size w w' := by
  obtain ⟨W0, hW0, hX0, hB0, hs0⟩ := boxes1 w #[.pointer none, .slice none 0 0] 129
  have hbu : Lib.IsBuilderF 129 5 w.heap.size w.heap.size [] W0 := by rw [← hW0]; exact Lib.IsBuilderF.of (Lib.fresh_isBuilder _ _ w)
  have hit0 := World.iter_heap W0 s 0
  have hBi : Below w.heap.size w (W0.iter s 0) := hB0.alloc hB0.size _
  have hbi : Lib.IsBuilderF 129 5 w.heap.size w.heap.size [] (W0.iter s 0) := isB_old hbu (fun j hj => Below.heap_alloc _ _ _ hj)
  rw [hs0] at hit0
  have HW0 := Lib.hid hW0
  clear hW0 hX0 hs0 hbu
  go_enter Tryz.func162, Tryz.ntmps162
  go_wp2_with fail
  rw [HW0.out]
  go_loopw [5] (fun _ wr => ∃ (pos : Nat) (done : List (Nat × Int)), wr.heap[w.heap.size + 1]? = some (.stringIter s pos) ∧ Below w.heap.size w wr ∧ Lib.IsBuilderF 129 5 w.heap.size w.heap.size (Lib.byteCells (quotedB done)) wr ∧ done.length ≤ pos  ∧ Hid (rl s 0 = done ++ rl s pos)) (fun _ wr => s.size - wr.iterPos (w.heap.size + 1))
  case atStart => exact ⟨0, [], hit0, hBi, hbi, Nat.le_refl _, rfl⟩
  case round =>
    obtain ⟨pos, done, hit, hB, hbd, hdl, HS⟩ := hrel
    have hpos0 := iterPos_of hit
    have hql := quotedB_len done
    by_cases hp : pos < s.size
    · obtain ⟨W1, hnx, hit2, hB2, hsz2, hoth⟩ := next_str (P := Tryz.prog) hit hB (Nat.le_succ _) hp
      have hbd1 := isB_iter hbd hit hoth
      have hstep := Lib.hid (rl_step s pos hp)
      have hd := dec_pos s pos hp
      have hle := decode_le s pos
      have hqc : (Lib.byteCells (quotedB done)).length = (quotedB done).length := by simp [Lib.byteCells]
      have hsW : w.heap.size ≤ W1.heap.size := hB2.size
      by_cases hc : ((Utf8.decode s pos).1 : Int) = 44 ∨ ((Utf8.decode s pos).1 : Int) = 92
      · have HC : Hid ((((Utf8.decode s pos).1 : Int) == 44 || ((Utf8.decode s pos).1 : Int) == 92) = true) := by
          rcases hc with hc | hc <;> simp [Hid, hc]
        have fin : ∀ (w2 w3 : World) (hw2 : Lib.BuilderAtF 129 5 w.heap.size w.heap.size (.pointer (some ⟨w.heap.size, 0, none⟩)) (Lib.byteCells (quotedB done) ++ [.int .u8 92] ++ Lib.runeCells ((Utf8.decode s pos).1 : Int)) w3) (hb1 : Below w.heap.size W1 w2) (hk1 : Lib.OthersKept 5 (some w.heap.size) W1 w2) (hb2 : Below w.heap.size w2 w3) (hk2 : Lib.OthersKept 5 (some w.heap.size) w2 w3), ∃ (pos' : Nat) (done' : List (Nat × Int)), w3.heap[w.heap.size + 1]? = some (.stringIter s pos') ∧ Below w.heap.size w w3 ∧ Lib.IsBuilderF 129 5 w.heap.size w.heap.size (Lib.byteCells (quotedB done')) w3 ∧ done'.length ≤ pos' ∧ Hid (rl s 0 = done' ++ rl s pos') := by
          intro w2 w3 hw2 hb1 hk1 hb2 hk2
          refine ⟨pos + (Utf8.decode s pos).2, done ++ [(pos, ((Utf8.decode s pos).1 : Int))], hk2.iter (hk1.iter hit2 (by omega)) (by omega), (hB2.trans hb1).trans hb2, ?_, by simp; omega, ?_⟩
          · rw [quotedB_snoc, if_pos HC.out, Lib.byteCells_append, Lib.byteCells_append, Lib.byteCells_encodeRune, ← List.append_assoc]
            exact .inr hw2
          · show rl s 0 = _
            rw [HS.out, hstep.out]; simp
        have hcc : ((((Utf8.decode s pos).1 : Int) == 44) = true) ∨ ((((Utf8.decode s pos).1 : Int) == 44) = false ∧ (((Utf8.decode s pos).1 : Int) == 92) = true) := by
          rcases hc with hc | hc
          · exact .inl (by simp [hc])
          · exact .inr (by simp [hc])
        clear hc
        rcases hcc with hc1 | ⟨hc1, hc2⟩
        · go_wp2_with (first | (go_at_call 197; refine (WriteByte_any w.heap.size w.heap.size _ 92 _ hbd1 (by omega) hsW).mono ?_; rintro e w2 ⟨rfl, h1, hb1, hk1⟩) | (go_at_call 198; refine (WriteRune_any w.heap.size w.heap.size _ _ (by omega) (by omega) _ (.inr h1) (by rw [List.length_append, List.length_singleton]; omega) (by have := hb1.size; omega)).mono ?_; rintro e w3 ⟨⟨v, rfl⟩, h2, hb2, hk2⟩))
          go_roundw
          case rel => exact fin w2 _ h2 hb1 hk1 hb2 hk2
          case measure => rw [iterPos_of (hk2.iter (hk1.iter hit2 (by omega)) (by omega)), hpos0]; omega
        · go_wp2_with (first | (go_at_call 197; refine (WriteByte_any w.heap.size w.heap.size _ 92 _ hbd1 (by omega) hsW).mono ?_; rintro e w2 ⟨rfl, h1, hb1, hk1⟩) | (go_at_call 198; refine (WriteRune_any w.heap.size w.heap.size _ _ (by omega) (by omega) _ (.inr h1) (by rw [List.length_append, List.length_singleton]; omega) (by have := hb1.size; omega)).mono ?_; rintro e w3 ⟨⟨v, rfl⟩, h2, hb2, hk2⟩))
          go_roundw
          case rel => exact fin w2 _ h2 hb1 hk1 hb2 hk2
          case measure => rw [iterPos_of (hk2.iter (hk1.iter hit2 (by omega)) (by omega)), hpos0]; omega
      · have hc1 : (((Utf8.decode s pos).1 : Int) == 44) = false := by simp; omega
        have hc2 : (((Utf8.decode s pos).1 : Int) == 92) = false := by simp; omega
        clear hc
        go_wp2_with (go_at_call 198; refine (WriteRune_any w.heap.size w.heap.size _ _ (by omega) (by omega) _ hbd1 (by omega) hsW).mono ?_; rintro e w3 ⟨⟨v, rfl⟩, h2, hb2, hk2⟩)
        go_roundw
        case rel =>
          refine ⟨pos + (Utf8.decode s pos).2, done ++ [(pos, ((Utf8.decode s pos).1 : Int))], hk2.iter hit2 (by omega), hB2.trans hb2, ?_, by simp; omega, ?_⟩
          · rw [quotedB_snoc, if_neg (by rw [hc1, hc2]; decide), List.nil_append, Lib.byteCells_append, Lib.byteCells_encodeRune]
            exact .inr h2
          · show rl s 0 = _
            rw [HS.out, hstep.out]; simp
        case measure => rw [iterPos_of (hk2.iter hit2 (by omega)), hpos0]; omega
    · have hnx : ∀ ty, (Instr.next (.pointer (some ⟨w.heap.size + 1, 0, none⟩)) true ty).run Tryz.prog wr = _ := fun ty => Lib.run_next_end_at wr (w.heap.size + 1) s pos ty hit hp
      go_wp2_with (go_at_call 103; refine (Tryz.Builder_String_any_f w.heap.size w.heap.size _ _ hbd hB.size).mono ?_; rintro e w3 ⟨rfl, h2, hb2⟩)
      go_ret
      have h3 := HS.out
      rw [rl_end s pos hp, List.append_nil] at h3
      rw [h3]
      exact ⟨rfl, hB.trans hb2⟩
end Go.Proofs.YtpnlmfilmbodfaaGreatDoor

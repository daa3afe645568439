/- strings.SplitSeq at a separator of one byte ';'. -/
import Derived.Test.YtohfemdjkdjeeaaDoorS4
import Derived.Test.YtohfemdjkdjeeaaDoorA2
namespace Go.Proofs.YtohfemdjkdjeeaaDoor
open Go Go.RowKit Go.Shelf
attribute [local go_sem] Oper.semAt_some

abbrev StrK := { s : ByteArray // s.size < 4294967281 }
def semi : ByteArray := ⟨#[59]⟩
def semiAt (s : ByteArray) : Option Nat := if Lib.indexByte s.data.toList 59 < 0 then none else some (Lib.indexByte s.data.toList 59).toNat
theorem indexByte_lt : ∀ (l : List UInt8) (c : UInt8), Lib.indexByte l c < l.length
  | [], _ => by simp [Lib.indexByte]
  | b :: l, c => by
    have := indexByte_lt l c
    simp only [Lib.indexByte, List.length_cons]
    split
    · omega
    · split <;> omega
theorem semiAt_some {s : ByteArray} {k : Nat} (h : semiAt s = some k) : Lib.indexByte s.data.toList 59 = (k : Int) ∧ k < s.size := by
  unfold semiAt at h
  split at h
  · cases h
  · cases h
    have := indexByte_lt s.data.toList 59
    rw [Lib.size_eq]
    omega
theorem semiAt_none {s : ByteArray} (h : semiAt s = none) : Lib.indexByte s.data.toList 59 < 0 := by
  unfold semiAt at h
  split at h
  · assumption
  · cases h
theorem ext_size (s : ByteArray) (a b : Nat) : (s.extract a b).size ≤ s.size := by simp [ByteArray.size_extract]; omega
def splitGo : Nat → StrK → List StrK
  | 0, s => [s]
  | f + 1, s => match semiAt s.1 with
    | none => [s]
    | some k => ⟨s.1.extract 0 k, Nat.lt_of_le_of_lt (ext_size _ _ _) s.2⟩ :: splitGo f ⟨s.1.extract (k + 1) s.1.size, Nat.lt_of_le_of_lt (ext_size _ _ _) s.2⟩
theorem splitGo_fuel : ∀ (f g : Nat) (s : StrK), s.1.size < f → s.1.size < g → splitGo f s = splitGo g s
  | 0, _, _, h, _ => by omega
  | _, 0, _, _, h => by omega
  | f + 1, g + 1, s, hf, hg => by
    simp only [splitGo]
    split
    · rfl
    · rename_i k hk
      have := (semiAt_some hk).2
      rw [splitGo_fuel f g _ (by simp [ByteArray.size_extract]; omega) (by simp [ByteArray.size_extract]; omega)]
def splitL (s : StrK) : List StrK := splitGo (s.1.size + 1) s
theorem splitL_none (s : StrK) (h : semiAt s.1 = none) : splitL s = [s] := by simp [splitL, splitGo, h]
theorem splitL_some (s : StrK) (k : Nat) (h : semiAt s.1 = some k) : splitL s = ⟨s.1.extract 0 k, Nat.lt_of_le_of_lt (ext_size _ _ _) s.2⟩ :: splitL ⟨s.1.extract (k + 1) s.1.size, Nat.lt_of_le_of_lt (ext_size _ _ _) s.2⟩ := by
  have := (semiAt_some h).2
  have e := splitGo_fuel s.1.size ((s.1.extract (k + 1) s.1.size).size + 1) ⟨s.1.extract (k + 1) s.1.size, Nat.lt_of_le_of_lt (ext_size _ _ _) s.2⟩ (by simp [ByteArray.size_extract]; omega) (by simp)
  unfold splitL
  rw [← e]
  simp only [splitGo, h]
def boxLen (b : Nat) (w : World) : Nat := match w.cell? ⟨b, 0, none⟩ with | some (.string s) => s.size | _ => 0
theorem boxLen_of {b t : Nat} {w : World} {s : ByteArray} (h : Boxed w b t (.string s)) : boxLen b w = s.size := by simp [boxLen, h.cell]

/-- The three boxes of the iterator lie as they lay. -/
def SameAt (b : Nat) (W W' : World) : Prop := W'.heap[b]? = W.heap[b]? ∧ W'.heap[b + 1]? = W.heap[b + 1]? ∧ W'.heap[b + 2]? = W.heap[b + 2]?
theorem sameAt_t {b : Nat} {A B C : World} (h : SameAt b A B) (k : SameAt b B C) : SameAt b A C := ⟨k.1.trans h.1, k.2.1.trans h.2.1, k.2.2.trans h.2.2⟩

theorem SplitSeq_any (s sep : ByteArray) (w : World) : Calls Tryd.prog 26 #[.string s, .string sep] w fun e w' =>
    e = .returned (.func (.func 46) #[] #[.pointer (some ⟨w.heap.size + 1, 0, none⟩), .pointer (some ⟨w.heap.size, 0, none⟩), .pointer (some ⟨w.heap.size + 1 + 1, 0, none⟩)]) ∧
      w' = ((w.alloc (.cells #[.string s] 9)).alloc (.cells #[.string sep] 9)).alloc (.cells #[.int .i64 0] 3) := by
  go_enter Tryd.func26, Tryd.ntmps26
  go_wp2
  go_ret
  exact ⟨rfl, rfl⟩

set_option maxRecDepth 100000 in
set_option maxHeartbeats 2000000 in
theorem splitSeq_stops (b : Nat) (s : StrK) (w : World) (h0 : Boxed w b 9 (.string s.1)) (h1 : Boxed w (b + 1) 9 (.string semi)) (h2 : Boxed w (b + 2) 3 (.int .i64 0)) :
    SeqStopsX Tryd.prog 46 #[.pointer (some ⟨b + 1, 0, none⟩), .pointer (some ⟨b, 0, none⟩), .pointer (some ⟨b + 2, 0, none⟩)] (fun x : StrK => #[.string x.1]) (SameAt b) b (splitL s) w := fun l J Jx W hW hJ hJx hY hJ0 => by
  have hb0 := bBoxed hW h0.lt h0
  have hb1 := bBoxed hW h1.lt h1
  have hb2 := bBoxed hW h2.lt h2
  have c1 := hb1.cell
  clear h0 h1 h2
  refine callsIn_of_wp Tryd.func46 rfl trivial ?_ rfl
  simp only [Tryd.ntmps46, List.size_toArray, List.length_cons, List.length_nil, Nat.reduceAdd, Nat.reduceSub, Array.replicate_succ, Array.replicate_zero, List.push_toArray, List.append_toArray, List.nil_append, List.cons_append]
  unfold semi at c1 hb1
  gi_wp2_with fail
  gi_loopw [] (fun wr => ∃ (cur : StrK) (pre : List StrK), Boxed wr b 9 (.string cur.1) ∧ Boxed wr (b + 1) 9 (.string ⟨#[59]⟩) ∧ Boxed wr (b + 2) 3 (.int .i64 0) ∧ J pre wr ∧ splitL s = pre ++ splitL cur ∧ W.heap.size ≤ wr.heap.size) (fun wr => boxLen b wr)
  case atStart => exact ⟨s, [], hb0, hb1, hb2, hJ0, rfl, Nat.le_refl _⟩
  case round =>
    obtain ⟨cur, pre, k0, k1, k2, hJp, hsp, hsz⟩ := hrel
    have HS := Lib.hid hsp
    have q0 := k0.cell
    have q1 := k1.cell
    have q2 := k2.cell
    have hbl := boxLen_of k0
    have hix := Tryd.strings_Index_one cur.1 59 wr
    clear hb0 hb1 hb2 c1 hsp
    cases hk : semiAt cur.1 with
    | none =>
      have hneg := semiAt_none hk
      have HL := Lib.hid (splitL_none cur hk)
      obtain ⟨fn, tmps, assign, body, hy, hR⟩ := hY pre cur wr hJp hsz
      clear hk
      have hpx : Hid (pre ++ [cur] = splitL s) := by rw [HS.out, HL.out]; rfl
      gi_wp2_with fail
      refine ⟨trivial, (callsIn_wide.2 hix).mono ?_⟩
      rintro e w' ⟨rfl, rfl⟩
      gi_wp2_with fail
      refine hR.mono ?_
      rintro e W3 (⟨rfl, hJ3, _, _⟩ | ⟨rfl, hJx3, _⟩)
      · gi_wp2_with fail
        go_end0
        exact ⟨⟨_, rfl⟩, .inl (by rw [← hpx.out]; exact hJ3)⟩
      · gi_wp2_with fail
        go_end0
        exact ⟨⟨_, rfl⟩, .inr ⟨_, by rw [hpx.out]; exact List.prefix_refl _, hJx3⟩⟩
    | some k =>
      obtain ⟨hki, hkl⟩ := semiAt_some hk
      have HL := Lib.hid (splitL_some cur k hk)
      have hc2 := cur.2
      obtain ⟨fn, tmps, assign, body, hy, hR⟩ := hY pre ⟨cur.1.extract 0 k, Nat.lt_of_le_of_lt (ext_size _ _ _) cur.2⟩ wr hJp hsz
      rw [hki] at hix
      clear hk hki
      dsimp only at hy
      gi_wp2_with fail
      refine ⟨trivial, (callsIn_wide.2 hix).mono ?_⟩
      rintro e w' ⟨rfl, rfl⟩
      clear hix
      gi_wp2_with fail
      refine hR.mono ?_
      rintro e W3 (⟨rfl, hJ3, hs3, hz3⟩ | ⟨rfl, hJx3, hz3⟩)
      · have m0 : Boxed W3 b 9 (.string cur.1) := hs3.1.trans k0
        have m1 : Boxed W3 (b + 1) 9 (.string ⟨#[59]⟩) := hs3.2.1.trans k1
        have m2 : Boxed W3 (b + 2) 3 (.int .i64 0) := hs3.2.2.trans k2
        have r0 := m0.cell
        have r1 := m1.cell
        have r2 := m0.frozen
        clear k0 k1 k2 q0 q1 q2 hy hR hJp
        gi_wp2_with fail
        go_roundw
        case rel =>
          refine ⟨⟨cur.1.extract (k + 1) cur.1.size, Nat.lt_of_le_of_lt (ext_size _ _ _) cur.2⟩, pre ++ [⟨cur.1.extract 0 k, Nat.lt_of_le_of_lt (ext_size _ _ _) cur.2⟩], m0.set _, m1.other (by omega) _, m2.other (by omega) _, hJ _ _ _ (some b) hJ3 (grownBy_setCell' _ _ _) (fun r e => by cases e; rfl) (by omega), ?_, ?_⟩
          · rw [HS.out, HL.out]; simp
          · have := (KeepsWalks.setCell W3 ⟨b, 0, none⟩ (.string (cur.1.extract (k + 1) cur.1.size))).size; omega
        case measure =>
          rw [boxLen_of (m0.set _), hbl]
          simp [ByteArray.size_extract]; omega
      · gi_wp2_with fail
        refine bodyPost_ret (results_none rfl _ _ _) rfl ?_
        exact ⟨⟨_, rfl⟩, .inr ⟨_, by rw [HS.out, HL.out]; simp, hJx3⟩⟩
end Go.Proofs.YtohfemdjkdjeeaaDoor

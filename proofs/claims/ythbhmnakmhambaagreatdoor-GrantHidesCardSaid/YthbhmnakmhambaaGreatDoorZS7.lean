/- strings.SplitSeq at a separator of one byte ';'. Package scope: read, Right. Package scope: Means. -/
import Derived.Test.YthbhmnakmhambaaGreatDoorZLJ
namespace Go.Proofs.YthbhmnakmhambaaGreatDoor
open Go Go.RowKit Go.Shelf
attribute [local go_sem] Oper.semAt_some
abbrev StrK := { s : ByteArray // s.size < 4294967281 }
def semi : ByteArray := ⟨#[59]⟩
def semiAt (s : ByteArray) : Option Nat := if Lib.indexByte s.data.toList 59 < 0 then none else some (Lib.indexByte s.data.toList 59).toNat
theorem indexByte_lt : ∀ (l : List UInt8) (c : UInt8), Lib.indexByte l c < l.length
 | [], _ => by simp [Lib.indexByte]
 | b :: l, c => by
  have := indexByte_lt l c
  simp only [Lib.indexByte, List.length_cons]
  split
  ·omega
  ·split <;> omega
theorem semiAt_some {s : ByteArray} {k : Nat} (h : semiAt s = some k) : Lib.indexByte s.data.toList 59 = (k : Int) ∧ k < s.size := by
 unfold semiAt at h
 split at h
 ·cases h
 ·cases h
  have := indexByte_lt s.data.toList 59
  rw [Lib.size_eq]
  omega
theorem semiAt_none {s : ByteArray} (h : semiAt s = none) : Lib.indexByte s.data.toList 59 < 0 := by
 unfold semiAt at h
 split at h
 ·assumption
 ·cases h
theorem ext_size (s : ByteArray) (a b : Nat) : (s.extract a b).size ≤ s.size := by simp [ByteArray.size_extract]; omega
def splitGo : Nat → StrK → List StrK
 | 0, s => [s]
 | f + 1, s => match semiAt s.1 with
  | none => [s]
  | some k => ⟨s.1.extract 0 k, Nat.lt_of_le_of_lt (ext_size _ _ _) s.2⟩ :: splitGo f ⟨s.1.extract (k + 1) s.1.size, Nat.lt_of_le_of_lt (ext_size _ _ _) s.2⟩
theorem splitGo_fuel : ∀ (f g : Nat) (s : StrK), s.1.size < f → s.1.size < g → splitGo f s = splitGo g s
 | 0, _, _, h, _ => by omega
 | _, 0, _, _, h => by omega
 | f + 1, g + 1, s, hf, hg => by
  simp only [splitGo]
  split
  ·rfl
  ·rename_i k hk
   have := (semiAt_some hk).2
   rw [splitGo_fuel f g _ (by simp [ByteArray.size_extract]; omega) (by simp [ByteArray.size_extract]; omega)]
def splitL (s : StrK) : List StrK := splitGo (s.1.size + 1) s
theorem splitL_none (s : StrK) (h : semiAt s.1 = none) : splitL s = [s] := by simp [splitL, splitGo, h]
theorem splitL_some (s : StrK) (k : Nat) (h : semiAt s.1 = some k) : splitL s = ⟨s.1.extract 0 k, Nat.lt_of_le_of_lt (ext_size _ _ _) s.2⟩ :: splitL ⟨s.1.extract (k + 1) s.1.size, Nat.lt_of_le_of_lt (ext_size _ _ _) s.2⟩ := by
 have := (semiAt_some h).2
 have e := splitGo_fuel s.1.size ((s.1.extract (k + 1) s.1.size).size + 1) ⟨s.1.extract (k + 1) s.1.size, Nat.lt_of_le_of_lt (ext_size _ _ _) s.2⟩ (by simp [ByteArray.size_extract]; omega) (by simp)
 unfold splitL
 rw [← e]
 simp only [splitGo, h]
def boxLen (b : Nat) (w : World) : Nat := match w.cell? ⟨b, 0, none⟩ with | some (.string s) => s.size | _ => 0
theorem boxLen_of {b t : Nat} {w : World} {s : ByteArray} (h : Boxed w b t (.string s)) : boxLen b w = s.size := by simp [boxLen, h.cell]
def SameAt (b : Nat) (W W' : World) : Prop := W'.heap[b]? = W.heap[b]? ∧ W'.heap[b + 1]? = W.heap[b + 1]? ∧ W'.heap[b + 2]? = W.heap[b + 2]?
theorem sameAt_t {b : Nat} {A B C : World} (h : SameAt b A B) (k : SameAt b B C) : SameAt b A C := ⟨k.1.trans h.1, k.2.1.trans h.2.1, k.2.2.trans h.2.2⟩
theorem SplitSeq_any (s sep : ByteArray) (w : World) : Calls Tryz.prog 110 #[.string s, .string sep] w fun e w' =>
  e = .returned (.func (.func 149) #[] #[.pointer (some ⟨w.heap.size + 1, 0, none⟩), .pointer (some ⟨w.heap.size, 0, none⟩), .pointer (some ⟨w.heap.size + 1 + 1, 0, none⟩)]) ∧
   w' = ((w.alloc (.cells #[.string s] 9)).alloc (.cells #[.string sep] 9)).alloc (.cells #[.int .i64 0] 3) := by
 go_enter Tryz.func110, Tryz.ntmps110
 go_wp2
 go_ret
 exact ⟨rfl, rfl⟩
set_option maxRecDepth 100000 in
set_option maxHeartbeats 2000000 in
theorem splitSeq_stops (b : Nat) (s : StrK) (w : World) (h0 : Boxed w b 9 (.string s.1)) (h1 : Boxed w (b + 1) 9 (.string semi)) (h2 : Boxed w (b + 2) 3 (.int .i64 0)) :
  SeqStopsX Tryz.prog 149 #[.pointer (some ⟨b + 1, 0, none⟩), .pointer (some ⟨b, 0, none⟩), .pointer (some ⟨b + 2, 0, none⟩)] (fun x : StrK => #[.string x.1]) (SameAt b) b (splitL s) w := fun l J Jx W hW hJ hJx hY hJ0 => by
 have hb0 := bBoxed hW h0.lt h0
 have hb1 := bBoxed hW h1.lt h1
 have hb2 := bBoxed hW h2.lt h2
 have c1 := hb1.cell
 clear h0 h1 h2
 refine callsIn_of_wp Tryz.func149 rfl trivial ?_ rfl
 simp only [Tryz.ntmps149, List.size_toArray, List.length_cons, List.length_nil, Nat.reduceAdd, Nat.reduceSub, Array.replicate_succ, Array.replicate_zero, List.push_toArray, List.append_toArray, List.nil_append, List.cons_append]
 unfold semi at c1 hb1
 gi_wp2_with fail
 gi_loopw [] (fun wr => ∃ (cur : StrK) (pre : List StrK), Boxed wr b 9 (.string cur.1) ∧ Boxed wr (b + 1) 9 (.string ⟨#[59]⟩) ∧ Boxed wr (b + 2) 3 (.int .i64 0) ∧ J pre wr ∧ splitL s = pre ++ splitL cur ∧ W.heap.size ≤ wr.heap.size) (fun wr => boxLen b wr)
 case atStart => exact ⟨s, [], hb0, hb1, hb2, hJ0, rfl, Nat.le_refl _⟩
 case round =>
  obtain ⟨cur, pre, k0, k1, k2, hJp, hsp, hsz⟩ := hrel
  have HS := Lib.hid hsp
  have q0 := k0.cell
  have q1 := k1.cell
  have q2 := k2.cell
  have hbl := boxLen_of k0
  have hix := Tryz.strings_Index_one cur.1 59 wr
  clear hb0 hb1 hb2 c1 hsp
  cases hk : semiAt cur.1 with
  | none =>
   have hneg := semiAt_none hk
   have HL := Lib.hid (splitL_none cur hk)
   obtain ⟨fn, tmps, assign, body, hy, hR⟩ := hY pre cur wr hJp hsz
   clear hk
   have hpx : Hid (pre ++ [cur] = splitL s) := by rw [HS.out, HL.out]; rfl
   gi_wp2_with fail
   refine ⟨trivial, (callsIn_wide.2 hix).mono ?_⟩
   rintro e w' ⟨rfl, rfl⟩
   gi_wp2_with fail
   refine hR.mono ?_
   rintro e W3 (⟨rfl, hJ3, _, _⟩ | ⟨rfl, hJx3, _⟩)
   ·gi_wp2_with fail
    go_end0
    exact ⟨⟨_, rfl⟩, .inl (by rw [← hpx.out]; exact hJ3)⟩
   ·gi_wp2_with fail
    go_end0
    exact ⟨⟨_, rfl⟩, .inr ⟨_, by rw [hpx.out]; exact List.prefix_refl _, hJx3⟩⟩
  | some k =>
   obtain ⟨hki, hkl⟩ := semiAt_some hk
   have HL := Lib.hid (splitL_some cur k hk)
   have hc2 := cur.2
   obtain ⟨fn, tmps, assign, body, hy, hR⟩ := hY pre ⟨cur.1.extract 0 k, Nat.lt_of_le_of_lt (ext_size _ _ _) cur.2⟩ wr hJp hsz
   rw [hki] at hix
   clear hk hki
   dsimp only at hy
   gi_wp2_with fail
   refine ⟨trivial, (callsIn_wide.2 hix).mono ?_⟩
   rintro e w' ⟨rfl, rfl⟩
   clear hix
   gi_wp2_with fail
   refine hR.mono ?_
   rintro e W3 (⟨rfl, hJ3, hs3, hz3⟩ | ⟨rfl, hJx3, hz3⟩)
   ·have m0 : Boxed W3 b 9 (.string cur.1) := hs3.1.trans k0
    have m1 : Boxed W3 (b + 1) 9 (.string ⟨#[59]⟩) := hs3.2.1.trans k1
    have m2 : Boxed W3 (b + 2) 3 (.int .i64 0) := hs3.2.2.trans k2
    have r0 := m0.cell
    have r1 := m1.cell
    have r2 := m0.frozen
    clear k0 k1 k2 q0 q1 q2 hy hR hJp
    gi_wp2_with fail
    go_roundw
    case rel =>
     refine ⟨⟨cur.1.extract (k + 1) cur.1.size, Nat.lt_of_le_of_lt (ext_size _ _ _) cur.2⟩, pre ++ [⟨cur.1.extract 0 k, Nat.lt_of_le_of_lt (ext_size _ _ _) cur.2⟩], m0.set _, m1.other (by omega) _, m2.other (by omega) _, hJ _ _ _ (some b) hJ3 (grownBy_setCell' _ _ _) (fun r e => by cases e; rfl) (by omega), ?_, ?_⟩
     ·rw [HS.out, HL.out]; simp
     ·have := (KeepsWalks.setCell W3 ⟨b, 0, none⟩ (.string (cur.1.extract (k + 1) cur.1.size))).size; omega
    case measure =>
     rw [boxLen_of (m0.set _), hbl]
     simp [ByteArray.size_extract]; omega
   ·gi_wp2_with fail
    refine bodyPost_ret (results_none rfl _ _ _) rfl ?_
    exact ⟨⟨_, rfl⟩, .inr ⟨_, by rw [HS.out, HL.out]; simp, hJx3⟩⟩
end Go.Proofs.YthbhmnakmhambaaGreatDoor
namespace Go.Proofs.YthbhmnakmhambaaGreatDoor
open Go Go.RowKit Go.Shelf
attribute [local go_sem] Oper.semAt_some
def cutB (s : ByteArray) : ByteArray × ByteArray × Bool := (⟨(Lib.cut s.data.toList [61]).1.toArray⟩, ⟨(Lib.cut s.data.toList [61]).2.1.toArray⟩, (Lib.cut s.data.toList [61]).2.2)
theorem cutB_size (s : ByteArray) : (cutB s).1.size ≤ s.size ∧ (cutB s).2.1.size ≤ s.size := by
 have e := Lib.size_eq s
 have h1 : (Lib.cut s.data.toList [61]).1.length ≤ s.data.toList.length ∧ (Lib.cut s.data.toList [61]).2.1.length ≤ s.data.toList.length := by
  unfold Lib.cut
  split
  ·simp only [List.length_take, List.length_drop]; omega
  ·simp
 rw [e]
 exact ⟨by show Array.size _ ≤ _; rw [List.size_toArray]; exact h1.1, by show Array.size _ ≤ _; rw [List.size_toArray]; exact h1.2⟩
theorem Cut_any (s : ByteArray) (w : World) (hs : s.size < 4294967281) (hG : GW w) : Calls Tryz.prog 111 #[.string s, .string ⟨#[61]⟩] w fun e w' => e = .returned (.tuple #[.string (cutB s).1, .string (cutB s).2.1, .bool (cutB s).2.2]) ∧ Below w.heap.size w w' := by
 obtain ⟨m, hm⟩ := hG.maxLen
 refine (Tryz.strings_Cut s ⟨#[61]⟩ m w hs hm).mono ?_
 rintro e w' ⟨rfl, n, rfl⟩
 exact ⟨rfl, bDr (Below.refl _ _) n⟩
structure Term where
 name : ByteArray
 pat : ByteArray
def Term.enc (t : Term) : List Value := [.string t.name, .string t.pat]
def readStep (x : StrK) (st : List Term × ByteArray) : Option (List Term × ByteArray) :=
 if !(cutB x.1).2.2 || (st.1.length : Int) == 4 || !scName (cutB x.1).1 || strLe (cutB x.1).1 st.2 || !isPatS (cutB x.1).2.1 then none else some (st.1 ++ [⟨(cutB x.1).1, (cutB x.1).2.1⟩], (cutB x.1).1)
def readSt (l : List StrK) : Option (List Term × ByteArray) := l.foldl (fun st x => st.bind (readStep x)) (some ([], ⟨#[]⟩))
theorem readSt_snoc (l : List StrK) (x : StrK) : readSt (l ++ [x]) = (readSt l).bind (readStep x) := by simp [readSt]
theorem foldl_none (l : List StrK) : l.foldl (fun st x => st.bind (readStep x)) none = none := by
 induction l with
 | nil => rfl
 | cons x xs ih => exact ih
theorem readSt_prefix (ps ls : List StrK) (hp : ps <+: ls) (h : readSt ps = none) : readSt ls = none := by
 obtain ⟨t, rfl⟩ := hp
 unfold readSt at h ⊢
 rw [List.foldl_append, h, foldl_none]
def readS (s : StrK) : Option (List Term) := if s.1.size == 0 then some [] else (readSt (splitL s)).map (·.1)
theorem readStep_len {x : StrK} {st st' : List Term × ByteArray} (h : readStep x st = some st') (hl : st.1.length ≤ 4) : st'.1.length ≤ 4 := by
 unfold readStep at h
 split at h
 ·cases h
 ·rename_i hc
  cases h
  simp at hc
  simp
  omega
theorem readSt_len (l : List StrK) : ∀ (st0 st : List Term × ByteArray), st0.1.length ≤ 4 → l.foldl (fun st x => st.bind (readStep x)) (some st0) = some st → st.1.length ≤ 4 := by
 induction l with
 | nil => intro st0 st h0 h; cases h; exact h0
 | cons x xs ih =>
  intro st0 st h0 h
  simp only [List.foldl_cons, Option.bind_some] at h
  cases hx : readStep x st0 with
  | none => rw [hx, foldl_none] at h; cases h
  | some st1 => rw [hx] at h; exact ih st1 st (readStep_len hx h0) h
def TermsAt (n₀ : Nat) (w : World) (sv : Value) (l : List Term) : Prop := SlAt n₀ w sv l.length (l.flatMap Term.enc)
def ReadPost (s : StrK) (w : World) (e : Ending) (w' : World) : Prop :=
 ∃ a len cap, e = .returned (.tuple #[.slice a len cap, .bool (readS s).isSome]) ∧ TermsAt w'.heap.size w' (.slice a len cap) ((readS s).getD []) ∧ Below w.heap.size w w'
theorem info_term : (Tryz.prog.info? 151).map (fun i => (i.zero, i.size, i.bytes)) = some (some (.agg #[.string ⟨#[]⟩, .string ⟨#[]⟩]), 2, 32) := by kernel_rfl
theorem und_terms : Tryz.prog.underlying 141 = some (.slice 151) := by kernel_rfl
def ReadI (n : Nat) (w : World) (pre : List StrK) (W : World) : Prop :=
 ∃ v acc before, Boxed W n 141 v ∧ W.ownsRow (n + 6) 151 2 v acc.length (acc.flatMap Term.enc) ∧ Boxed W (n + 1) 4 (.bool true) ∧ Boxed W (n + 2) 9 (.string before) ∧ readSt pre = some (acc, before) ∧ Below n w W
theorem readI_own {n N : Nat} {w : World} (hn : n ≤ w.heap.size) (hN : n ≤ N) : OwnX N (n + 3) (ReadI n w) := fun s X Y row hs hg hr => by
 obtain ⟨v, acc, before, h1, h2, h3, h4, h5, h6⟩ := hs
 refine ⟨v, acc, before, ownX_box N (n + 3) n _ (fun _ : Unit => v) (by omega) () X Y row h1 hg hr, h2.kept hg ?_, ownX_box N (n + 3) (n + 1) _ (fun _ : Unit => .bool true) (by omega) () X Y row h3 hg hr, ownX_box N (n + 3) (n + 2) _ (fun _ : Unit => .string before) (by omega) () X Y row h4 hg hr, h5, ownX_below hn hN (by omega) () X Y row h6 hg hr⟩
 rcases h2.2 with ⟨rfl, _⟩ | ⟨g, cap, cur, rfl, hgb, hgg, _⟩
 ·exact .inl rfl
 ·refine .inr (fun e => ?_)
  have e' : row = some g := by rw [← e]; rfl
  rcases hr g e' with h | ⟨_, o, ho, hc⟩
  ·omega
  ·rw [hgg] at ho; cases ho; cases hc
def ReadX (n : Nat) (w : World) (c : Code) (pre : List StrK) (W : World) : Prop := Boxed W (n + 1) 4 (.bool false) ∧ (c = .exit 0 ∧ readSt pre = none) ∧ Below n w W
theorem readX_own {n N : Nat} {w : World} (hn : n ≤ w.heap.size) (hN : n ≤ N) (c : Code) : OwnX N (n + 3) (ReadX n w c) :=
 (ownX_box _ _ _ _ _ (by omega)).and ((ownX_pure _ _ _).and (ownX_below hn hN (by omega)))
def RB (n : Nat) (w : World) (v : Value) (acc : List Term) (before : ByteArray) (W : World) : Prop :=
 Boxed W n 141 v ∧ W.ownsRow (n + 6) 151 2 v acc.length (acc.flatMap Term.enc) ∧ Boxed W (n + 1) 4 (.bool true) ∧ Boxed W (n + 2) 9 (.string before) ∧ Below n w W
theorem RB.below {n : Nat} {w : World} {v : Value} {acc : List Term} {before : ByteArray} {W W' : World} (h : RB n w v acc before W) (hb : Below W.heap.size W W') : RB n w v acc before W' := by
 obtain ⟨h1, h2, h3, h4, h5⟩ := h
 have := h1.lt
 exact ⟨bBoxed hb h1.lt h1, owns_of_blocks h2 (fun j _ hj => hb.block j hj), bBoxed hb h3.lt h3, bBoxed hb h4.lt h4, h5.trans (hb.mono (by omega))⟩
theorem sameAt_below {b N : Nat} {W W' : World} (h : Below N W W') (hN : b + 2 < N) : SameAt b W W' := ⟨h.block _ (by omega), h.block _ (by omega), h.block _ (by omega)⟩
theorem read_exit {n N : Nat} {w : World} {v : Value} {acc : List Term} {before : ByteArray} {W W' : World} {pre : List StrK} {x : StrK} (h : RB n w v acc before W') (hK : KeepsFrom N W W') (hn : readSt (pre ++ [x]) = none) :
  KeepsFrom N W (W'.setCell ⟨n + 1, 0, none⟩ (.bool false)) ∧ ReadX n w (.exit 0) (pre ++ [x]) (W'.setCell ⟨n + 1, 0, none⟩ (.bool false)) :=
 ⟨hK.trans ((KeepsOthers.setCell _ _ _).from _), h.2.2.1.set _, ⟨rfl, hn⟩, h.2.2.2.2.setCell (p := ⟨n + 1, 0, none⟩) (Nat.le_succ _) _⟩
theorem appKeeps {W w1 : World} {B base e size n : Nat} {v : Value} {xs : List Value} (hown : W.ownsRow base e size v n xs) (hz : W.heap.size ≤ w1.heap.size) (h6 : ∀ k, k < W.heap.size → some k ≠ v.ownBlock → w1.heap[k]? = W.heap[k]?) : KeepsFrom B W w1 :=
 ⟨hz, fun k o _ hk ho => by
  refine (h6 k (Array.getElem?_eq_some_iff.1 hk).1 (fun e => ?_)).trans hk
  rcases hown.2 with ⟨rfl, _⟩ | ⟨g, cap, cur, rfl, _, hg, _⟩
  ·cases e
  ·have : k = g := by cases e; rfl
   subst this
   rw [hg] at hk; cases hk; cases ho⟩
theorem owns_form {w : World} {base e size n : Nat} {v : Value} {xs : List Value} (h : w.ownsRow base e size v n xs) : ∃ a cap, v = .slice a n cap := by
 rcases h.2 with ⟨rfl, rfl⟩ | ⟨g, cap, cur, rfl, _⟩
 ·exact ⟨none, 0, rfl⟩
 ·exact ⟨_, cap, rfl⟩
set_option maxRecDepth 100000 in
set_option maxHeartbeats 2000000 in
theorem read_mid (s : StrK) (w : World) (hG : GW w) (h0 : ¬ s.1.size = 0) : Calls Tryz.prog 80 #[.string s.1] w (ReadPost s w) := by
 have he1 : s.1.toList.isEmpty = false := by rw [toList_isEmpty]; simp [h0]
 have he2 : ¬ s.1.toList = [] := by simpa using he1
 refine calls_marks Tryz.func80 rfl ?_
 simp only [Tryz.ntmps80, List.size_toArray, List.length_cons, List.length_nil, Nat.reduceAdd, Nat.reduceSub, Array.replicate_succ, Array.replicate_zero, List.push_toArray, List.append_toArray, List.nil_append, List.cons_append]
 go_wp2_with fail
 go_step3
 go_wp2_with fail
 go_step3
 go_wp2_with (go_at_call 110; refine (SplitSeq_any _ _ _).mono ?_; rintro e w' ⟨rfl, rfl⟩)
 obtain ⟨X, hX, b0, b1, b2, hB3, hs3⟩ := box3 w (.slice none 0 0) 141 (.bool true) 4 (.string ⟨#[]⟩) 9
 rw [hX]
 clear hX
 obtain ⟨W0, hW0, d0, d1, d2, hB6, hs6⟩ := box3 X (.string s.1) 9 (.string ⟨#[59]⟩) 9 (.int .i64 0) 3
 rw [hW0]
 clear hW0
 rw [hs3] at d0 d1 d2 hs6
 have b0' := bBoxed hB6 b0.lt b0
 have b1' := bBoxed hB6 b1.lt b1
 have b2' := bBoxed hB6 b2.lt b2
 have hB0 : Below w.heap.size w W0 := hB3.trans (hB6.mono hB3.size)
 clear b0 b1 b2 hB3 hB6 hs3
 have hG0 := hG.below hB0
 refine wp_rangeX1 7 (fun x : StrK => .string x.1) (gf := 149) (lb := #[.pointer (some ⟨w.heap.size + 3 + 1, 0, none⟩), .pointer (some ⟨w.heap.size + 3, 0, none⟩), .pointer (some ⟨w.heap.size + 3 + 2, 0, none⟩)]) rfl (enters_of Tryz.func149 (by kernel_rfl) rfl)
  (splitSeq_stops (w.heap.size + 3) s W0 d0 d1 d2) (by omega) sameAt_t (fun W l o o' hl ho hc hw => ?kb) (fun _ => rfl) (ReadI w.heap.size w) (ReadX w.heap.size w) (readI_own (Nat.le_refl _) (by omega)) (readX_own (Nat.le_refl _) (by omega))
  ⟨_, [], ⟨#[]⟩, b0', World.ownsRow_nil _ _ _ _, b1', b2', rfl, hB0⟩ ?assign ?body ?done ?stop
 case kb => exact ⟨World.putObj_heap_other (by omega), World.putObj_heap_other (by omega), World.putObj_heap_other (by omega)⟩
 case assign =>
  rintro l x W K hK
  simp only [List.zip_toArray, List.zip_cons_cons, List.zip_nil_right, List.size_toArray, List.foldl_toArray', List.foldl_cons, List.foldl_nil, List.setIfInBounds_toArray, List.set_cons_succ, List.set_cons_zero] at hK ⊢
  gi_wp2
  exact hK
 case body =>
  rintro l pre x W ⟨v, acc, before, k0, k1, k2, k3, hst, hB⟩ hsz
  simp only [List.zip_toArray, List.zip_cons_cons, List.zip_nil_right, List.size_toArray, List.foldl_toArray', List.foldl_cons, List.foldl_nil, List.setIfInBounds_toArray, List.set_cons_succ, List.set_cons_zero]
  have hcut := Cut_any x.1 W x.2 (hG.below hB)
  have hsnoc : Hid (readSt (pre ++ [x]) = readStep x (acc, before)) := by rw [readSt_snoc, hst]; rfl
  have hlen := readSt_len pre _ _ (by simp) hst
  dsimp only at hlen
  obtain ⟨va, vc, rfl⟩ := owns_form k1
  have rb0 : RB w.heap.size w _ acc before W := ⟨k0, k1, k2, k3, hB⟩
  have hGW := hG.below hB
  have hcs := cutB_size x.1
  have hx2 := x.2
  have HST : Hid (∀ b, b = (!(cutB x.1).2.2 || (acc.length : Int) == 4 || !scName (cutB x.1).1 || strLe (cutB x.1).1 before || !isPatS (cutB x.1).2.1) → readStep x (acc, before) = if b then none else some (acc ++ [⟨(cutB x.1).1, (cutB x.1).2.1⟩], (cutB x.1).1)) := fun b hb => by subst hb; rfl
  clear k0 k1 k2 k3 hst d0 d1 d2 b0' b1' b2' hB0 hG0
  generalize (cutB x.1).1 = nm at hcut hcs HST
  generalize (cutB x.1).2.1 = pt at hcut hcs HST
  generalize (cutB x.1).2.2 = fd at hcut HST
  have hlt := rb0.2.2.2.1.lt
  gi_wp2_with fail
  refine ⟨trivial, (CallsIn.inRound l (callsIn_wide.2 hcut)).mono ?_⟩
  rintro e w1 ⟨rfl, hb1⟩
  have rb1 := rb0.below hb1
  have hK1 : KeepsFrom W0.heap.size W w1 := bKeeps hb1 (Nat.le_refl _)
  have hS1 : SameAt (w.heap.size + 3) W w1 := sameAt_below hb1 (by omega)
  have hG1 := hGW.below hb1
  have hz1 := hb1.size
  clear hcut hb1
  have z0 := rb1.1.cell
  have z1 := rb1.2.2.1.cell
  have z2 := rb1.2.2.1.frozen
  have z3 := rb1.2.2.2.1.cell
  have z4 := rb1.2.2.2.1.frozen
  have z5 := rb1.1.frozen
  cases fd with
  | false =>
   gi_wp2_with fail
   refine ⟨trivial, ?_⟩
   gi_wp2_with fail
   refine ⟨trivial, ?_⟩
   gi_wp2_with fail
   exact read_exit rb1 hK1 (hsnoc.out.trans (HST.out true (by simp)))
  | true =>
   by_cases h4 : acc.length = 4
   ·have h4' : ((acc.length : Int) == 4) = true := by simp [h4]
    have H4 := Lib.hid h4'
    clear h4
    gi_wp2_with fail
    refine ⟨trivial, ?_⟩
    gi_wp2_with fail
    refine ⟨trivial, ?_⟩
    gi_wp2_with fail
    exact read_exit rb1 hK1 (hsnoc.out.trans (HST.out true (by rw [H4.out]; simp)))
   ·have h4' : ((acc.length : Int) == 4) = false := by rw [beq_eq_false_iff_ne]; omega
    have H4 := Lib.hid h4'
    have hin := scIsName_any nm w1 (by omega) hG1
    clear h4
    gi_wp2_with fail
    refine ⟨trivial, (CallsIn.inRound l (callsIn_wide.2 hin)).mono ?_⟩
    rintro e w2 ⟨rfl, hb2⟩
    have rb2 := rb1.below hb2
    have hK2 : KeepsFrom W0.heap.size W w2 := hK1.trans (bKeeps hb2 (Nat.le_refl _))
    have hS2 : SameAt (w.heap.size + 3) W w2 := sameAt_t hS1 (sameAt_below hb2 (by omega))
    have hG2 := hG1.below hb2
    have hz2 := hb2.size
    clear hin hb2 z0 z1 z2 z3 z4 z5
    have z0 := rb2.1.cell
    have z1 := rb2.2.2.1.cell
    have z2 := rb2.2.2.1.frozen
    have z3 := rb2.2.2.2.1.cell
    have z4 := rb2.2.2.2.1.frozen
    have z5 := rb2.1.frozen
    cases hnm : scName nm with
    | false =>
     have HN := Lib.hid hnm
     clear hnm
     gi_wp2_with fail
     refine ⟨trivial, ?_⟩
     gi_wp2_with fail
     exact read_exit rb2 hK2 (hsnoc.out.trans (HST.out true (by rw [HN.out]; simp)))
    | true =>
     have HN := Lib.hid hnm
     clear hnm
     cases hle : strLe nm before with
     | true =>
      have HL := Lib.hid hle
      unfold strLe at hle
      gi_wp2_with fail
      refine ⟨trivial, ?_⟩
      gi_wp2_with fail
      exact read_exit rb2 hK2 (hsnoc.out.trans (HST.out true (by rw [HL.out]; simp)))
     | false =>
      have HL := Lib.hid hle
      unfold strLe at hle
      have hip := IsPattern_any pt w2 (by omega) hG2
      gi_wp2_with fail
      refine ⟨trivial, (CallsIn.inRound l (callsIn_wide.2 hip)).mono ?_⟩
      rintro e w3 ⟨rfl, hb3⟩
      have rb3 := rb2.below hb3
      have hK3 : KeepsFrom W0.heap.size W w3 := hK2.trans (bKeeps hb3 (Nat.le_refl _))
      have hS3 : SameAt (w.heap.size + 3) W w3 := sameAt_t hS2 (sameAt_below hb3 (by omega))
      have hz3 := hb3.size
      clear hip hb3 z0 z1 z2 z3 z4 z5 hle
      have z0 := rb3.1.cell
      have z1 := rb3.2.2.1.cell
      have z2 := rb3.2.2.1.frozen
      have z3 := rb3.2.2.2.1.cell
      have z4 := rb3.2.2.2.1.frozen
      have z5 := rb3.1.frozen
      cases hpt : isPatS pt with
      | false =>
       have HP := Lib.hid hpt
       clear hpt
       gi_wp2_with fail
       exact read_exit rb3 hK3 (hsnoc.out.trans (HST.out true (by rw [HP.out]; simp)))
      | true =>
       have HP := Lib.hid hpt
       clear hpt
       have hstep := Lib.hid (hsnoc.out.trans (HST.out false (by rw [H4.out, HN.out, HL.out, HP.out]; rfl)))
       obtain ⟨g, cap', w4, hap, hown4, hB4, hz4, hbl4, hoth4⟩ := append_one Tryz.prog 141 und_terms info_term rfl (by decide) rb3.2.1 rb3.2.2.2.2 (by omega) (by omega) [.string nm, .string pt] rfl (by simp [Value.oneCell']) (by omega) (by decide)
       have e0 : Boxed w4 w.heap.size 141 _ := (hbl4 _ (by omega)).trans rb3.1
       have e1 : Boxed w4 (w.heap.size + 1) 4 _ := (hbl4 _ (by omega)).trans rb3.2.2.1
       have e2 : Boxed w4 (w.heap.size + 2) 9 _ := (hbl4 _ (by omega)).trans rb3.2.2.2.1
       have hS4 : SameAt (w.heap.size + 3) w3 w4 := ⟨hbl4 _ (by omega), hbl4 _ (by omega), hbl4 _ (by omega)⟩
       have hK4 : KeepsFrom W0.heap.size w3 w4 := appKeeps rb3.2.1 (by omega) hoth4
       have y0 := e0.cell
       have y1 := e0.frozen
       have y2 := e2.cell
       have y3 := e2.frozen
       clear hbl4 hoth4
       gi_wp2_with (gi_at_builtin; refine wpIn_append_eq rfl _ _ _ rfl rfl rfl hap ?_)
       refine ⟨(hK3.trans hK4).trans (((KeepsOthers.setCell _ _ _).from _).trans ((KeepsOthers.setCell _ _ _).from _)), sameAt_t (sameAt_t hS3 hS4) ⟨?_, ?_, ?_⟩, _, acc ++ [⟨nm, pt⟩], nm, (e0.set _).other (by omega) _, ?_, (e1.other (by omega) _).other (by omega) _, (e2.other (by omega) _).set _, by simpa using hstep.out, (hB4.setCell (p := ⟨w.heap.size, 0, none⟩) (Nat.le_refl _) _).setCell (p := ⟨w.heap.size + 1 + 1, 0, none⟩) (by show w.heap.size ≤ w.heap.size + 1 + 1; omega) _⟩
       ·exact (Below.heap_setCell _ _ _ _ (by show w.heap.size + 3 ≠ w.heap.size + 1 + 1; omega)).trans (Below.heap_setCell _ _ _ _ (by show w.heap.size + 3 ≠ w.heap.size; omega))
       ·exact (Below.heap_setCell _ _ _ _ (by show w.heap.size + 3 + 1 ≠ w.heap.size + 1 + 1; omega)).trans (Below.heap_setCell _ _ _ _ (by show w.heap.size + 3 + 1 ≠ w.heap.size; omega))
       ·exact (Below.heap_setCell _ _ _ _ (by show w.heap.size + 3 + 2 ≠ w.heap.size + 1 + 1; omega)).trans (Below.heap_setCell _ _ _ _ (by show w.heap.size + 3 + 2 ≠ w.heap.size; omega))
       ·have hq := ownsRow_setCell_below (ownsRow_setCell_below hown4 (a := ⟨w.heap.size, 0, none⟩) (by show w.heap.size < _; omega) (.slice (some ⟨g, 0, none⟩) (acc.length + 1) cap')) (a := ⟨w.heap.size + 1 + 1, 0, none⟩) (by show w.heap.size + 1 + 1 < _; omega) (.string nm)
        simpa [Term.enc] using hq
 case done =>
  rintro D W hD ⟨v, acc, before, k0, k1, k2, k3, hst, hB⟩ hK
  obtain ⟨va, vc, rfl⟩ := owns_form k1
  have z0 := k0.cell
  have z1 := k2.cell
  have hDs : w.heap.size ≤ D := by omega
  have hrs : readS s = some acc := by simp [readS, h0, hst]
  have HR := Lib.hid hrs
  have hpd := bPutD hB hDs hK
  have hown := ownsRow_putObj k1 (.deferred none) hK rfl
  clear hs6 hrs hst
  go_wp2_with fail
  rw [Exit.noGoto_ret]
  refine marks_ret1 hK (results_tmp2 rfl _ _ _) ⟨va, acc.length, vc, by rw [HR.out]; rfl, ?_, hpd⟩
  rw [HR.out]
  exact slAt_of_owns hown
 case stop =>
  rintro D c pre W hD hp ⟨k2, ⟨rfl, hst⟩, hB⟩ hK
  have z1 := k2.cell
  have hDs : w.heap.size ≤ D := by omega
  have hrs : readS s = none := by simp [readS, h0, readSt_prefix _ _ hp hst]
  have HR := Lib.hid hrs
  have hpd := bPutD hB hDs hK
  clear hs6 hrs hst
  go_wp2_with fail
  rw [Exit.noGoto_ret]
  exact marks_ret1 hK (results_tmp2 rfl _ _ _) ⟨none, 0, 0, by rw [HR.out]; rfl, by rw [HR.out]; exact .inl ⟨rfl, rfl, rfl⟩, hpd⟩
set_option maxHeartbeats 400000 in
theorem read_any (s : StrK) (w : World) (hG : GW w) : Calls Tryz.prog 80 #[.string s.1] w (ReadPost s w) := by
 by_cases h0 : s.1.size = 0
 ·have he1 : s.1.toList.isEmpty = true := by rw [toList_isEmpty]; simp [h0]
  have he2 : s.1.toList = [] := by simpa using he1
  have hrs : readS s = some [] := by simp [readS, h0]
  have HR := Lib.hid hrs
  clear hrs h0
  refine calls_marks Tryz.func80 rfl ?_
  simp only [Tryz.ntmps80, List.size_toArray, List.length_cons, List.length_nil, Nat.reduceAdd, Nat.reduceSub, Array.replicate_succ, Array.replicate_zero, List.push_toArray, List.append_toArray, List.nil_append, List.cons_append]
  go_wp2_with fail
  go_step3
  go_wp2_with fail
  rw [Exit.noGoto_ret]
  exact marks_ret0 (results_tmp2 rfl _ _ _) rfl ⟨none, 0, 0, by rw [HR.out]; rfl, by rw [HR.out]; exact .inl ⟨rfl, rfl, rfl⟩, Below.refl _ _⟩
 ·exact read_mid s w hG h0
def scRight (s : StrK) : Bool := (readS s).isSome
theorem scRight_any (s : StrK) (w : World) (hG : GW w) : Calls Tryz.prog 44 #[.string s.1] w fun e w' => e = .returned (.bool (scRight s)) ∧ Below w.heap.size w w' := by
 have hr := read_any s w hG
 go_enter Tryz.func44, Tryz.ntmps44
 go_wp2_with (go_at_call 80; refine hr.mono ?_; rintro e w1 ⟨a, len, cap, rfl, -, hb1⟩)
 go_ret
 exact ⟨rfl, hb1⟩
end Go.Proofs.YthbhmnakmhambaaGreatDoor
namespace Go.Proofs.YthbhmnakmhambaaGreatDoor
open Go Go.RowKit Go.Shelf
theorem terms_cell (ts : List Term) (j : Nat) (x : Term) (h : ts[j]? = some x) : (ts.flatMap Term.enc)[j * 2]? = some (.string x.name) ∧ (ts.flatMap Term.enc)[j * 2 + 1]? = some (.string x.pat) := by
 induction ts generalizing j with
 | nil => simp at h
 | cons y ys ih =>
  cases j with
  | zero => simp at h; subst h; simp [Term.enc]
  | succ j =>
   have := ih j (by simpa using h)
   rw [show (j + 1) * 2 = j * 2 + 2 by omega]
   simp only [List.flatMap_cons, Term.enc, List.cons_append, List.nil_append, List.getElem?_cons_succ]
   exact this
theorem terms_len (ts : List Term) : (ts.flatMap Term.enc).length = ts.length * 2 := by
 induction ts with
 | nil => rfl
 | cons y ys ih => simp [List.flatMap_cons, Term.enc, ih]; omega
theorem TermsAt.cells {n₀ : Nat} {w : World} {a : Option Addr} {len cap : Nat} {ts : List Term} (h : TermsAt n₀ w (.slice a len cap) ts) : len = ts.length ∧ ∀ j x, ts[j]? = some x →
  ∃ b off, a = some ⟨b, off, none⟩ ∧ b < n₀ ∧ w.cell? ⟨b, off + j * 2, none⟩ = some (.string x.name) ∧ w.cell? ⟨b, off + j * 2 + 1, none⟩ = some (.string x.pat) := by
 rcases h with ⟨h, h0, _⟩ | ⟨b, off, cap', e, hb, hc⟩
 ·obtain ⟨rfl, rfl, rfl⟩ : a = none ∧ len = 0 ∧ cap = 0 := by simpa using h
  have : ts = [] := by simpa using h0
  subst this
  exact ⟨rfl, fun i x hx => by simp at hx⟩
 ·obtain ⟨rfl, rfl, rfl⟩ : a = some ⟨b, off, none⟩ ∧ len = ts.length ∧ cap = cap' := by simpa using e
  refine ⟨rfl, fun j x hx => ⟨b, off, rfl, hb, ?_⟩⟩
  have hj := (List.getElem?_eq_some_iff.1 hx).1
  have h2 := terms_cell ts j x hx
  rw [terms_len] at hc
  exact ⟨(hc (j * 2) (by omega)).trans h2.1, (hc (j * 2 + 1) (by omega)).trans h2.2⟩
theorem all_no {α : Type} (l : List α) (f : α → Bool) (k : Nat) (x : α) (h : l.take (k + 1) = l.take k ++ [x]) (hx : f x = false) : l.all f = false := by
 have hp := List.take_append_drop (k + 1) l
 rw [← hp, List.all_append, h, List.all_append, List.all_cons, hx]
 simp
theorem all_yes {α : Type} (l : List α) (f : α → Bool) (k : Nat) (x : α) (h : l.take (k + 1) = l.take k ++ [x]) (hx : f x = true) (ht : (l.take k).all f = true) : (l.take (k + 1)).all f = true := by
 rw [h, List.all_append, ht, List.all_cons, hx]; rfl
def termB (ls : List Lab) (t : Term) : Bool := match labGet ls t.name with
 | none => false
 | some v => fitsS t.pat v
def meansS (s : StrK) (ls : List Lab) : Bool × Int := match readS s with
 | none => (false, 50)
 | some ts => if labRight ls then (ts.all (termB ls), 0) else (false, 50)
theorem readSt_sizes (l : List StrK) : ∀ (st0 st : List Term × ByteArray), (∀ t ∈ st0.1, t.name.size < 4294967281 ∧ t.pat.size < 4294967281) → l.foldl (fun st x => st.bind (readStep x)) (some st0) = some st → ∀ t ∈ st.1, t.name.size < 4294967281 ∧ t.pat.size < 4294967281 := by
 induction l with
 | nil => intro st0 st h0 h; cases h; exact h0
 | cons x xs ih =>
  intro st0 st h0 h
  simp only [List.foldl_cons, Option.bind_some] at h
  cases hx : readStep x st0 with
  | none => rw [hx, foldl_none] at h; cases h
  | some st1 =>
   rw [hx] at h
   refine ih st1 st ?_ h
   unfold readStep at hx
   split at hx
   ·cases hx
   ·cases hx
    intro t ht
    simp only [List.mem_append, List.mem_singleton] at ht
    rcases ht with ht | rfl
    ·exact h0 t ht
    ·have := cutB_size x.1; have := x.2; exact ⟨by dsimp only; omega, by dsimp only; omega⟩
theorem readS_sizes (s : StrK) (ts : List Term) (h : readS s = some ts) : ts.length ≤ 4 ∧ ∀ t ∈ ts, t.name.size < 4294967281 ∧ t.pat.size < 4294967281 := by
 unfold readS at h
 split at h
 ·cases h; simp
 ·cases hr : readSt (splitL s) with
  | none => rw [hr] at h; cases h
  | some st =>
   rw [hr] at h
   cases h
   exact ⟨readSt_len _ _ _ (by simp) hr, readSt_sizes _ _ _ (by simp) hr⟩
theorem labGet_size : ∀ (ls : List LabK) (n v : ByteArray), labGet (ls.map (·.1)) n = some v → v.size < 4294967281
 | [], _, _, h => by simp [labGet] at h
 | x :: xs, n, v, h => by
  simp only [List.map_cons, labGet] at h
  split at h
  ·cases h; exact x.2.2
  ·exact labGet_size xs n v h
set_option maxRecDepth 100000 in
set_option maxHeartbeats 2000000 in
theorem Means_any (s : StrK) (a0 : Option Addr) (cap : Nat) (ls : List LabK) (w : World) (hL : Labs w.heap.size w (.slice a0 ls.length cap) (ls.map (·.1))) (hG : GW w) (h3 : ls.length < 4294967281) :
  Calls Tryz.prog 56 #[.string s.1, .slice a0 ls.length cap] w fun e w' => e = .returned (.tuple #[.bool (meansS s (ls.map (·.1))).1, .int .i64 (meansS s (ls.map (·.1))).2]) ∧ Below w.heap.size w w' := by
 have hr := read_any s w hG
 cases hrs : readS s with
 | none =>
  have HR := Lib.hid hrs
  unfold ReadPost at hr
  rw [hrs] at hr
  clear hrs
  go_enter Tryz.func56, Tryz.ntmps56
  go_wp2_with (go_at_call 80; refine hr.mono ?_; rintro e w1 ⟨a, len, cap, rfl, -, hb1⟩)
  go_ret2
  exact ⟨by simp [meansS, HR.out], hb1⟩
 | some ts =>
  obtain ⟨hl4, hsz⟩ := readS_sizes s ts hrs
  have HR := Lib.hid hrs
  have HZ := Lib.hid hsz
  unfold ReadPost at hr
  rw [hrs] at hr
  clear hrs hsz
  go_enter Tryz.func56, Tryz.ntmps56
  go_wp2_with (go_at_call 80; refine hr.mono ?_; rintro e w1 ⟨a, len, tcap, rfl, hts, hb1⟩)
  have hlr := label_Right_any a0 cap ls w1 ((SlAt.below hb1 hL).mono hb1.size) (hG.below hb1) h3
  simp only [Option.getD_some] at hts
  clear hr
  refine hlr.mono ?_
  rintro e w2 ⟨rfl, hb2⟩
  clear hlr
  obtain ⟨hlen, -⟩ := hts.cells
  subst hlen
  cases hlb : labRight (ls.map (·.1)) with
  | false =>
   have HB := Lib.hid hlb
   clear hlb
   go_wp2_with fail
   go_ret2
   exact ⟨by simp only [meansS, HR.out, HB.out]; rfl, hb1.trans (hb2.mono hb1.size)⟩
  | true =>
   have HB := Lib.hid hlb
   clear hlb
   go_wp2_with fail
   have hsz1 := hb1.size
   have hsz2 := hb2.size
   have hts2 : TermsAt w1.heap.size w2 _ ts := SlAt.below hb2 hts
   have hL2 : Labs w.heap.size w2 _ _ := SlAt.below (hb1.trans (hb2.mono hsz1)) hL
   have hG2 := (hG.below hb1).below hb2
   have hb2' := hb1.trans (hb2.mono hsz1)
   go_loopw [26] (fun i wr => ∃ k : Nat, i = .int .i64 k ∧ k ≤ ts.length ∧ Below w2.heap.size w2 wr ∧ Hid ((ts.take k).all (termB (ls.map (·.1))) = true)) (fun i _ => ts.length - (intOf i).toNat)
   case atStart => exact ⟨0, rfl, Nat.zero_le _, Below.refl _ _, rfl⟩
   case round =>
    obtain ⟨k, rfl, hk, hB, HA⟩ := hrel
    have hszB := hB.size
    by_cases hlt : k < ts.length
    ·obtain ⟨x, hx⟩ : ∃ x, ts[k]? = some x := ⟨_, List.getElem?_eq_getElem hlt⟩
     have htr : TermsAt w1.heap.size wr _ ts := SlAt.below (hB.mono hsz2) hts2
     obtain ⟨b, off, rfl, hbb, hc0, hc1⟩ := htr.cells.2 k x hx
     have hmem : x ∈ ts := List.mem_of_getElem? hx
     obtain ⟨hxn, hxp⟩ := HZ.out x hmem
     have HX : Hid (ts.take (k + 1) = ts.take k ++ [x]) := by rw [Hid, List.take_add_one, hx]; rfl
     have hBa : Below w2.heap.size w2 (wr.alloc (.cells #[.string x.name, .string x.pat] 151)) := hB.alloc hszB _
     have hget := label_Get_any a0 cap ls x.name _ ((SlAt.below (hBa.mono (by omega)) hL2).mono (by simp; omega)) h3
     have cx0 := cCc (World.alloc_heap_new wr (.cells #[.string x.name, .string x.pat] 151)) 1
     clear hx htr hts2 hL2 hmem
     cases hg : labGet (ls.map (·.1)) x.name with
     | none =>
      have HT : Hid (termB (ls.map (·.1)) x = false) := by simp only [Hid, termB, hg]
      rw [hg] at hget
      clear hg
      go_wp2_with (go_at_call 89; refine hget.mono ?_; rintro e w4 ⟨rfl, hb4⟩)
      go_ret2
      refine ⟨?_, hb2'.trans ((hBa.trans (hb4.mono (by simp; omega))).mono (by omega))⟩
      have h9 := all_no ts (termB (ls.map (·.1))) k x HX.out HT.out
      simp only [meansS, HR.out, HB.out, h9]; rfl
     | some v =>
      have hvs := labGet_size ls x.name v hg
      have HT : Hid (termB (ls.map (·.1)) x = fitsS x.pat v) := by simp only [Hid, termB, hg]
      rw [hg] at hget
      clear hg
      go_wp2_with fail
      refine hget.mono ?_
      rintro e w4 ⟨rfl, hb4⟩
      have hsza : (wr.alloc (.cells #[.string x.name, .string x.pat] 151)).heap.size = wr.heap.size + 1 := by simp
      rw [hsza] at hb4
      have d1 : w4.cell? ⟨wr.heap.size, 1, none⟩ = some (.string x.pat) := (hb4.cell (p := ⟨wr.heap.size, 1, none⟩) (Nat.lt_succ_self _)).trans cx0
      have hB4 : Below w2.heap.size w2 w4 := hBa.trans (hb4.mono (by omega))
      have hfit := Fits_any x.pat v w4 hxp hvs (hG2.below hB4)
      clear hget hsza cx0
      cases hf : fitsS x.pat v with
      | false =>
       rw [hf] at hfit
       have HT2 : Hid (termB (ls.map (·.1)) x = false) := by rw [Hid, HT.out, hf]
       clear hf
       go_wp2_with (go_at_call 90; refine hfit.mono ?_; rintro e w5 ⟨rfl, hb5⟩)
       go_ret2
       have h9 := all_no ts (termB (ls.map (·.1))) k x HX.out HT2.out
       refine ⟨?_, hb2'.trans ((hB4.trans (hb5.mono hB4.size)).mono (by omega))⟩
       simp only [meansS, HR.out, HB.out, h9]; rfl
      | true =>
       rw [hf] at hfit
       have HT2 : Hid (termB (ls.map (·.1)) x = true) := by rw [Hid, HT.out, hf]
       clear hf
       go_wp2_with (go_at_call 90; refine hfit.mono ?_; rintro e w5 ⟨rfl, hb5⟩)
       go_roundw
       case rel => exact ⟨k + 1, by go_num, by omega, hB4.trans (hb5.mono hB4.size), all_yes ts _ k x HX.out HT2.out HA.out⟩
       case measure => simp [intOf]; omega
    ·obtain rfl : k = ts.length := by omega
     clear hts2 hL2
     go_wp2_with fail
     go_ret2
     have h9 : ts.all (termB (ls.map (·.1))) = true := by have := HA.out; rwa [List.take_length] at this
     exact ⟨by simp only [meansS, HR.out, HB.out, h9]; rfl, hb2'.trans (hB.mono (by omega))⟩
end Go.Proofs.YthbhmnakmhambaaGreatDoor

/- Package label: the runes of names and values; names, values. Package label: values, sets of labels (ranges over slices.Values). -/
import Derived.Test.YtpnlmfilmbodfaaGreatDoorVH0
import Derived.Test.YtpnlmfilmbodfaaGreatDoorVShelf
import Derived.Test.YtpnlmfilmbodfaaGreatDoorProg
namespace Go.Proofs.YtpnlmfilmbodfaaGreatDoor
open Go Go.RowKit
structure GW (w : World) : Prop where
  utf8 : Lib.Utf8Tabs 6 7 w
  maxLen : ∃ m, w.cell? ⟨5, 0, none⟩ = some (.int .i64 m)
  size : 8 ≤ w.heap.size
theorem GW.below {w w' : World} (h : GW w) (hb : Below w.heap.size w w') : GW w' :=
  ⟨Utf8Tabs_below h.utf8 hb, let ⟨m, hm⟩ := h.maxLen; ⟨m, (hb.cell (p := ⟨5, 0, none⟩) (by have := h.size; show 5 < w.heap.size; omega)).trans hm⟩, Nat.le_trans h.size hb.size⟩
def isNameRuneB (c : Int) : Bool := decide (97 ≤ c) && decide (c ≤ 122)
def isValueRuneB (c : Int) : Bool := decide (32 ≤ c) && (c != 127)
theorem isNameRune_any (c : Int) (w : World) : Calls Tryz.prog 221 #[.int .i32 c] w fun e w' => e = .returned (.bool (isNameRuneB c)) ∧ w = w' := by
  by_cases h1 : 97 ≤ c
  · go_enter Tryz.func221, Tryz.ntmps221
    go_wp2
    go_ret
    exact ⟨by simp [isNameRuneB, h1], rfl⟩
  · go_enter Tryz.func221, Tryz.ntmps221
    go_wp2
    go_ret
    exact ⟨by simp [isNameRuneB]; omega, rfl⟩
theorem isValueRune_any (c : Int) (w : World) : Calls Tryz.prog 222 #[.int .i32 c] w fun e w' => e = .returned (.bool (isValueRuneB c)) ∧ w = w' := by
  by_cases h1 : 32 ≤ c
  · go_enter Tryz.func222, Tryz.ntmps222
    go_wp2
    go_ret
    exact ⟨by simp [isValueRuneB, h1], rfl⟩
  · go_enter Tryz.func222, Tryz.ntmps222
    go_wp2
    go_ret
    exact ⟨by simp [isValueRuneB]; omega, rfl⟩
def isNameS (s : ByteArray) : Bool := s.size != 0 && decide (s.size ≤ 12) && (rl s 0).all fun p => isNameRuneB p.2
set_option maxHeartbeats 400000 in
theorem isName_any (s : ByteArray) (w : World) (hs : s.size ≤ maxLen) : Calls Tryz.prog 194 #[.string s] w fun e w' => e = .returned (.bool (isNameS s)) ∧ Below w.heap.size w w' := by
  unfold maxLen at hs
  have hem := toList_isEmpty s
  by_cases h0 : s.size = 0
  · have h1 : s.toList.isEmpty = true := by rw [hem]; simp [h0]
    have h2 : s.toList = [] := by simpa using h1
    clear hem
    go_enter Tryz.func194, Tryz.ntmps194
    go_wp2_with fail
    go_ret
    exact ⟨by simp [isNameS, h0], Below.refl _ _⟩
  · have h1 : s.toList.isEmpty = false := by rw [hem]; simp [h0]
    have h2 : ¬ s.toList = [] := by simpa using h1
    clear hem
    by_cases h12 : s.size ≤ 12
    · have h3 : decide ((12 : Int) < s.size) = false := by simp; omega
      go_enter Tryz.func194, Tryz.ntmps194
      go_wp2_with fail
      go_loopw [] (fun wr => ∃ pos, wr.heap[w.heap.size]? = some (.stringIter s pos) ∧ Below w.heap.size w wr ∧ Hid (((rl s 0).all fun p => isNameRuneB p.2) = (rl s pos).all fun p => isNameRuneB p.2)) (fun wr => s.size - wr.iterPos w.heap.size)
      case atStart => exact ⟨0, World.iter_heap w s 0, (Below.refl _ _).alloc (Nat.le_refl _) _, rfl⟩
      case round =>
        obtain ⟨pos, hit, hbw, HS⟩ := hrel
        have hpos0 := iterPos_of hit
        by_cases hp : pos < s.size
        · obtain ⟨W1, hnx, hit2, hbw2, -, -⟩ := next_str (P := Tryz.prog) hit hbw (Nat.le_refl _) hp
          have hstep := Lib.hid (rl_step s pos hp)
          have hd := dec_pos s pos hp
          go_wp2_with (go_at_call 221; refine (isNameRune_any _ _).mono ?_; rintro e w' ⟨rfl, rfl⟩)
          · go_ret
            exact ⟨by have := HS.out; simp_all [isNameS, hstep.out], hbw2⟩
          · go_roundw
            case rel => exact ⟨_, hit2, hbw2, by have := HS.out; rw [hstep.out] at this; simp_all [Hid]⟩
            case measure => rw [iterPos_of hit2, hpos0]; omega
        · have hnx : ∀ ty, (Instr.next (.pointer (some ⟨w.heap.size, 0, none⟩)) true ty).run Tryz.prog wr = _ := fun ty => Lib.run_next_end_at wr w.heap.size s pos ty hit hp
          go_wp2_with fail
          go_ret
          exact ⟨by have := HS.out; rw [rl_end s pos hp] at this; simp [isNameS, h0, h12, this], hbw⟩
    · have h3 : decide ((12 : Int) < s.size) = true := by simp; omega
      go_enter Tryz.func194, Tryz.ntmps194
      go_wp2_with fail
      go_ret
      exact ⟨by simp [isNameS, h12], Below.refl _ _⟩
def runeBad (s : ByteArray) (p : Nat × Int) : Bool := p.2 == 65533 && ((Lib.decodeGo (s.extract p.1 s.size)).2 : Int) == 1
def runesOk (s : ByteArray) : Bool := (rl s 0).all fun p => !runeBad s p
def runesN (s : ByteArray) : Int := if runesOk s then ((rl s 0).length : Int) else 0
set_option maxHeartbeats 400000 in
theorem Runes_any (s : ByteArray) (w : World) (hs : s.size ≤ maxLen) (hG : GW w) : Calls Tryz.prog 207 #[.string s] w fun e w' => e = .returned (.tuple #[.int .i64 (runesN s), .bool (runesOk s)]) ∧ Below w.heap.size w w' := by
  unfold maxLen at hs
  go_enter Tryz.func207, Tryz.ntmps207
  go_wp2_with fail
  go_loopw [4] (fun n wr => ∃ pos k, wr.heap[w.heap.size]? = some (.stringIter s pos) ∧ Below w.heap.size w wr ∧ n = .int .i64 (k : Nat) ∧ k ≤ pos ∧ Hid ((rl s 0).length = k + (rl s pos).length ∧ (runesOk s = (rl s pos).all fun p => !runeBad s p))) (fun _ wr => s.size - wr.iterPos w.heap.size)
  case atStart => exact ⟨0, 0, World.iter_heap w s 0, (Below.refl _ _).alloc (Nat.le_refl _) _, rfl, Nat.le_refl _, by simp [Hid, runesOk]⟩
  case round =>
    obtain ⟨pos, k, hit, hbw, rfl, hkp, HS⟩ := hrel
    have hpos0 := iterPos_of hit
    by_cases hp : pos < s.size
    · obtain ⟨W1, hnx, hit2, hbw2, hsz, -⟩ := next_str (P := Tryz.prog) hit hbw (Nat.le_refl _) hp
      have hstep := Lib.hid (rl_step s pos hp)
      have hd := dec_pos s pos hp
      have hT := (hG.below hbw2).utf8
      have hbx : Below w.heap.size W1 W1 := Below.refl _ _
      by_cases hc : ((Utf8.decode s pos).1 : Int) = 65533
      · have hc1 : (((Utf8.decode s pos).1 : Int) == 65533) = true := by simp [hc]
        have hpi : (pos : Int) ≤ s.size := by omega
        have HC := Lib.hid hc
        clear hc
        by_cases hz : ((Lib.decodeGo (s.extract pos s.size)).2 : Int) = 1
        · have hz1 : (((Lib.decodeGo (s.extract pos s.size)).2 : Int) == 1) = true := by simp [hz]
          have HZ := Lib.hid hz
          clear hz
          go_wp2_with (go_at_call 230; refine (Tryz.utf8_DecodeRuneInString _ _ hT).mono ?_; rintro e w' ⟨rfl, hb'⟩)
          go_ret2
          have h2 : runesOk s = false := by rw [HS.out.2, hstep.out]; simp [runeBad, HC.out, HZ.out]
          exact ⟨by simp [runesN, h2], hbw2.trans (hb'.mono (by have := hbw2.size; omega))⟩
        · have hz1 : (((Lib.decodeGo (s.extract pos s.size)).2 : Int) == 1) = false := by simpa using hz
          have HZ := Lib.hid hz
          clear hz
          go_wp2_with (go_at_call 230; refine (Tryz.utf8_DecodeRuneInString _ _ hT).mono ?_; rintro e w' ⟨rfl, hb'⟩)
          go_roundw
          case rel => exact ⟨_, k + 1, (hb'.block _ (by rw [hsz]; have := (Array.getElem?_eq_some_iff.1 hit).1; exact this)).trans hit2, hbw2.trans (hb'.mono (by have := hbw2.size; omega)), by go_num, by omega, by have h3 := HS.out.1; have h4 := HS.out.2; rw [hstep.out] at h3 h4; refine ⟨by simp at h3; omega, by rw [h4]; simp [runeBad, HZ.out]⟩⟩
          case measure => rw [iterPos_of ((hb'.block _ (by rw [hsz]; have := (Array.getElem?_eq_some_iff.1 hit).1; exact this)).trans hit2), hpos0]; omega
      · have hc1 : (((Utf8.decode s pos).1 : Int) == 65533) = false := by simpa using hc
        have HC := Lib.hid hc
        clear hc
        go_wp2_with fail
        go_roundw
        case rel => exact ⟨_, k + 1, hit2, hbw2, by go_num, by omega, by have h3 := HS.out.1; have h4 := HS.out.2; rw [hstep.out] at h3 h4; refine ⟨by simp at h3; omega, by rw [h4]; simp [runeBad, HC.out]⟩⟩
        case measure => rw [iterPos_of hit2, hpos0]; omega
    · have hnx : ∀ ty, (Instr.next (.pointer (some ⟨w.heap.size, 0, none⟩)) true ty).run Tryz.prog wr = _ := fun ty => Lib.run_next_end_at wr w.heap.size s pos ty hit hp
      go_wp2_with fail
      go_ret2
      have h2 := HS.out
      rw [rl_end s pos hp] at h2
      simp at h2
      exact ⟨by simp [runesN, h2], hbw⟩
end Go.Proofs.YtpnlmfilmbodfaaGreatDoor
namespace Go.Proofs.YtpnlmfilmbodfaaGreatDoor
open Go Go.RowKit Go.Shelf
attribute [local go_sem] Oper.semAt_some
def isValueS (s : ByteArray) : Bool := runesOk s && decide (runesN s ≤ 24) && (rl s 0).all fun p => isValueRuneB p.2
set_option maxHeartbeats 400000 in
theorem isValue_any (s : ByteArray) (w : World) (hs : s.size ≤ maxLen) (hG : GW w) : Calls Tryz.prog 195 #[.string s] w fun e w' => e = .returned (.bool (isValueS s)) ∧ Below w.heap.size w w' := by
  have hR := Runes_any s w hs hG
  unfold maxLen at hs
  by_cases h0 : runesOk s = true
  · by_cases h1 : runesN s ≤ 24
    · have h3 : decide ((24 : Int) < runesN s) = false := by simp; omega
      go_enter Tryz.func195, Tryz.ntmps195
      go_wp2_with (go_at_call 207; refine hR.mono ?_; rintro e w' ⟨rfl, hb'⟩)
      go_loopw [] (fun wr => ∃ pos, wr.heap[w'.heap.size]? = some (.stringIter s pos) ∧ Below w'.heap.size w' wr ∧ Hid (((rl s 0).all fun p => isValueRuneB p.2) = (rl s pos).all fun p => isValueRuneB p.2)) (fun wr => s.size - wr.iterPos w'.heap.size)
      case atStart => exact ⟨0, World.iter_heap w' s 0, (Below.refl _ _).alloc (Nat.le_refl _) _, rfl⟩
      case round =>
        obtain ⟨pos, hit, hbw, HS⟩ := hrel
        have hpos0 := iterPos_of hit
        have hsz := hb'.size
        by_cases hp : pos < s.size
        · obtain ⟨W1, hnx, hit2, hbw2, -, -⟩ := next_str (P := Tryz.prog) hit hbw (Nat.le_refl _) hp
          have hstep := Lib.hid (rl_step s pos hp)
          have hd := dec_pos s pos hp
          go_wp2_with (go_at_call 222; refine (isValueRune_any _ _).mono ?_; rintro e w' ⟨rfl, rfl⟩)
          · go_ret
            exact ⟨by have := HS.out; simp_all [isValueS, hstep.out], hb'.trans (hbw2.mono hsz)⟩
          · go_roundw
            case rel => exact ⟨_, hit2, hbw2, by have := HS.out; rw [hstep.out] at this; simp_all [Hid]⟩
            case measure => rw [iterPos_of hit2, hpos0]; omega
        · have hnx : ∀ ty, (Instr.next (.pointer (some ⟨w'.heap.size, 0, none⟩)) true ty).run Tryz.prog wr = _ := fun ty => Lib.run_next_end_at wr w'.heap.size s pos ty hit hp
          go_wp2_with fail
          go_ret
          exact ⟨by have := HS.out; rw [rl_end s pos hp] at this; simp [isValueS, h0, h1, this], hb'.trans (hbw.mono hsz)⟩
    · have h3 : decide ((24 : Int) < runesN s) = true := by simp; omega
      go_enter Tryz.func195, Tryz.ntmps195
      go_wp2_with (go_at_call 207; refine hR.mono ?_; rintro e w' ⟨rfl, hb'⟩)
      go_ret
      exact ⟨by simp [isValueS]; intro _ h; omega, hb'⟩
  · have h0' : runesOk s = false := by simpa using h0
    clear h0
    go_enter Tryz.func195, Tryz.ntmps195
    go_wp2_with (go_at_call 207; refine hR.mono ?_; rintro e w' ⟨rfl, hb'⟩)
    go_ret
    exact ⟨by simp [isValueS, h0'], hb'⟩
structure Lab where
  name : ByteArray
  value : ByteArray
def Lab.ok (l : Lab) : Prop := l.name.size < 4294967281 ∧ l.value.size < 4294967281
abbrev LabK := { l : Lab // l.ok }
def Lab.enc (l : Lab) : List Value := [.string l.name, .string l.value]
def Labs (n₀ : Nat) (w : World) (sv : Value) (ls : List Lab) : Prop := SlAt n₀ w sv ls.length (ls.flatMap Lab.enc)
theorem each_any (a : Option Addr) (len cap : Nat) (w : World) :
    Calls Tryz.prog 161 #[.slice a len cap] w fun e w' => e = .returned (.func (.func 223) #[] #[.pointer (some ⟨w.heap.size, 0, none⟩)]) ∧ w' = w.alloc (.cells #[.slice a len cap] 62) := by
  go_enter Tryz.func161, Tryz.ntmps161
  go_wp2
  go_ret
  exact ⟨rfl, rfl⟩
theorem labs_cell (ls : List Lab) (j : Nat) (x : Lab) (h : ls[j]? = some x) : (ls.flatMap Lab.enc)[j * 2]? = some (.string x.name) ∧ (ls.flatMap Lab.enc)[j * 2 + 1]? = some (.string x.value) := by
  induction ls generalizing j with
  | nil => simp at h
  | cons y ys ih =>
    cases j with
    | zero => simp at h; subst h; simp [Lab.enc]
    | succ j =>
      have := ih j (by simpa using h)
      rw [show (j + 1) * 2 = j * 2 + 2 by omega]
      simp only [List.flatMap_cons, Lab.enc, List.cons_append, List.nil_append, List.getElem?_cons_succ]
      exact this
theorem labs_len (ls : List Lab) : (ls.flatMap Lab.enc).length = ls.length * 2 := by
  induction ls with
  | nil => rfl
  | cons y ys ih => simp [List.flatMap_cons, Lab.enc, ih]; omega
theorem Labs.cells {n₀ : Nat} {w : World} {b off cap : Nat} {ls : List Lab} (h : Labs n₀ w (.slice (some ⟨b, off, none⟩) ls.length cap) ls) (j : Nat) (x : Lab) (hx : ls[j]? = some x) :
    b < n₀ ∧ w.cell? ⟨b, off + j * 2, none⟩ = some (.string x.name) ∧ w.cell? ⟨b, off + j * 2 + 1, none⟩ = some (.string x.value) := by
  rcases h with ⟨h, _⟩ | ⟨b', off', cap', e, hb, hc⟩
  · simp at h
  · simp only [Value.slice.injEq, Option.some.injEq, Addr.mk.injEq] at e
    obtain ⟨⟨rfl, rfl, _⟩, _, rfl⟩ := e
    have hj : j < ls.length := (List.getElem?_eq_some_iff.1 hx).1
    have := labs_cell ls j x hx
    rw [labs_len] at hc
    exact ⟨hb, (hc (j * 2) (by omega)).trans this.1, (hc (j * 2 + 1) (by omega)).trans this.2⟩
set_option maxRecDepth 100000 in
set_option maxHeartbeats 1000000 in
theorem values1_lab (l Bs n₀ b off cap : Nat) (ls : List LabK) (hreach : ls.length < 4294967281) (J Jx : List LabK → World → Prop)
    (hY : ∀ pre x W, J pre W → pre.length < ls.length → YieldAt Fence.wide 7 Tryz.prog l #[.agg #[.string x.1.name, .string x.1.value]] W fun e W' =>
      (e = .returned (.bool true) ∧ J (pre ++ [x]) W' ∧ Below n₀ W W') ∨ (e = .returned (.bool false) ∧ Jx (pre ++ [x]) W'))
    (W : World) (hJ : AbidesFrom W.heap.size J) (hn₀ : n₀ ≤ W.heap.size) (hBs : W.cell? ⟨Bs, 0, none⟩ = some (.slice (some ⟨b, off, none⟩) ls.length cap)) (hc : Labs n₀ W (.slice (some ⟨b, off, none⟩) (ls.map (·.1)).length cap) (ls.map (·.1))) (h0 : J [] W) :
    CallsIn Fence.wide 8 Tryz.prog 223 #[.func (.yield l) #[] #[], .pointer (some ⟨Bs, 0, none⟩)] W fun e W' => (∃ v, e = .returned v) ∧
      ((∃ ys, ys = ls ∧ J ys W') ∨ (∃ pre, pre <+: ls ∧ Jx pre W')) := by
  refine callsIn_of_wp Tryz.func223 rfl trivial ?_ rfl
  simp only [Tryz.ntmps223, List.size_toArray, List.length_cons, List.length_nil, Nat.reduceAdd, Nat.reduceSub, Array.replicate_succ, Array.replicate_zero, List.push_toArray, List.append_toArray, List.nil_append, List.cons_append]
  gi_wp2
  gi_loopw [7] (fun i wr => ∃ k : Nat, k ≤ ls.length ∧ i = .int .i64 k ∧ J (ls.take k) wr ∧ Below n₀ W wr) (fun i _ => ls.length - (intOf i).toNat)
  case atStart => exact ⟨0, Nat.zero_le _, rfl, h0, Below.refl _ _⟩
  case round =>
    obtain ⟨k, hk, rfl, hJs, hnx⟩ := hrel
    by_cases hlt : k < ls.length
    · obtain ⟨x, hx⟩ : ∃ x, ls[k]? = some x := ⟨_, List.getElem?_eq_getElem hlt⟩
      obtain ⟨hb, hc0, hc1⟩ := Labs.cells (SlAt.below hnx hc) k x.1 (by simp [hx])
      have hJa := hJ _ _ (wr.alloc (.cells #[.string x.1.name, .string x.1.value] 148)) none hJs (World.grownBy_alloc _ _ none) (fun r e => by cases e)
      obtain ⟨fn, tmps, assign, body, hy, hR⟩ := hY _ x _ hJa (by simp; omega)
      have HX := Lib.hid hx
      clear hx
      gi_wp2
      refine hR.mono ?_
      rintro e W3 (⟨rfl, hJ3, hk3⟩ | ⟨rfl, hJx3⟩)
      · gi_wp2
        go_roundw
        case rel => exact ⟨k + 1, by omega, by simp, by rw [List.take_add_one, HX.out]; exact hJ3, hnx.trans (((Below.refl n₀ wr).alloc (by have := hnx.size; omega) _).trans hk3)⟩
        case measure => simp [intOf]; omega
      · gi_wp2
        refine bodyPost_ret (results_none rfl _ _ _) rfl ?_
        exact ⟨⟨_, rfl⟩, .inr ⟨_, by have h := List.take_prefix (k + 1) ls; rwa [List.take_add_one, HX.out] at h, hJx3⟩⟩
    · obtain rfl : k = ls.length := by omega
      gi_wp2
      go_end0
      exact ⟨⟨_, rfl⟩, .inl ⟨_, List.take_length, hJs⟩⟩
set_option maxRecDepth 100000 in
set_option maxHeartbeats 1000000 in
theorem values1_lab_nil (l Bs : Nat) (J : List LabK → World → Prop) (W : World) (hBs : W.cell? ⟨Bs, 0, none⟩ = some (.slice none 0 0)) (h0 : J [] W) :
    CallsIn Fence.wide 8 Tryz.prog 223 #[.func (.yield l) #[] #[], .pointer (some ⟨Bs, 0, none⟩)] W fun e W' => (∃ v, e = .returned v) ∧ J [] W' := by
  refine callsIn_of_wp Tryz.func223 rfl trivial ?_ rfl
  simp only [Tryz.ntmps223, List.size_toArray, List.length_cons, List.length_nil, Nat.reduceAdd, Nat.reduceSub, Array.replicate_succ, Array.replicate_zero, List.push_toArray, List.append_toArray, List.nil_append, List.cons_append]
  gi_wp2
  gi_loopw [7] (fun i wr => i = .int .i64 0 ∧ J [] wr) (fun _ _ => 0)
  case atStart => exact ⟨rfl, h0⟩
  case round =>
    obtain ⟨rfl, hJs⟩ := hrel
    gi_wp2
    go_end0
    exact ⟨⟨_, rfl⟩, hJs⟩
theorem values_lab (Bs n₀ : Nat) (sv : Value) (ls : List LabK) (hreach : ls.length < 4294967281) (w : World) (hBs : Bs < w.heap.size) (hn₀ : n₀ ≤ w.heap.size)
    (hc : w.cell? ⟨Bs, 0, none⟩ = some sv) (hI : Labs n₀ w sv (ls.map (·.1))) :
    SeqStopsK Fence.wide 8 Tryz.prog 223 #[.pointer (some ⟨Bs, 0, none⟩)] (fun x : LabK => #[.agg #[.string x.1.name, .string x.1.value]]) (Below n₀) (fun ys => ys = ls) (fun pre => pre <+: ls) ls.length w := fun l J Jx W hW hJ _ hY h0 => by
  have hc' := (hW.cell (p := ⟨Bs, 0, none⟩) hBs).trans hc
  have hI' : Labs n₀ W sv (ls.map (·.1)) := SlAt.below (hW.mono hn₀) hI
  rcases id hI' with ⟨rfl, hl, _⟩ | ⟨b, off, cap, rfl, hb, hcs⟩
  · obtain rfl : ls = [] := by simpa using hl
    exact (values1_lab_nil l Bs J W hc' h0).mono fun e W' ⟨he, hj⟩ => ⟨he, .inl ⟨_, rfl, hj⟩⟩
  · rw [List.length_map] at hc'
    exact values1_lab l Bs n₀ b off cap ls hreach J Jx hY W hJ (Nat.le_trans hn₀ hW.size) hc' hI' h0
def strLe (a b : ByteArray) : Bool := Op.bytesLess a.toList b.toList || a.toList == b.toList
def labGo : ByteArray → List Lab → Bool
  | _, [] => true
  | before, x :: xs => (isNameS x.name && !strLe x.name before && isValueS x.value) && labGo x.name xs
def labLast : ByteArray → List Lab → ByteArray
  | before, [] => before
  | _, x :: xs => labLast x.name xs
theorem labGo_snoc (b : ByteArray) (ls : List Lab) (x : Lab) : labGo b (ls ++ [x]) = (labGo b ls && (isNameS x.name && !strLe x.name (labLast b ls) && isValueS x.value)) := by
  induction ls generalizing b with
  | nil => simp [labGo, labLast]
  | cons y ys ih => simp [labGo, labLast, ih, Bool.and_assoc]
theorem labLast_snoc (b : ByteArray) (ls : List Lab) (x : Lab) : labLast b (ls ++ [x]) = x.name := by
  induction ls generalizing b with
  | nil => rfl
  | cons y ys ih => simp [labLast, ih]
theorem labGo_prefix (b : ByteArray) (ps ls : List Lab) (h : ps <+: ls) (hf : labGo b ps = false) : labGo b ls = false := by
  obtain ⟨t, rfl⟩ := h
  induction ps generalizing b with
  | nil => simp [labGo] at hf
  | cons y ys ih =>
    simp only [labGo, List.cons_append] at hf ⊢
    rcases Bool.and_eq_false_iff.1 hf with h | h
    · simp [h]
    · simp [ih _ h]
def labRight (ls : List Lab) : Bool := ls.length != 0 && decide (ls.length ≤ 6) && labGo (⟨#[]⟩ : ByteArray) ls
set_option maxRecDepth 100000 in
set_option maxHeartbeats 1000000 in
theorem label_Right_mid (a0 : Option Addr) (cap : Nat) (ls : List LabK) (w : World) (hL : Labs w.heap.size w (.slice a0 ls.length cap) (ls.map (·.1))) (hG : GW w) (h1 : decide ((6 : Int) < ls.length) = false) (h2 : ((ls.length : Int) == 0) = false) (h3 : ls.length < 4294967281) :
    Calls Tryz.prog 160 #[.slice a0 ls.length cap] w fun e w' => e = .returned (.bool (labGo (⟨#[]⟩ : ByteArray) (ls.map (·.1)))) ∧ Below w.heap.size w w' := by
  refine calls_marks Tryz.func160 rfl ?_
  simp only [Tryz.ntmps160, List.size_toArray, List.length_cons, List.length_nil, Nat.reduceAdd, Nat.reduceSub, Array.replicate_succ, Array.replicate_zero, List.push_toArray, List.append_toArray, List.nil_append, List.cons_append]
  go_wp2_with fail
  go_step3
  go_wp2_with fail
  go_step3
  go_wp2_with (go_at_call 161; refine (each_any _ _ _ _).mono ?_; rintro e w' ⟨rfl, rfl⟩)
  have bR := Boxed.new w 4 (.bool true)
  have bB := Boxed.new (w.alloc (.cells #[.bool true] 4)) 9 (.string (⟨#[]⟩ : ByteArray))
  have bN := Boxed.new ((w.alloc (.cells #[.bool true] 4)).alloc (.cells #[.string (⟨#[]⟩ : ByteArray)] 9)) 62 (.slice a0 ls.length cap)
  have hB0 : Below w.heap.size w (((w.alloc (.cells #[.bool true] 4)).alloc (.cells #[.string (⟨#[]⟩ : ByteArray)] 9)).alloc (.cells #[.slice a0 ls.length cap] 62)) := (((Below.refl _ w).alloc (Nat.le_refl _) _).alloc (by simp) _).alloc (by simp; omega) _
  simp only [World.size_alloc] at bB bN
  have bR0 := (bR.alloc (.cells #[.string (⟨#[]⟩ : ByteArray)] 9)).alloc (.cells #[.slice a0 ls.length cap] 62)
  have bB0 := bB.alloc (.cells #[.slice a0 ls.length cap] 62)
  have hsz : (((w.alloc (.cells #[.bool true] 4)).alloc (.cells #[.string (⟨#[]⟩ : ByteArray)] 9)).alloc (.cells #[.slice a0 ls.length cap] 62)).heap.size = w.heap.size + 3 := by simp
  generalize (((w.alloc (.cells #[.bool true] 4)).alloc (.cells #[.string (⟨#[]⟩ : ByteArray)] 9)).alloc (.cells #[.slice a0 ls.length cap] 62)) = W0 at bR0 bB0 bN hB0 hsz ⊢
  clear bR bB
  refine wp_range_box 148 (fun x : LabK => #[.string x.1.name, .string x.1.value]) 5 (gf := 223) (lb := #[.pointer (some ⟨w.heap.size + 2, 0, none⟩)]) rfl (enters_of Tryz.func223 (by kernel_rfl) rfl)
    (values_lab (w.heap.size + 2) w.heap.size _ ls h3 W0 (by omega) (by omega) bN.cell (SlAt.below hB0 hL)) (by omega) (Below.refl _ _) (fun _ => rfl)
    (fun pre W => Boxed W w.heap.size 4 (.bool true) ∧ Boxed W (w.heap.size + 1) 9 (.string (labLast ⟨#[]⟩ (pre.map (·.1)))) ∧ labGo ⟨#[]⟩ (pre.map (·.1)) = true ∧ Below w.heap.size w W)
    (fun c pre W => Boxed W w.heap.size 4 (.bool false) ∧ (c = .exit 0 ∧ labGo ⟨#[]⟩ (pre.map (·.1)) = false) ∧ Below w.heap.size w W)
    ((ownBox _ _ _ _).and ((ownBox _ _ _ _).and ((ownFrom_pure _ _).and (ownFrom_below (Nat.le_refl _) (by omega)))))
    (fun c => (ownBox _ _ _ _).and ((ownFrom_pure _ _).and (ownFrom_below (Nat.le_refl _) (by omega))))
    ⟨bR0, bB0, rfl, hB0⟩ ?assign ?body ?done ?stop
  case assign =>
    rintro l pre x W K ⟨hb1, hb2, hg, hB⟩ hs hK
    simp only [List.zip_toArray, List.zip_cons_cons, List.zip_nil_right, List.size_toArray, List.foldl_toArray', List.foldl_cons, List.foldl_nil, List.setIfInBounds_toArray, List.set_cons_succ, List.set_cons_zero] at hK ⊢
    gi_wp2
    exact ⟨hb1.alloc _, hb2.alloc _, hg, hB.alloc hB.size _⟩
  case body =>
    rintro l pre x W Bx ⟨hb1, hb2, hg, hB⟩ hBx hBl hx hlt
    have c0 := cCc hx 0
    have c1 := cCc hx 1
    have c2 := hb2.cell
    have c3 := hb1.cell
    have c4 := hb1.frozen
    have c5 := hb2.frozen
    have hGW : GW W := hG.below hB
    have hB' := hB.size
    simp at c0 c1
    simp only [List.zip_toArray, List.zip_cons_cons, List.zip_nil_right, List.size_toArray, List.foldl_toArray', List.foldl_cons, List.foldl_nil, List.setIfInBounds_toArray, List.set_cons_succ, List.set_cons_zero]
    generalize hlast : labLast ⟨#[]⟩ (pre.map (·.1)) = last at c2 hb2
    have hsn := labGo_snoc ⟨#[]⟩ (pre.map (·.1)) x.1
    rw [hg, hlast] at hsn
    have hsl := labLast_snoc ⟨#[]⟩ (pre.map (·.1)) x.1
    have HS := Lib.hid hsn
    have HL := Lib.hid hsl
    have hnm := isName_any x.1.name W (by have := x.2.1; unfold maxLen; omega)
    clear hsn hsl hlast hsz hx
    have hlt1 := hb1.lt
    gi_wp2_with fail
    refine ⟨trivial, (CallsIn.inRound l (callsIn_wide.2 hnm)).mono ?_⟩
    rintro e w1 ⟨rfl, hb1'⟩
    have d0 := (hb1'.cell (p := ⟨Bx, 0, none⟩) hBl).trans c0
    have d1 := (hb1'.cell (p := ⟨Bx, 1, none⟩) hBl).trans c1
    have e1 := bBoxed hb1' hlt1 hb1
    have e2 := bBoxed hb1' hb2.lt hb2
    have d2 := e2.cell
    have d3 := e1.cell
    have d4 := e1.frozen
    have d5 := e2.frozen
    have hs1 := hb1'.size
    have hBw : Below w.heap.size W w1 := hb1'.mono hB'
    have hKw : KeepsFrom W0.heap.size W w1 := bKeeps hb1' (Nat.le_refl _)
    clear hnm
    by_cases hn : isNameS x.1.name = true
    · by_cases hle : (Op.bytesLess x.1.name.toList last.toList || x.1.name.toList == last.toList) = true
      · gi_wp2_with fail
        refine ⟨trivial, ?_⟩
        gi_wp2_with fail
        exact ⟨hKw.trans ((KeepsOthers.setCell _ _ _).from _), e1.set _, ⟨rfl, by rw [List.map_append, List.map_singleton, HS.out, strLe, hle]; simp⟩, hB.trans (hBw.setCell (p := ⟨w.heap.size, 0, none⟩) (Nat.le_refl _) _)⟩
      · have hle' : (Op.bytesLess x.1.name.toList last.toList || x.1.name.toList == last.toList) = false := by simpa using hle
        clear hle
        have hvl := isValue_any x.1.value w1 (by have := x.2.2; unfold maxLen; omega) (hGW.below hb1')
        gi_wp2_with fail
        refine ⟨trivial, (CallsIn.inRound l (callsIn_wide.2 hvl)).mono ?_⟩
        rintro e w2 ⟨rfl, hb2'⟩
        have f0 := (hb2'.cell (p := ⟨Bx, 0, none⟩) (by show Bx < _; omega)).trans d0
        have g1 := bBoxed hb2' (by omega) e1
        have g2 := bBoxed hb2' (by have := hb2.lt; omega) e2
        have k2 := g2.cell
        have k3 := g1.cell
        have k4 := g1.frozen
        have k5 := g2.frozen
        have hBw2 : Below w.heap.size W w2 := hBw.trans (hb2'.mono (by omega))
        have hKw2 : KeepsFrom W0.heap.size W w2 := hKw.trans (bKeeps hb2' (Nat.le_refl _))
        clear hvl
        by_cases hv : isValueS x.1.value = true
        · gi_wp2_with fail
          refine ⟨hKw2.trans ((KeepsOthers.setCell _ _ _).from _), hBw2.setCell (p := ⟨w.heap.size + 1, 0, none⟩) (Nat.le_succ _) _, g1.other (by omega) _, ?_, ?_, hB.trans (hBw2.setCell (p := ⟨w.heap.size + 1, 0, none⟩) (Nat.le_succ _) _)⟩
          · rw [List.map_append, List.map_singleton, HL.out]; exact g2.set _
          · rw [List.map_append, List.map_singleton, HS.out, strLe, hle', hn, hv]; rfl
        · have hv' : isValueS x.1.value = false := by simpa using hv
          clear hv
          gi_wp2_with fail
          exact ⟨hKw2.trans ((KeepsOthers.setCell _ _ _).from _), g1.set _, ⟨rfl, by rw [List.map_append, List.map_singleton, HS.out, hv']; simp⟩, hB.trans (hBw2.setCell (p := ⟨w.heap.size, 0, none⟩) (Nat.le_refl _) _)⟩
    · have hn' : isNameS x.1.name = false := by simpa using hn
      clear hn
      gi_wp2_with fail
      refine ⟨trivial, ?_⟩
      gi_wp2_with fail
      exact ⟨hKw.trans ((KeepsOthers.setCell _ _ _).from _), e1.set _, ⟨rfl, by rw [List.map_append, List.map_singleton, HS.out, hn']; simp⟩, hB.trans (hBw.setCell (p := ⟨w.heap.size, 0, none⟩) (Nat.le_refl _) _)⟩
  case done =>
    rintro D W hD ⟨hb1, hb2, hg, hB⟩ hK
    have c3 := hb1.cell
    have hDs : w.heap.size ≤ D := by omega
    clear hsz
    go_wp2_with fail
    refine marks_ret1 hK (results_tmp rfl _ _ _) ⟨by rw [hg]; rfl, bPutD hB hDs hK⟩
  case stop =>
    rintro D c pre W hD hp ⟨hb1, ⟨rfl, hg⟩, hB⟩ hK
    have c3 := hb1.cell
    have hDs : w.heap.size ≤ D := by omega
    clear hsz
    go_wp2_with fail
    refine marks_ret1 hK (results_tmp rfl _ _ _) ⟨by rw [labGo_prefix _ _ _ (hp.map _) hg]; rfl, bPutD hB hDs hK⟩
set_option maxHeartbeats 400000 in
theorem label_Right_any (a0 : Option Addr) (cap : Nat) (ls : List LabK) (w : World) (hL : Labs w.heap.size w (.slice a0 ls.length cap) (ls.map (·.1))) (hG : GW w) (h3 : ls.length < 4294967281) :
    Calls Tryz.prog 160 #[.slice a0 ls.length cap] w fun e w' => e = .returned (.bool (labRight (ls.map (·.1)))) ∧ Below w.heap.size w w' := by
  by_cases h0 : ls.length = 0
  · have h2 : ((ls.length : Int) == 0) = true := by simp [h0]
    have H0 := Lib.hid h0
    clear h0
    refine calls_marks Tryz.func160 rfl ?_
    simp only [Tryz.ntmps160, List.size_toArray, List.length_cons, List.length_nil, Nat.reduceAdd, Nat.reduceSub, Array.replicate_succ, Array.replicate_zero, List.push_toArray, List.append_toArray, List.nil_append, List.cons_append]
    go_wp2_with fail
    go_step3
    go_wp2_with fail
    exact marks_ret0 (results_tmp rfl _ _ _) rfl ⟨by simp [labRight, H0.out], Below.refl _ _⟩
  · have h2 : ((ls.length : Int) == 0) = false := by rw [beq_eq_false_iff_ne]; omega
    by_cases h6 : ls.length ≤ 6
    · have h1 : decide ((6 : Int) < ls.length) = false := by simp; omega
      refine (label_Right_mid a0 cap ls w hL hG h1 h2 h3).mono ?_
      rintro e w' ⟨rfl, hb⟩
      exact ⟨by simp [labRight, h6, h0], hb⟩
    · have h1 : decide ((6 : Int) < ls.length) = true := by simp; omega
      have H6 := Lib.hid h6
      refine calls_marks Tryz.func160 rfl ?_
      simp only [Tryz.ntmps160, List.size_toArray, List.length_cons, List.length_nil, Nat.reduceAdd, Nat.reduceSub, Array.replicate_succ, Array.replicate_zero, List.push_toArray, List.append_toArray, List.nil_append, List.cons_append]
      go_wp2_with fail
      go_step3
      go_wp2_with fail
      exact marks_ret0 (results_tmp rfl _ _ _) rfl ⟨by simp [labRight, H6.out], Below.refl _ _⟩
end Go.Proofs.YtpnlmfilmbodfaaGreatDoor

/- Package label: the runes of names and values; names, values. -/
import Derived.Test.YthnfhklfmaeccaaGreatDoorA0
import Derived.Test.YthnfhklfmaeccaaGreatDoorShelf
import Derived.Test.YthnfhklfmaeccaaGreatDoorProg
namespace Go.Proofs.YthnfhklfmaeccaaGreatDoor
open Go Go.RowKit

/-- The package-level variables of the library hold what they should; they lie at the heap's beginning. -/
structure GW (w : World) : Prop where
  utf8 : Lib.Utf8Tabs 1 2 w
  maxLen : ∃ m, w.cell? ⟨0, 0, none⟩ = some (.int .i64 m)
  size : 3 ≤ w.heap.size
theorem GW.below {w w' : World} (h : GW w) (hb : Below w.heap.size w w') : GW w' :=
  ⟨Utf8Tabs_below h.utf8 hb, let ⟨m, hm⟩ := h.maxLen; ⟨m, (hb.cell (p := ⟨0, 0, none⟩) (by have := h.size; show 0 < w.heap.size; omega)).trans hm⟩, Nat.le_trans h.size hb.size⟩

def isNameRuneB (c : Int) : Bool := decide (97 ≤ c) && decide (c ≤ 122)
def isValueRuneB (c : Int) : Bool := decide (32 ≤ c) && (c != 127)

theorem isNameRune_any (c : Int) (w : World) : Calls Tryz.prog 62 #[.int .i32 c] w fun e w' => e = .returned (.bool (isNameRuneB c)) ∧ w = w' := by
  by_cases h1 : 97 ≤ c
  · go_enter Tryz.func62, Tryz.ntmps62
    go_wp2
    go_ret
    exact ⟨by simp [isNameRuneB, h1], rfl⟩
  · go_enter Tryz.func62, Tryz.ntmps62
    go_wp2
    go_ret
    exact ⟨by simp [isNameRuneB]; omega, rfl⟩

theorem isValueRune_any (c : Int) (w : World) : Calls Tryz.prog 63 #[.int .i32 c] w fun e w' => e = .returned (.bool (isValueRuneB c)) ∧ w = w' := by
  by_cases h1 : 32 ≤ c
  · go_enter Tryz.func63, Tryz.ntmps63
    go_wp2
    go_ret
    exact ⟨by simp [isValueRuneB, h1], rfl⟩
  · go_enter Tryz.func63, Tryz.ntmps63
    go_wp2
    go_ret
    exact ⟨by simp [isValueRuneB]; omega, rfl⟩

def isNameS (s : ByteArray) : Bool := s.size != 0 && decide (s.size ≤ 12) && (rl s 0).all fun p => isNameRuneB p.2

set_option maxHeartbeats 400000 in
theorem isName_any (s : ByteArray) (w : World) (hs : s.size ≤ maxLen) : Calls Tryz.prog 44 #[.string s] w fun e w' => e = .returned (.bool (isNameS s)) ∧ Below w.heap.size w w' := by
  unfold maxLen at hs
  have hem := toList_isEmpty s
  by_cases h0 : s.size = 0
  · have h1 : s.toList.isEmpty = true := by rw [hem]; simp [h0]
    have h2 : s.toList = [] := by simpa using h1
    clear hem
    go_enter Tryz.func44, Tryz.ntmps44
    go_wp2_with fail
    go_ret
    exact ⟨by simp [isNameS, h0], Below.refl _ _⟩
  · have h1 : s.toList.isEmpty = false := by rw [hem]; simp [h0]
    have h2 : ¬ s.toList = [] := by simpa using h1
    clear hem
    by_cases h12 : s.size ≤ 12
    · have h3 : decide ((12 : Int) < s.size) = false := by simp; omega
      go_enter Tryz.func44, Tryz.ntmps44
      go_wp2_with fail
      go_loopw [] (fun wr => ∃ pos, wr.heap[w.heap.size]? = some (.stringIter s pos) ∧ Below w.heap.size w wr ∧ Hid (((rl s 0).all fun p => isNameRuneB p.2) = (rl s pos).all fun p => isNameRuneB p.2)) (fun wr => s.size - wr.iterPos w.heap.size)
      case atStart => exact ⟨0, World.iter_heap w s 0, (Below.refl _ _).alloc (Nat.le_refl _) _, rfl⟩
      case round =>
        obtain ⟨pos, hit, hbw, HS⟩ := hrel
        have hpos0 := iterPos_of hit
        by_cases hp : pos < s.size
        · obtain ⟨W1, hnx, hit2, hbw2, -, -⟩ := next_str (P := Tryz.prog) hit hbw (Nat.le_refl _) hp
          have hstep := Lib.hid (rl_step s pos hp)
          have hd := dec_pos s pos hp
          go_wp2_with (go_at_call 62; refine (isNameRune_any _ _).mono ?_; rintro e w' ⟨rfl, rfl⟩)
          · go_ret
            exact ⟨by have := HS.out; simp_all [isNameS, hstep.out], hbw2⟩
          · go_roundw
            case rel => exact ⟨_, hit2, hbw2, by have := HS.out; rw [hstep.out] at this; simp_all [Hid]⟩
            case measure => rw [iterPos_of hit2, hpos0]; omega
        · have hnx : ∀ ty, (Instr.next (.pointer (some ⟨w.heap.size, 0, none⟩)) true ty).run Tryz.prog wr = _ := fun ty => Lib.run_next_end_at wr w.heap.size s pos ty hit hp
          go_wp2_with fail
          go_ret
          exact ⟨by have := HS.out; rw [rl_end s pos hp] at this; simp [isNameS, h0, h12, this], hbw⟩
    · have h3 : decide ((12 : Int) < s.size) = true := by simp; omega
      go_enter Tryz.func44, Tryz.ntmps44
      go_wp2_with fail
      go_ret
      exact ⟨by simp [isNameS, h12], Below.refl _ _⟩

/-! ### Runes -/
def runeBad (s : ByteArray) (p : Nat × Int) : Bool := p.2 == 65533 && ((Lib.decodeGo (s.extract p.1 s.size)).2 : Int) == 1
def runesOk (s : ByteArray) : Bool := (rl s 0).all fun p => !runeBad s p
def runesN (s : ByteArray) : Int := if runesOk s then ((rl s 0).length : Int) else 0

set_option maxHeartbeats 400000 in
theorem Runes_any (s : ByteArray) (w : World) (hs : s.size ≤ maxLen) (hG : GW w) : Calls Tryz.prog 47 #[.string s] w fun e w' => e = .returned (.tuple #[.int .i64 (runesN s), .bool (runesOk s)]) ∧ Below w.heap.size w w' := by
  unfold maxLen at hs
  go_enter Tryz.func47, Tryz.ntmps47
  go_wp2_with fail
  go_loopw [4] (fun n wr => ∃ pos k, wr.heap[w.heap.size]? = some (.stringIter s pos) ∧ Below w.heap.size w wr ∧ n = .int .i64 (k : Nat) ∧ k ≤ pos ∧ Hid ((rl s 0).length = k + (rl s pos).length ∧ (runesOk s = (rl s pos).all fun p => !runeBad s p))) (fun _ wr => s.size - wr.iterPos w.heap.size)
  case atStart => exact ⟨0, 0, World.iter_heap w s 0, (Below.refl _ _).alloc (Nat.le_refl _) _, rfl, Nat.le_refl _, by simp [Hid, runesOk]⟩
  case round =>
    obtain ⟨pos, k, hit, hbw, rfl, hkp, HS⟩ := hrel
    have hpos0 := iterPos_of hit
    by_cases hp : pos < s.size
    · obtain ⟨W1, hnx, hit2, hbw2, hsz, -⟩ := next_str (P := Tryz.prog) hit hbw (Nat.le_refl _) hp
      have hstep := Lib.hid (rl_step s pos hp)
      have hd := dec_pos s pos hp
      have hT := (hG.below hbw2).utf8
      have hbx : Below w.heap.size W1 W1 := Below.refl _ _
      by_cases hc : ((Utf8.decode s pos).1 : Int) = 65533
      · have hc1 : (((Utf8.decode s pos).1 : Int) == 65533) = true := by simp [hc]
        have hpi : (pos : Int) ≤ s.size := by omega
        have HC := Lib.hid hc
        clear hc
        by_cases hz : ((Lib.decodeGo (s.extract pos s.size)).2 : Int) = 1
        · have hz1 : (((Lib.decodeGo (s.extract pos s.size)).2 : Int) == 1) = true := by simp [hz]
          have HZ := Lib.hid hz
          clear hz
          go_wp2_with (go_at_call 65; refine (Tryz.utf8_DecodeRuneInString _ _ hT).mono ?_; rintro e w' ⟨rfl, hb'⟩)
          go_ret2
          have h2 : runesOk s = false := by rw [HS.out.2, hstep.out]; simp [runeBad, HC.out, HZ.out]
          exact ⟨by simp [runesN, h2], hbw2.trans (hb'.mono (by have := hbw2.size; omega))⟩
        · have hz1 : (((Lib.decodeGo (s.extract pos s.size)).2 : Int) == 1) = false := by simpa using hz
          have HZ := Lib.hid hz
          clear hz
          go_wp2_with (go_at_call 65; refine (Tryz.utf8_DecodeRuneInString _ _ hT).mono ?_; rintro e w' ⟨rfl, hb'⟩)
          go_roundw
          case rel => exact ⟨_, k + 1, (hb'.block _ (by rw [hsz]; have := (Array.getElem?_eq_some_iff.1 hit).1; exact this)).trans hit2, hbw2.trans (hb'.mono (by have := hbw2.size; omega)), by go_num, by omega, by have h3 := HS.out.1; have h4 := HS.out.2; rw [hstep.out] at h3 h4; refine ⟨by simp at h3; omega, by rw [h4]; simp [runeBad, HZ.out]⟩⟩
          case measure => rw [iterPos_of ((hb'.block _ (by rw [hsz]; have := (Array.getElem?_eq_some_iff.1 hit).1; exact this)).trans hit2), hpos0]; omega
      · have hc1 : (((Utf8.decode s pos).1 : Int) == 65533) = false := by simpa using hc
        have HC := Lib.hid hc
        clear hc
        go_wp2_with fail
        go_roundw
        case rel => exact ⟨_, k + 1, hit2, hbw2, by go_num, by omega, by have h3 := HS.out.1; have h4 := HS.out.2; rw [hstep.out] at h3 h4; refine ⟨by simp at h3; omega, by rw [h4]; simp [runeBad, HC.out]⟩⟩
        case measure => rw [iterPos_of hit2, hpos0]; omega
    · have hnx : ∀ ty, (Instr.next (.pointer (some ⟨w.heap.size, 0, none⟩)) true ty).run Tryz.prog wr = _ := fun ty => Lib.run_next_end_at wr w.heap.size s pos ty hit hp
      go_wp2_with fail
      go_ret2
      have h2 := HS.out
      rw [rl_end s pos hp] at h2
      simp at h2
      exact ⟨by simp [runesN, h2], hbw⟩
end Go.Proofs.YthnfhklfmaeccaaGreatDoor

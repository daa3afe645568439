/- Package scope: signs, patterns, what fits. -/
import Derived.Test.YtohfemdjkdjeeaaDoorS2
namespace Go.Proofs.YtohfemdjkdjeeaaDoor
open Go Go.RowKit Go.Shelf

def signGo : Bool → List Int → List Sign × Bool
  | q, [] => ([], q)
  | true, c :: cs => (.that c :: (signGo false cs).1, (signGo false cs).2)
  | false, c :: cs => if c == 42 then (.any :: (signGo false cs).1, (signGo false cs).2) else if c == 63 then (.one :: (signGo false cs).1, (signGo false cs).2)
      else if c == 126 then signGo true cs else (.that c :: (signGo false cs).1, (signGo false cs).2)
def runesC (s : ByteArray) (pos : Nat) : List Int := (rl s pos).map (·.2)
theorem runesC_step (s : ByteArray) (pos : Nat) (h : pos < s.size) : runesC s pos = ((Utf8.decode s pos).1 : Int) :: runesC s (pos + (Utf8.decode s pos).2) := by simp [runesC, rl_step s pos h]
theorem runesC_end (s : ByteArray) (pos : Nat) (h : ¬ pos < s.size) : runesC s pos = [] := by simp [runesC, rl_end s pos h]
def signsOf (p : ByteArray) : Option (List Sign) := if scValue p then (if (signGo false (runesC p 0)).2 then none else some (signGo false (runesC p 0)).1) else none
theorem signGo_len : ∀ (q : Bool) (cs : List Int), (signGo q cs).1.length ≤ cs.length
  | q, [] => by cases q <;> simp [signGo]
  | true, c :: cs => by have := signGo_len false cs; simp [signGo]; omega
  | false, c :: cs => by
    have h1 := signGo_len false cs
    have h2 := signGo_len true cs
    simp only [signGo]
    repeat' split
    all_goals (simp; omega)
theorem scValue_runes (p : ByteArray) (h : scValue p = true) : (rl p 0).length ≤ 24 := by
  simp only [scValue, labRight, labGo, Bool.and_eq_true, isValueS, runesN, decide_eq_true_eq] at h
  have h1 := h.2.1.2.1.1
  have h2 := h.2.1.2.1.2
  rw [h1] at h2
  simp at h2
  omega
theorem signsOf_len (p : ByteArray) (l : List Sign) (h : signsOf p = some l) : l.length ≤ 24 := by
  unfold signsOf at h
  split at h
  · rename_i hv
    split at h
    · cases h
    · cases h
      have := signGo_len false (runesC p 0)
      have := scValue_runes p hv
      simp [runesC] at *
      omega
  · cases h
def SignsPost (p : ByteArray) (w : World) (e : Ending) (w' : World) : Prop :=
  ∃ a len cap, e = .returned (.tuple #[.slice a len cap, .bool (signsOf p).isSome]) ∧ Signs w'.heap.size w' (.slice a len cap) ((signsOf p).getD []) ∧ Below w.heap.size w w'
theorem info_sign : (Tryd.prog.info? 92).map (fun i => (i.zero, i.size, i.bytes)) = some (some .nilIface, 1, 16) := by kernel_rfl
theorem und_signs : Tryd.prog.underlying 70 = some (.slice 92) := by kernel_rfl
theorem sign_one (x : Sign) : x.val.oneCell' = true := by cases x <;> rfl

/-- What the loop of signs carries. -/
def SignsRel (p : ByteArray) (w0 : World) (N : Nat) (v q : Value) (wr : World) : Prop :=
  ∃ pos acc qb, wr.heap[N]? = some (.stringIter p pos) ∧ wr.ownsRow (N + 1) 92 1 v acc.length (acc.map Sign.val) ∧ Below N w0 wr ∧ q = .bool qb ∧ acc.length ≤ pos ∧
    (acc ++ (signGo qb (runesC p pos)).1, (signGo qb (runesC p pos)).2) = signGo false (runesC p 0)
/-- One more sign. -/
theorem signs_more {p : ByteArray} {w0 W1 : World} {N pos : Nat} {acc : List Sign} {v : Value} (hit : W1.heap[N]? = some (.stringIter p pos)) (hown : W1.ownsRow (N + 1) 92 1 v acc.length (acc.map Sign.val)) (hB : Below N w0 W1) (hacc : acc.length < 4294967281) (x : Sign) :
    ∃ g cap w1, (Builtin.append_ #[70, 70] 70 #[v, .slice (some ⟨W1.heap.size, 0, none⟩) 1 1]).run Tryd.prog (W1.alloc (.cells #[x.val] 92)) = .ok (.slice (some ⟨g, 0, none⟩) (acc.length + 1) cap) w1 ∧
      w1.heap[N]? = some (.stringIter p pos) ∧ w1.ownsRow (N + 1) 92 1 (.slice (some ⟨g, 0, none⟩) (acc.length + 1) cap) (acc ++ [x]).length ((acc ++ [x]).map Sign.val) ∧ Below N w0 w1 := by
  have hlt := (Array.getElem?_eq_some_iff.1 hit).1
  obtain ⟨g, cap, w1, h1, h2, h3, h4, h5, h6⟩ := append_one Tryd.prog 70 und_signs info_sign rfl (by decide) hown hB (Nat.le_succ N) (by omega) [x.val] rfl (by simp [sign_one]) hacc (by decide)
  refine ⟨g, cap, w1, h1, (h5 N (by omega)).trans hit, ?_, h3⟩
  simpa using h2

set_option maxRecDepth 100000 in
set_option maxHeartbeats 2000000 in
theorem signs_any (p : ByteArray) (w : World) (hp : p.size < 4294967281) (hG : GW w) : Calls Tryd.prog 33 #[.string p] w (SignsPost p w) := by
  have hV := scIsValue_any p w hp hG
  by_cases hv : scValue p = true
  · rw [hv] at hV
    have HV := Lib.hid hv
    clear hv
    go_enter Tryd.func33, Tryd.ntmps33
    go_wp2_with (go_at_call 42; refine hV.mono ?_; rintro e w1 ⟨rfl, hb1⟩)
    clear hV
    go_loopw [4, 5] (SignsRel p w1 w1.heap.size) (fun _ _ wr => p.size - wr.iterPos w1.heap.size)
    case atStart => exact ⟨0, [], false, World.iter_heap w1 p 0, World.ownsRow_nil _ _ _ _, (Below.refl _ _).alloc (Nat.le_refl _) _, rfl, Nat.le_refl _, rfl⟩
    case round =>
      obtain ⟨pos, acc, qb, hit, hown, hB, rfl, hacc, hspec⟩ := hrel
      have HS := Lib.hid hspec
      clear hspec
      have hpos0 := iterPos_of hit
      by_cases hps : pos < p.size
      · obtain ⟨W1, hnx, hit2, hB2, hsz2, hoth⟩ := next_str (P := Tryd.prog) hit hB (Nat.le_refl _) hps
        have hd := dec_pos p pos hps
        have hst := Lib.hid (runesC_step p pos hps)
        have hown2 : W1.ownsRow (w1.heap.size + 1) 92 1 u4 acc.length (acc.map Sign.val) := owns_of_blocks hown (fun j hj _ => hoth j (by omega))
        generalize ((Utf8.decode p pos).1 : Int) = c at hnx hst
        clear hit hB hown hoth hsz2
        cases qb with
        | true =>
          obtain ⟨g, cap, w3, hap, hit3, hown3, hB3⟩ := signs_more hit2 hown2 hB2 (by omega) (.that c)
          clear hown2 hB2
          simp only [Sign.val] at hap
          go_wp2_with (at_builtin; refine wp_append_eq rfl _ _ _ rfl rfl rfl hap ?_)
          go_roundw
          case rel => exact ⟨_, acc ++ [.that c], false, hit3, by simpa using hown3, hB3, rfl, by simp; omega, by rw [← HS.out, hst.out]; simp [signGo]⟩
          case measure => rw [iterPos_of hit3, hpos0]; omega
        | false =>
          have HC := Lib.hid hst.out
          by_cases h1 : (c == 42) = true
          · obtain rfl : c = 42 := by simpa using h1
            obtain ⟨g, cap, w3, hap, hit3, hown3, hB3⟩ := signs_more hit2 hown2 hB2 (by omega) (.any)
            clear hown2 hB2
            simp only [Sign.val] at hap
            go_wp2_with (at_builtin; refine wp_append_eq rfl _ _ _ rfl rfl rfl hap ?_)
            go_roundw
            case rel => exact ⟨_, acc ++ [.any], false, hit3, by simpa using hown3, hB3, rfl, by simp; omega, by rw [← HS.out, hst.out]; simp [signGo]⟩
            case measure => rw [iterPos_of hit3, hpos0]; omega

          have h1' : (c == 42) = false := by simpa using h1
          clear h1
          by_cases h2 : (c == 63) = true
          · obtain rfl : c = 63 := by simpa using h2
            obtain ⟨g, cap, w3, hap, hit3, hown3, hB3⟩ := signs_more hit2 hown2 hB2 (by omega) (.one)
            clear hown2 hB2
            simp only [Sign.val] at hap
            go_wp2_with (at_builtin; refine wp_append_eq rfl _ _ _ rfl rfl rfl hap ?_)
            go_roundw
            case rel => exact ⟨_, acc ++ [.one], false, hit3, by simpa using hown3, hB3, rfl, by simp; omega, by rw [← HS.out, hst.out]; simp [signGo]⟩
            case measure => rw [iterPos_of hit3, hpos0]; omega

          have h2' : (c == 63) = false := by simpa using h2
          clear h2
          by_cases h3 : (c == 126) = true
          · obtain rfl : c = 126 := by simpa using h3
            go_wp2_with fail
            go_roundw
            case rel => exact ⟨_, acc, true, hit2, hown2, hB2, rfl, by omega, by rw [← HS.out, hst.out]; simp [signGo]⟩
            case measure => rw [iterPos_of hit2, hpos0]; omega
          have h3' : (c == 126) = false := by simpa using h3
          clear h3
          have H3 : Hid ((c == 42) = false ∧ (c == 63) = false ∧ (c == 126) = false) := ⟨h1', h2', h3'⟩
          obtain ⟨g, cap, w3, hap, hit3, hown3, hB3⟩ := signs_more hit2 hown2 hB2 (by omega) (.that c)
          clear hown2 hB2
          simp only [Sign.val] at hap
          go_wp2_with (at_builtin; refine wp_append_eq rfl _ _ _ rfl rfl rfl hap ?_)
          go_roundw
          case rel => exact ⟨_, acc ++ [.that c], false, hit3, by simpa using hown3, hB3, rfl, by simp; omega, by rw [← HS.out, hst.out]; simp [signGo, H3.out.1, H3.out.2.1, H3.out.2.2]⟩
          case measure => rw [iterPos_of hit3, hpos0]; omega
      · have hnx : ∀ ty, (Instr.next (.pointer (some ⟨w1.heap.size, 0, none⟩)) true ty).run Tryd.prog wr = _ := fun ty => Lib.run_next_end_at wr w1.heap.size p pos ty hit hps
        have hend := Lib.hid (runesC_end p pos hps)
        have hsz := hb1.size
        have hbf := hb1.trans (hB.mono hsz)
        cases qb with
        | true =>
          go_wp2_with fail
          go_ret2
          have h5 : signsOf p = none := by simp [signsOf, HV.out, ← HS.out, hend.out, signGo]
          exact ⟨none, 0, 0, by rw [h5]; rfl, by rw [h5]; exact .inl ⟨rfl, rfl, rfl⟩, hbf⟩
        | false =>
          go_wp2_with fail
          go_ret2
          have h5 : signsOf p = some acc := by simp [signsOf, HV.out, ← HS.out, hend.out, signGo]
          have h6 := slAt_of_owns hown
          rcases id h6 with ⟨rfl, h7, _⟩ | ⟨b, off, cap, rfl, _⟩
          · exact ⟨none, 0, 0, by rw [h5]; rfl, by rw [h5]; simpa [Signs] using h6, hbf⟩
          · exact ⟨some ⟨b, off, none⟩, _, _, by rw [h5]; rfl, by rw [h5]; simpa [Signs] using h6, hbf⟩
  · have hv' : scValue p = false := by simpa using hv
    rw [hv'] at hV
    have HV := Lib.hid hv'
    clear hv hv'
    go_enter Tryd.func33, Tryd.ntmps33
    go_wp2_with (go_at_call 42; refine hV.mono ?_; rintro e w1 ⟨rfl, hb1⟩)
    go_ret2
    have h5 : signsOf p = none := by simp [signsOf, HV.out]
    exact ⟨none, 0, 0, by rw [h5]; rfl, by rw [h5]; exact .inl ⟨rfl, rfl, rfl⟩, hb1⟩
end Go.Proofs.YtohfemdjkdjeeaaDoor

/- Package label: Less; slices of labels: Equal, Clone. slices.Clone and slices.Equal at []api.Label: printed by wip/tools/gen_l5.py. -/
import Derived.Test.YtpnlmfilmbodfaaGreatDoorVL3
import Derived.Test.YtpnlmfilmbodfaaGreatDoorVXA
namespace Go.Proofs.YtpnlmfilmbodfaaGreatDoor
open Go Go.RowKit Go.Shelf
deriving instance DecidableEq for Lab
def labLess : List Lab → List Lab → Bool
  | [], bs => decide (0 < bs.length)
  | _ :: _, [] => false
  | x :: xs, y :: ys => if x.name = y.name ∧ x.value = y.value then labLess xs ys else if x.name ≠ y.name then Op.bytesLess x.name.toList y.name.toList else Op.bytesLess x.value.toList y.value.toList
theorem lab_cells {n₀ : Nat} {w : World} {a : Option Addr} {len : Nat} {l : List Lab} (h : SlE Lab.enc 2 n₀ w a len l) {j : Nat} (hj : j < len) :
    ∃ x b off, l[j]? = some x ∧ a = some ⟨b, off, none⟩ ∧ b < n₀ ∧ w.cell? ⟨b, off + j * 2, none⟩ = some (.string x.name) ∧ w.cell? ⟨b, off + j * 2 + 1, none⟩ = some (.string x.value) := by
  obtain ⟨x, b, off, hx, e, hb, hc⟩ := h.at hj
  exact ⟨x, b, off, hx, e, hb, hc 0 (by omega), hc 1 (by omega)⟩
theorem beq_str (a b : ByteArray) : (a.toList == b.toList) = decide (a = b) := by
  by_cases h : a = b
  · subst h; simp
  · rw [decide_eq_false h, beq_eq_false_iff_ne]
    intro e
    apply h
    rw [Lib.toList_data, Lib.toList_data] at e
    exact ByteArray.ext (Array.ext' e)
theorem drop_cons' {α : Type} {l : List α} {k : Nat} {x : α} (h : l[k]? = some x) : l.drop k = x :: l.drop (k + 1) := by
  obtain ⟨hk, rfl⟩ := List.getElem?_eq_some_iff.1 h
  exact List.drop_eq_getElem_cons hk
theorem eg_lab : Tryz.prog.eqGuardType Tryz.prog.depth 148 = false := by kernel_rfl
theorem eq_lab (x1 x2 y1 y2 : ByteArray) (w : World) : (binOp .eql 148 (.agg #[.string x1, .string x2]) (.agg #[.string y1, .string y2])).run Tryz.prog w = .ok (.bool (x1.toList == y1.toList && x2.toList == y2.toList)) w := by
  have h1 : Tryz.prog.underlying 148 = some (.struct (Tryz.prog.fieldsOf 148)) := by kernel_rfl
  have h2 : Tryz.prog.stoodInHeld 148 = false := by kernel_rfl
  have h3 : (Tryz.prog.fieldsOf 148).toList = [{ name := "Name", type := 9, offset := 0, embedded := false, tag := "", pkgPath := "", byteOffset := 0 }, { name := "Value", type := 9, offset := 1, embedded := false, tag := "", pkgPath := "", byteOffset := 16 }] := by kernel_rfl
  rw [run_eql_struct, run_equalIn_agg w 9999 _ _ _ h1 h2, h3]
  cases ha : (x1.toList == y1.toList) <;> cases hb : (x2.toList == y2.toList) <;> simp [go_sem, ha, hb, Tryz.underlying9]
theorem neq_lab (x1 x2 y1 y2 : ByteArray) (w : World) : (binOp .neq 148 (.agg #[.string x1, .string x2]) (.agg #[.string y1, .string y2])).run Tryz.prog w = .ok (.bool (!(x1.toList == y1.toList && x2.toList == y2.toList))) w := by
  have h1 : Tryz.prog.underlying 148 = some (.struct (Tryz.prog.fieldsOf 148)) := by kernel_rfl
  have h2 : Tryz.prog.stoodInHeld 148 = false := by kernel_rfl
  have h3 : (Tryz.prog.fieldsOf 148).toList = [{ name := "Name", type := 9, offset := 0, embedded := false, tag := "", pkgPath := "", byteOffset := 0 }, { name := "Value", type := 9, offset := 1, embedded := false, tag := "", pkgPath := "", byteOffset := 16 }] := by kernel_rfl
  rw [run_neq_struct, run_equalIn_agg w 9999 _ _ _ h1 h2, h3]
  cases ha : (x1.toList == y1.toList) <;> cases hb : (x2.toList == y2.toList) <;> simp [go_sem, ha, hb, Tryz.underlying9]
set_option maxRecDepth 100000 in
set_option maxHeartbeats 1000000 in
theorem label_Less_any (a1 : Option Addr) (len1 cap1 : Nat) (l1 : List Lab) (a2 : Option Addr) (len2 cap2 : Nat) (l2 : List Lab) (w : World) (h1 : SlE Lab.enc 2 w.heap.size w a1 len1 l1) (h2 : SlE Lab.enc 2 w.heap.size w a2 len2 l2) (hm : len1 ≤ maxLen) (hm2 : len2 ≤ maxLen) :
    Calls Tryz.prog 109 #[.slice a1 len1 cap1, .slice a2 len2 cap2] w fun e w' => e = .returned (.bool (labLess l1 l2)) ∧ Below w.heap.size w w' := by
  unfold maxLen at hm hm2
  have E1 := Lib.hid h1.1
  have E2 := Lib.hid h2.1
  go_enter Tryz.func109, Tryz.ntmps109
  go_wp2_with fail
  go_loopw [4, 10] (fun _ i wr => ∃ (k : Nat), i = .int .i64 k ∧ k ≤ len1 ∧ k ≤ len2 ∧ Below w.heap.size w wr ∧ Hid (labLess l1 l2 = labLess (l1.drop k) (l2.drop k))) (fun _ i _ => len1 - (intOf i).toNat)
  case atStart => exact ⟨0, rfl, Nat.zero_le _, Nat.zero_le _, Below.refl _ _, rfl⟩
  case round =>
    obtain ⟨k, rfl, hk, hk2, hB, HF⟩ := hrel
    have hsz := hB.size
    by_cases hlt : k < len1
    · obtain ⟨x, b1, o1, hx, ea1, hb1, p0, p1⟩ := lab_cells (h1.below hB) hlt
      subst ea1
      by_cases hlt2 : k < len2
      · obtain ⟨y, b2, o2, hy, ea2, hb2, q0, q1⟩ := lab_cells (h2.below hB) hlt2
        subst ea2
        obtain ⟨x1, x2⟩ := x
        obtain ⟨y1, y2⟩ := y
        dsimp only at p0 p1 q0 q1
        have t0 : ((k : Int) == (len2 : Int)) = false := by rw [beq_eq_false_iff_ne]; omega
        have HX : Hid (labLess l1 l2 = if x1 = y1 ∧ x2 = y2 then labLess (l1.drop (k + 1)) (l2.drop (k + 1)) else if x1 ≠ y1 then Op.bytesLess x1.toList y1.toList else Op.bytesLess x2.toList y2.toList) := by
          rw [Hid, HF.out, drop_cons' hx, drop_cons' hy]; rfl
        clear hx hy h1 h2 HF
        have i0 : (0 : Int) ≤ (k : Int) := by omega
        have i1 : (k : Int) < (len1 : Int) := by omega
        have i2 : (k : Int) < (len2 : Int) := by omega
        obtain ⟨W1, hW1, hX1, hB1, hs1⟩ := boxes1 wr #[.string x1, .string x2] 148
        have u0 : W1.cell? ⟨b2, o2 + k * 2, none⟩ = some (.string y1) := (hB1.cell (p := ⟨b2, o2 + k * 2, none⟩) (by show b2 < _; omega)).trans q0
        have u1 : W1.cell? ⟨b2, o2 + k * 2 + 1, none⟩ = some (.string y2) := (hB1.cell (p := ⟨b2, o2 + k * 2 + 1, none⟩) (by show b2 < _; omega)).trans q1
        obtain ⟨W2, hW2, hX3, hB3, hs2⟩ := boxes1 W1 #[.string y1, .string y2] 148
        have hX2 := (hB3.block wr.heap.size (by omega)).trans hX1
        have hB2 : Below wr.heap.size wr W2 := hB1.trans (hB3.mono (by omega))
        have r0 : W2.cell? ⟨wr.heap.size, 0, none⟩ = some (.string x1) := cCc hX2 0
        have r1 : W2.cell? ⟨wr.heap.size, 1, none⟩ = some (.string x2) := cCc hX2 1
        have r2 : W2.cell? ⟨W1.heap.size, 0, none⟩ = some (.string y1) := cCc hX3 0
        have r3 : W2.cell? ⟨W1.heap.size, 1, none⟩ = some (.string y2) := cCc hX3 1
        clear hX1 hX2 hX3 q0 q1 hs1 hs2
        have hBB : Below w.heap.size w W2 := hB.trans (hB2.mono hsz)
        have n2 := eg_lab
        have hn := beq_str x1 y1
        have hv := beq_str x2 y2
        by_cases hx1 : x1 = y1
        · by_cases hx2 : x2 = y2
          · have n1 : ∀ w, (binOp .eql 148 (.agg #[.string x1, .string x2]) (.agg #[.string y1, .string y2])).run Tryz.prog w = .ok (.bool true) w := fun w => by rw [eq_lab, hn, hv]; simp [hx1, hx2]
            have HXY := Lib.hid (And.intro hx1 hx2)
            clear hx1 hx2 hn hv
            go_wp2_with fail
            all_goals go_roundw
            case rel => exact ⟨k + 1, by go_num, by omega, by omega, hBB, by rw [Hid, HX.out, if_pos HXY.out]⟩
            case measure => simp [intOf]; omega
          · have n1 : ∀ w, (binOp .eql 148 (.agg #[.string x1, .string x2]) (.agg #[.string y1, .string y2])).run Tryz.prog w = .ok (.bool false) w := fun w => by rw [eq_lab, hn, hv]; simp [hx2]
            have n3 : (x1.toList == y1.toList) = true := by rw [hn]; simp [hx1]
            have HXY : Hid (¬ (x1 = y1 ∧ x2 = y2) ∧ ¬ (x1 ≠ y1)) := ⟨fun h => hx2 h.2, fun h => h hx1⟩
            clear hx1 hx2 hn hv
            go_wp2_with fail
            go_ret
            exact ⟨by rw [HX.out, if_neg HXY.out.1, if_neg HXY.out.2]; rfl, hBB⟩
        · have n1 : ∀ w, (binOp .eql 148 (.agg #[.string x1, .string x2]) (.agg #[.string y1, .string y2])).run Tryz.prog w = .ok (.bool false) w := fun w => by rw [eq_lab, hn, hv]; simp [hx1]
          have n3 : (x1.toList == y1.toList) = false := by rw [hn]; simp [hx1]
          have HXY : Hid (¬ (x1 = y1 ∧ x2 = y2) ∧ (x1 ≠ y1)) := ⟨fun h => hx1 h.1, hx1⟩
          clear hx1 hn hv
          go_wp2_with fail
          go_ret
          exact ⟨by rw [HX.out, if_neg HXY.out.1, if_pos HXY.out.2]; rfl, hBB⟩
      · have t0 : ((k : Int) == (len2 : Int)) = true := by rw [beq_iff_eq]; omega
        have i0 : (0 : Int) ≤ (k : Int) := by omega
        have i1 : (k : Int) < (len1 : Int) := by omega
        have HX : Hid (labLess l1 l2 = false) := by
          rw [Hid, HF.out, drop_cons' hx, (List.drop_eq_nil_of_le (by rw [← E2.out]; omega) : l2.drop k = [])]; rfl
        have hBa : Below w.heap.size w (wr.alloc (.cells #[.string x.name, .string x.value] 148)) := hB.alloc hsz _
        clear hx h1 h2 HF
        go_wp2_with fail
        go_ret
        exact ⟨by rw [HX.out]; rfl, hBa⟩
    · have HX : Hid (labLess l1 l2 = decide ((len1 : Int) < len2)) := by
        rw [Hid, HF.out, List.drop_eq_nil_of_le (by rw [← E1.out]; omega), labLess, List.length_drop, ← E2.out]
        simp; omega
      clear h1 h2 HF
      go_wp2_with fail
      go_ret
      exact ⟨by rw [HX.out]; simp, hB⟩
end Go.Proofs.YtpnlmfilmbodfaaGreatDoor
namespace Go.Proofs.YtpnlmfilmbodfaaGreatDoor
open Go Go.RowKit
theorem und_lab : Tryz.prog.underlying 62 = some (.slice 148) := by kernel_rfl
theorem info_lab : (Tryz.prog.info? 148).map (fun i => (i.zero, i.size, i.bytes)) = some (some (.agg #[.string ⟨#[]⟩, .string ⟨#[]⟩]), 2, 32) := by kernel_rfl
theorem eqlnil_lab (a : Option Addr) (n c : Nat) (w : World) : (binOp .eql 62 (.slice a n c) (.slice none 0 0)).run Tryz.prog w = .ok (.bool a.isNone) w := Lib.run_eql_slice_nil w _ _ a n c 0 0 und_lab
theorem one_lab (x : Lab) : ∀ u ∈ Lab.enc x, u.oneCell' = true := by
  intro u hu
  simp only [Lab.enc, List.mem_cons, List.not_mem_nil, or_false] at hu
  rcases hu with rfl | rfl <;> rfl
set_option maxHeartbeats 1000000 in
theorem clone_lab (a : Option Addr) (len cap : Nat) (l : List Lab) (w : World) (hL : SlE Lab.enc 2 w.heap.size w a len l) (hll : len < 2147483648) :
    Calls Tryz.prog 165 #[.slice a len cap] w fun e w' => ∃ a' cap', e = .returned (.slice a' len cap') ∧ SlC Lab.enc 2 w'.heap.size w' a' len cap' l ∧ (∀ x, a' = some x → w.heap.size ≤ x.block) ∧ Below w.heap.size w w' := by
  have he := eqlnil_lab a len cap
  have hlen := hL.1
  cases a with
  | none =>
    have hl0 : l = [] := by
      cases l with
      | nil => rfl
      | cons y ys => obtain ⟨b, off, e, _⟩ := hL.2 0 y rfl; cases e
    subst hl0
    obtain rfl : len = 0 := hlen
    clear hL
    go_enter Tryz.func165, Tryz.ntmps165
    go_wp2_with fail
    go_ret
    exact ⟨none, 0, rfl, SlC.nil, (fun x h => by cases h), Below.refl _ _⟩
  | some a =>
    have hB1 : Below w.heap.size w (w.alloc (.cells #[] 148)) := (Below.refl _ w).alloc (Nat.le_refl _) _
    have hown : (w.alloc (.cells #[] 148)).ownsRow w.heap.size 148 2 (.slice (some ⟨w.heap.size, 0, none⟩) 0 0) 0 [] := ⟨rfl, .inr ⟨w.heap.size, 0, #[], rfl, Nat.le_refl _, World.alloc_heap_new _ _, Nat.le_refl _, by unfold maxLen; omega, rfl, rfl⟩⟩
    have hL1 := hL.go hB1
    obtain ⟨v4, w4, hap4, hown4, hB4, hz4, -, -⟩ := append_elems Tryz.prog (cap := cap) 62 und_lab info_lab rfl (by decide) hown hB1 (Nat.le_refl _) (by simp) (fun _ => rfl) hL1 one_lab (by omega) hll (by decide)
    rw [Nat.zero_add, List.nil_append, hlen] at hown4
    obtain ⟨a4, c4, hv4, hs4, hb4⟩ := slC_of_owns (enc := Lab.enc) (fun _ => rfl) hown4
    have HS : Hid (SlC Lab.enc 2 w4.heap.size w4 a4 len c4 l) := by rw [Hid, hlen]; exact hs4
    rw [← hlen] at hv4
    subst hv4
    clear hL hL1 hown hs4 hown4 hlen
    go_enter Tryz.func165, Tryz.ntmps165
    go_wp2_with (at_builtin; refine wp_append_eq rfl _ _ _ rfl rfl rfl hap4 ?_)
    go_ret
    exact ⟨_, _, rfl, HS.out, hb4, hB4⟩
set_option maxRecDepth 100000 in
set_option maxHeartbeats 1000000 in
theorem equal_lab (a1 : Option Addr) (len1 cap1 : Nat) (l1 : List Lab) (a2 : Option Addr) (len2 cap2 : Nat) (l2 : List Lab) (w : World) (h1 : SlE Lab.enc 2 w.heap.size w a1 len1 l1) (h2 : SlE Lab.enc 2 w.heap.size w a2 len2 l2) (hm : len1 ≤ maxLen) :
    Calls Tryz.prog 116 #[.slice a1 len1 cap1, .slice a2 len2 cap2] w fun e w' => e = .returned (.bool (l1 == l2)) ∧ Below w.heap.size w w' := by
  have e1 := h1.1
  have e2 := h2.1
  unfold maxLen at hm
  by_cases hl : len1 = len2
  · subst hl
    have t0 : ((len1 : Int) != (len1 : Int)) = false := by simp
    have E1 := Lib.hid e1
    have E2 := Lib.hid e2
    clear e1 e2
    go_enter Tryz.func116, Tryz.ntmps116
    go_wp2_with fail
    go_loopw [5, 13] (fun _ i wr => ∃ (k : Nat), i = .int .i64 k ∧ k ≤ len1 ∧ Below w.heap.size w wr ∧ Hid (l1.take k = l2.take k)) (fun _ i _ => len1 - (intOf i).toNat)
    case atStart => exact ⟨0, rfl, Nat.zero_le _, Below.refl _ _, rfl⟩
    case round =>
      obtain ⟨k, rfl, hk, hB, HF⟩ := hrel
      by_cases hlt : k < len1
      · obtain ⟨x, b1, o1, hx, ea1, hb1, hc1⟩ := (h1.below hB).at hlt
        obtain ⟨y, b2, o2, hy, ea2, hb2, hc2⟩ := (h2.below hB).at hlt
        subst ea1; subst ea2
        have p0 : wr.cell? ⟨b1, o1 + k * 2, none⟩ = some (.string x.name) := hc1 0 (by omega)
        have p1 : wr.cell? ⟨b1, o1 + k * 2 + 1, none⟩ = some (.string x.value) := hc1 1 (by omega)
        have q0 : wr.cell? ⟨b2, o2 + k * 2, none⟩ = some (.string y.name) := hc2 0 (by omega)
        have q1 : wr.cell? ⟨b2, o2 + k * 2 + 1, none⟩ = some (.string y.value) := hc2 1 (by omega)
        have n2 := eg_lab
        have i0 : (0 : Int) ≤ (k : Int) := by omega
        have i1 : (k : Int) < (len1 : Int) := by omega
        have HX := Lib.hid hx
        have HY := Lib.hid hy
        clear hc1 hc2 hx hy h1 h2
        by_cases hxy : x = y
        · have n1 : ∀ w, (binOp .neq 148 (.agg #[.string x.name, .string x.value]) (.agg #[.string y.name, .string y.value])).run Tryz.prog w = .ok (.bool false) w := fun w => by rw [neq_lab, beq_str, beq_str, hxy]; simp
          have HXY : Hid (x = y) := hxy
          clear hxy
          go_wp2_with fail
          go_quiet (fail)
          go_wp2_with fail
          go_roundw
          case rel => exact ⟨k + 1, by go_num, by omega, bDr hB _, by rw [Hid, take_snoc' HX.out, take_snoc' HY.out, HF.out, HXY.out]⟩
          case measure => simp [intOf]; omega
        · have n1 : ∀ w, (binOp .neq 148 (.agg #[.string x.name, .string x.value]) (.agg #[.string y.name, .string y.value])).run Tryz.prog w = .ok (.bool true) w := fun w => by rw [neq_lab, beq_str, beq_str]; cases x; cases y; simp only [Lab.mk.injEq] at hxy; rw [← Bool.decide_and, decide_eq_false hxy]; rfl
          have HXY : Hid (¬ x = y) := hxy
          clear hxy
          go_wp2_with fail
          go_quiet (fail)
          go_wp2_with fail
          go_ret
          have hne : (l1 == l2) = false := by
            rw [beq_eq_false_iff_ne]
            intro e
            have hx := HX.out
            rw [e, HY.out] at hx
            exact HXY.out (Option.some.inj hx).symm
          exact ⟨by rw [hne]; rfl, bDr hB _⟩
      · obtain rfl : k = len1 := by omega
        clear h1 h2
        go_wp2_with fail
        go_ret
        have h9 := HF.out
        rw [List.take_of_length_le (by rw [← E1.out]; omega), List.take_of_length_le (by rw [← E2.out]; omega)] at h9
        exact ⟨by rw [h9]; simp, hB⟩
  · have t0 : ((len1 : Int) != (len2 : Int)) = true := by rw [bne_iff_ne]; omega
    have hne : Hid ((l1 == l2) = false) := by
      rw [Hid, beq_eq_false_iff_ne]
      intro e
      rw [e, ← e2] at e1
      exact hl e1
    clear h1 h2 e1 e2 hl
    go_enter Tryz.func116, Tryz.ntmps116
    go_wp2_with fail
    go_ret
    exact ⟨by rw [hne.out]; rfl, Below.refl _ _⟩
end Go.Proofs.YtpnlmfilmbodfaaGreatDoor

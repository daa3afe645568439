/- slices.Clone at []uint64, []api.Bin, []api.Label: printed by wip/tools/gen_x5.py. Package exact: Right, Same; slices.Equal and slices.Clone at []uint64. slices.Equal at []uint64; exact.Same, cms.Same, hist.Same: printed by wip/tools/gen_x7.py. -/
import Derived.Test.YtjpnbkdhmjgdgaaDoorK1
import Derived.Test.YtjpnbkdhmjgdgaaDoorProg
import Derived.Lib.SliceRun
namespace Go.Proofs.YtjpnbkdhmjgdgaaDoor
open Go Go.RowKit

theorem und_u64 : Tryd.prog.underlying 22 = some (.slice 46) := by kernel_rfl
theorem info_u64 : (Tryd.prog.info? 46).map (fun i => (i.zero, i.size, i.bytes)) = some (some (.int .u64 0), 1, 8) := by kernel_rfl
theorem eqlnil_u64 (a : Option Addr) (n c : Nat) (w : World) : (binOp .eql 22 (.slice a n c) (.slice none 0 0)).run Tryd.prog w = .ok (.bool a.isNone) w := Lib.run_eql_slice_nil w _ _ a n c 0 0 und_u64
theorem one_u64 (x : Int) : ∀ u ∈ encU x, u.oneCell' = true := by
  intro u hu
  simp only [encU, List.mem_cons, List.not_mem_nil, or_false] at hu
  rcases hu with rfl <;> rfl
set_option maxHeartbeats 1000000 in
/-- slices.Clone at []uint64: a slice of its own (nil of nil). -/
theorem clone_u64 (a : Option Addr) (len cap : Nat) (l : List Int) (w : World) (hL : SlE encU 1 w.heap.size w a len l) (hll : len < 2147483648) :
    Calls Tryd.prog 50 #[.slice a len cap] w fun e w' => ∃ a' cap', e = .returned (.slice a' len cap') ∧ SlC encU 1 w'.heap.size w' a' len cap' l ∧ (∀ x, a' = some x → w.heap.size ≤ x.block) ∧ Below w.heap.size w w' := by
  have he := eqlnil_u64 a len cap
  have hlen := hL.1
  cases a with
  | none =>
    have hl0 : l = [] := by
      cases l with
      | nil => rfl
      | cons y ys => obtain ⟨b, off, e, _⟩ := hL.2 0 y rfl; cases e
    subst hl0
    obtain rfl : len = 0 := hlen
    clear hL
    go_enter Tryd.func50, Tryd.ntmps50
    go_wp2_with fail
    go_ret
    exact ⟨none, 0, rfl, SlC.nil, (fun x h => by cases h), Below.refl _ _⟩
  | some a =>
    have hB1 : Below w.heap.size w (w.alloc (.cells #[] 46)) := (Below.refl _ w).alloc (Nat.le_refl _) _
    have hown : (w.alloc (.cells #[] 46)).ownsRow w.heap.size 46 1 (.slice (some ⟨w.heap.size, 0, none⟩) 0 0) 0 [] := ⟨rfl, .inr ⟨w.heap.size, 0, #[], rfl, Nat.le_refl _, World.alloc_heap_new _ _, Nat.le_refl _, by unfold maxLen; omega, rfl, rfl⟩⟩
    have hL1 := hL.go hB1
    obtain ⟨v4, w4, hap4, hown4, hB4, hz4, -, -⟩ := append_elems Tryd.prog (cap := cap) 22 und_u64 info_u64 rfl (by decide) hown hB1 (Nat.le_refl _) (by simp) (fun _ => rfl) hL1 one_u64 (by omega) hll (by decide)
    rw [Nat.zero_add, List.nil_append, hlen] at hown4
    obtain ⟨a4, c4, hv4, hs4, hb4⟩ := slC_of_owns (enc := encU) (fun _ => rfl) hown4
    have HS : Hid (SlC encU 1 w4.heap.size w4 a4 len c4 l) := by rw [Hid, hlen]; exact hs4
    rw [← hlen] at hv4
    subst hv4
    clear hL hL1 hown hs4 hown4 hlen
    go_enter Tryd.func50, Tryd.ntmps50
    go_wp2_with (at_builtin; refine wp_append_eq rfl _ _ _ rfl rfl rfl hap4 ?_)
    go_ret
    exact ⟨_, _, rfl, HS.out, hb4, hB4⟩


theorem und_bin : Tryd.prog.underlying 29 = some (.slice 85) := by kernel_rfl
theorem info_bin : (Tryd.prog.info? 85).map (fun i => (i.zero, i.size, i.bytes)) = some (some (.agg #[.int .i64 0, .int .u64 0]), 2, 16) := by kernel_rfl
theorem eqlnil_bin (a : Option Addr) (n c : Nat) (w : World) : (binOp .eql 29 (.slice a n c) (.slice none 0 0)).run Tryd.prog w = .ok (.bool a.isNone) w := Lib.run_eql_slice_nil w _ _ a n c 0 0 und_bin
theorem one_bin (x : (Int × Int)) : ∀ u ∈ encB x, u.oneCell' = true := by
  intro u hu
  simp only [encB, List.mem_cons, List.not_mem_nil, or_false] at hu
  rcases hu with rfl | rfl <;> rfl
set_option maxHeartbeats 1000000 in
/-- slices.Clone at []api.Bin: a slice of its own (nil of nil). -/
theorem clone_bin (a : Option Addr) (len cap : Nat) (l : List (Int × Int)) (w : World) (hL : SlE encB 2 w.heap.size w a len l) (hll : len < 2147483648) :
    Calls Tryd.prog 51 #[.slice a len cap] w fun e w' => ∃ a' cap', e = .returned (.slice a' len cap') ∧ SlC encB 2 w'.heap.size w' a' len cap' l ∧ (∀ x, a' = some x → w.heap.size ≤ x.block) ∧ Below w.heap.size w w' := by
  have he := eqlnil_bin a len cap
  have hlen := hL.1
  cases a with
  | none =>
    have hl0 : l = [] := by
      cases l with
      | nil => rfl
      | cons y ys => obtain ⟨b, off, e, _⟩ := hL.2 0 y rfl; cases e
    subst hl0
    obtain rfl : len = 0 := hlen
    clear hL
    go_enter Tryd.func51, Tryd.ntmps51
    go_wp2_with fail
    go_ret
    exact ⟨none, 0, rfl, SlC.nil, (fun x h => by cases h), Below.refl _ _⟩
  | some a =>
    have hB1 : Below w.heap.size w (w.alloc (.cells #[] 85)) := (Below.refl _ w).alloc (Nat.le_refl _) _
    have hown : (w.alloc (.cells #[] 85)).ownsRow w.heap.size 85 2 (.slice (some ⟨w.heap.size, 0, none⟩) 0 0) 0 [] := ⟨rfl, .inr ⟨w.heap.size, 0, #[], rfl, Nat.le_refl _, World.alloc_heap_new _ _, Nat.le_refl _, by unfold maxLen; omega, rfl, rfl⟩⟩
    have hL1 := hL.go hB1
    obtain ⟨v4, w4, hap4, hown4, hB4, hz4, -, -⟩ := append_elems Tryd.prog (cap := cap) 29 und_bin info_bin rfl (by decide) hown hB1 (Nat.le_refl _) (by simp) (fun _ => rfl) hL1 one_bin (by omega) hll (by decide)
    rw [Nat.zero_add, List.nil_append, hlen] at hown4
    obtain ⟨a4, c4, hv4, hs4, hb4⟩ := slC_of_owns (enc := encB) (fun _ => rfl) hown4
    have HS : Hid (SlC encB 2 w4.heap.size w4 a4 len c4 l) := by rw [Hid, hlen]; exact hs4
    rw [← hlen] at hv4
    subst hv4
    clear hL hL1 hown hs4 hown4 hlen
    go_enter Tryd.func51, Tryd.ntmps51
    go_wp2_with (at_builtin; refine wp_append_eq rfl _ _ _ rfl rfl rfl hap4 ?_)
    go_ret
    exact ⟨_, _, rfl, HS.out, hb4, hB4⟩

end Go.Proofs.YtjpnbkdhmjgdgaaDoor
namespace Go.Proofs.YtjpnbkdhmjgdgaaDoor
open Go Go.RowKit

theorem u64_cell {n₀ : Nat} {w : World} {a : Option Addr} {len : Nat} {l : List Int} (h : SlE encU 1 n₀ w a len l) {j : Nat} (hj : j < len) : ∃ x b off, l[j]? = some x ∧ a = some ⟨b, off, none⟩ ∧ b < n₀ ∧ w.cell? ⟨b, off + j, none⟩ = some (.int .u64 x) := by
  obtain ⟨x, b, off, hx, e, hb, hc⟩ := h.at hj
  have := hc 0 (by omega)
  rw [Nat.mul_one, Nat.add_zero] at this
  exact ⟨x, b, off, hx, e, hb, this⟩

set_option maxRecDepth 100000 in
set_option maxHeartbeats 2000000 in
theorem exact_Right_any (l : List Int) (a : Option Addr) (len cap : Nat) (w : World) (hL : SlE encU 1 w.heap.size w a len l) :
    Calls Tryd.prog 54 #[.agg #[.slice a len cap]] w fun e w' => e = .returned (.bool (exRight l)) ∧ Below w.heap.size w w' := by
  have HL := Lib.hid hL.1
  have hB0 : Below w.heap.size w (w.alloc (.cells #[.slice a len cap] 24)) := (Below.refl _ w).alloc (Nat.le_refl _) _
  by_cases h64 : len ≤ 64
  · have t1 : decide ((64 : Int) < len) = false := by simp; omega
    have HR : Hid (exRight l = (foldO exStep none l).isSome) := by simp only [Hid, exRight]; rw [decide_eq_true (by rw [← HL.out]; exact h64)]; simp
    have hL0 := hL.below hB0
    have c0 : (w.alloc (.cells #[.slice a len cap] 24)).cell? ⟨w.heap.size, 0, none⟩ = some (.slice a len cap) := cell_of_cells (World.alloc_heap_new w (.cells #[.slice a len cap] 24)) 0
    go_enter Tryd.func54, Tryd.ntmps54
    go_wp2_with fail
    generalize hW : w.alloc (.cells #[.slice a len cap] 24) = W0 at hB0 hL0 c0 ⊢
    clear hW hL
    go_loop [12] (fun i => ∃ (k : Nat) (st : Option Int), i = .int .i64 k ∧ k ≤ len ∧ Hid (foldO exStep none (l.take k) = some st)) (fun i => len - (intOf i).toNat)
    case atStart => exact ⟨0, none, rfl, Nat.zero_le _, rfl⟩
    case round =>
      obtain ⟨k, st, rfl, hk, HF⟩ := hrel
      by_cases hlt : k < len
      · obtain ⟨x, b, off, hx, ea, hb, hc⟩ := u64_cell hL0 hlt
        subst ea
        have HS := Lib.hid (foldO_step hx HF.out)
        have HX := Lib.hid hx
        rcases Nat.eq_zero_or_pos k with h0 | hpos
        · subst h0
          rw [Nat.add_zero] at hc
          clear hx
          go_wp2_with fail
          go_round
          case rel => exact ⟨1, some x, rfl, by omega, by have h1 := HS.out; have h2 := HF.out; simp [foldO_nil] at h2; subst h2; exact Lib.hid (by simpa [exStep] using h1)⟩
          case measure => simp [intOf]; omega
        · obtain ⟨y, b', off', hy, ea', hb', hc'⟩ := u64_cell hL0 (show k - 1 < len by omega)
          injection ea' with e1
          injection e1 with e1 e2
          subst e1; subst e2
          have hst : Hid (st = some y) := by
            have h1 := exStep_last _ _ _ HF.out
            rw [List.getLast?_eq_getElem?] at h1
            have h2 : (l.take k).length = k := by rw [List.length_take, ← HL.out]; omega
            rw [h2, List.getElem?_take_of_lt (by omega), hy] at h1
            exact h1
          have t3 : decide ((0 : Int) < (k : Int)) = true := by simp; omega
          have i1 : (1 : Int) ≤ (k : Int) := by omega
          clear hx hy
          by_cases hle : x ≤ y
          · go_wp2_with fail
            go_ret
            have h9 : foldO exStep none l = none := foldO_none (k := k + 1) (by rw [HS.out, hst.out]; simp [exStep, hle])
            exact ⟨by rw [HR.out, h9]; rfl, hB0⟩
          · go_wp2_with fail
            go_round
            case rel => exact ⟨k + 1, some x, by go_num, by omega, by rw [Hid, HS.out, hst.out]; simp [exStep, hle]⟩
            case measure => simp [intOf]; omega
      · obtain rfl : k = len := by omega
        go_wp2_with fail
        go_ret
        have h9 := HF.out
        rw [List.take_of_length_le (by rw [← HL.out]; omega)] at h9
        exact ⟨by rw [HR.out, h9]; rfl, hB0⟩
  · have t1 : decide ((64 : Int) < len) = true := by simp; omega
    have HR : Hid (exRight l = false) := by simp only [Hid, exRight]; rw [decide_eq_false (by rw [← HL.out]; exact h64)]; simp
    clear hL
    go_enter Tryd.func54, Tryd.ntmps54
    go_wp2_with fail
    go_ret
    exact ⟨by rw [HR.out]; rfl, hB0⟩
end Go.Proofs.YtjpnbkdhmjgdgaaDoor
namespace Go.Proofs.YtjpnbkdhmjgdgaaDoor
open Go Go.RowKit

theorem below_drewN {B : Nat} {w w' : World} (h : Below B w w') : ∀ n, Below B w (w'.drewN n)
  | 0 => h
  | n + 1 => (below_drewN h n).drew

set_option maxRecDepth 100000 in
set_option maxHeartbeats 1000000 in
theorem equal_u64 (a1 : Option Addr) (len1 cap1 : Nat) (l1 : List Int) (a2 : Option Addr) (len2 cap2 : Nat) (l2 : List Int) (w : World) (h1 : SlE encU 1 w.heap.size w a1 len1 l1) (h2 : SlE encU 1 w.heap.size w a2 len2 l2) (hm : len1 ≤ maxLen) :
    Calls Tryd.prog 40 #[.slice a1 len1 cap1, .slice a2 len2 cap2] w fun e w' => e = .returned (.bool (l1 == l2)) ∧ Below w.heap.size w w' := by
  have e1 := h1.1
  have e2 := h2.1
  unfold maxLen at hm
  by_cases hl : len1 = len2
  · subst hl
    have t0 : ((len1 : Int) != (len1 : Int)) = false := by simp
    have E1 := Lib.hid e1
    have E2 := Lib.hid e2
    clear e1 e2
    go_enter Tryd.func40, Tryd.ntmps40
    go_wp2_with fail
    go_loopw [5, 13] (fun _ i wr => ∃ (k : Nat), i = .int .i64 k ∧ k ≤ len1 ∧ Below w.heap.size w wr ∧ Hid (l1.take k = l2.take k)) (fun _ i _ => len1 - (intOf i).toNat)
    case atStart => exact ⟨0, rfl, Nat.zero_le _, Below.refl _ _, rfl⟩
    case round =>
      obtain ⟨k, rfl, hk, hB, HF⟩ := hrel
      by_cases hlt : k < len1
      · obtain ⟨x, b1, o1, hx, ea1, hb1, hc1⟩ := (h1.below hB).at hlt
        obtain ⟨y, b2, o2, hy, ea2, hb2, hc2⟩ := (h2.below hB).at hlt
        subst ea1; subst ea2
        have c1 : wr.cell? ⟨b1, o1 + k, none⟩ = some (.int .u64 x) := by have := hc1 0 (by omega); rwa [Nat.mul_one, Nat.add_zero] at this
        have c2 : wr.cell? ⟨b2, o2 + k, none⟩ = some (.int .u64 y) := by have := hc2 0 (by omega); rwa [Nat.mul_one, Nat.add_zero] at this
        have i0 : (0 : Int) ≤ (k : Int) := by omega
        have i1 : (k : Int) < (len1 : Int) := by omega
        have HX := Lib.hid hx
        have HY := Lib.hid hy
        clear hc1 hc2 hx hy h1 h2
        by_cases hxy : x = y
        · have t1 : (x != y) = false := by simp [hxy]
          have HXY : Hid (x = y) := hxy
          clear hxy
          go_wp2_with fail
          go_quiet (fail)
          go_wp2_with fail
          go_roundw
          case rel => exact ⟨k + 1, by go_num, by omega, below_drewN hB _, by rw [Hid, take_snoc' HX.out, take_snoc' HY.out, HF.out, HXY.out]⟩
          case measure => simp [intOf]; omega
        · have t1 : (x != y) = true := by simp [hxy]
          have HXY : Hid (¬ x = y) := hxy
          clear hxy
          go_wp2_with fail
          go_quiet (fail)
          go_wp2_with fail
          go_ret
          have hne : (l1 == l2) = false := by
            rw [beq_eq_false_iff_ne]
            intro e
            have hx := HX.out
            rw [e, HY.out] at hx
            exact HXY.out (Option.some.inj hx).symm
          exact ⟨by rw [hne]; rfl, below_drewN hB _⟩
      · obtain rfl : k = len1 := by omega
        clear h1 h2
        go_wp2_with fail
        go_ret
        have h9 := HF.out
        rw [List.take_of_length_le (by rw [← E1.out]; omega), List.take_of_length_le (by rw [← E2.out]; omega)] at h9
        exact ⟨by rw [h9]; simp, hB⟩
  · have t0 : ((len1 : Int) != (len2 : Int)) = true := by rw [bne_iff_ne]; omega
    have hne : Hid ((l1 == l2) = false) := by
      rw [Hid, beq_eq_false_iff_ne]
      intro e
      rw [e, ← e2] at e1
      exact hl e1
    clear h1 h2 e1 e2 hl
    go_enter Tryd.func40, Tryd.ntmps40
    go_wp2_with fail
    go_ret
    exact ⟨by rw [hne.out]; rfl, Below.refl _ _⟩


theorem exact_Same_any (a1 : Option Addr) (len1 cap1 : Nat) (l1 : List Int) (a2 : Option Addr) (len2 cap2 : Nat) (l2 : List Int) (w : World) (h1 : SlE encU 1 w.heap.size w a1 len1 l1) (h2 : SlE encU 1 w.heap.size w a2 len2 l2) (hm : len1 ≤ maxLen) :
    Calls Tryd.prog 26 #[.agg #[.slice a1 len1 cap1], .agg #[.slice a2 len2 cap2]] w fun e w' => e = .returned (.bool (l1 == l2)) ∧ Below w.heap.size w w' := by
  obtain ⟨W0, hW0, hX0, hX1, hB0, hs0⟩ := boxes2 w #[.slice a1 len1 cap1] 24 #[.slice a2 len2 cap2] 24
  have c0 : W0.cell? ⟨w.heap.size, 0, none⟩ = some (.slice a1 len1 cap1) := cell_of_cells hX0 0
  have c1 : W0.cell? ⟨w.heap.size + 1, 0, none⟩ = some (.slice a2 len2 cap2) := cell_of_cells hX1 0
  have hE := equal_u64 a1 len1 cap1 l1 a2 len2 cap2 l2 W0 (h1.go hB0) (h2.go hB0) hm
  clear h1 h2 hX0 hX1 hs0
  go_enter Tryd.func26, Tryd.ntmps26
  go_wp2_with fail
  refine hE.mono ?_
  rintro e w1 ⟨rfl, hb1⟩
  clear hW0 hE
  go_wp2_with fail
  go_ret
  exact ⟨rfl, hB0.trans (hb1.mono hB0.size)⟩
theorem cms_Same_any (r1 k1 : Int) (a1 : Option Addr) (len1 cap1 : Nat) (l1 : List Int) (r2 k2 : Int) (a2 : Option Addr) (len2 cap2 : Nat) (l2 : List Int) (w : World) (h1 : SlE encU 1 w.heap.size w a1 len1 l1) (h2 : SlE encU 1 w.heap.size w a2 len2 l2) (hm : len1 ≤ maxLen) :
    Calls Tryd.prog 27 #[.agg #[.int .i64 r1, .int .i64 k1, .slice a1 len1 cap1], .agg #[.int .i64 r2, .int .i64 k2, .slice a2 len2 cap2]] w fun e w' => e = .returned (.bool (r1 == r2 && k1 == k2 && l1 == l2)) ∧ Below w.heap.size w w' := by
  obtain ⟨W0, hW0, hX0, hX1, hB0, hs0⟩ := boxes2 w #[.int .i64 r1, .int .i64 k1, .slice a1 len1 cap1] 28 #[.int .i64 r2, .int .i64 k2, .slice a2 len2 cap2] 28
  have c0 : W0.cell? ⟨w.heap.size, 0, none⟩ = some (.int .i64 r1) := cell_of_cells hX0 0
  have c1 : W0.cell? ⟨w.heap.size, 1, none⟩ = some (.int .i64 k1) := cell_of_cells hX0 1
  have c2 : W0.cell? ⟨w.heap.size, 2, none⟩ = some (.slice a1 len1 cap1) := cell_of_cells hX0 2
  have d0 : W0.cell? ⟨w.heap.size + 1, 0, none⟩ = some (.int .i64 r2) := cell_of_cells hX1 0
  have d1 : W0.cell? ⟨w.heap.size + 1, 1, none⟩ = some (.int .i64 k2) := cell_of_cells hX1 1
  have d2 : W0.cell? ⟨w.heap.size + 1, 2, none⟩ = some (.slice a2 len2 cap2) := cell_of_cells hX1 2
  have hE := equal_u64 a1 len1 cap1 l1 a2 len2 cap2 l2 W0 (h1.go hB0) (h2.go hB0) hm
  clear h1 h2 hX0 hX1 hs0
  cases t1 : (r1 == r2) with
  | false =>
    go_enter Tryd.func27, Tryd.ntmps27
    go_wp2_with fail
    go_ret
    exact ⟨rfl, hB0⟩
  | true =>
    cases t2 : (k1 == k2) with
    | false =>
      go_enter Tryd.func27, Tryd.ntmps27
      go_wp2_with fail
      go_ret
      exact ⟨rfl, hB0⟩
    | true =>
      go_enter Tryd.func27, Tryd.ntmps27
      go_wp2_with fail
      refine hE.mono ?_
      rintro e w1 ⟨rfl, hb1⟩
      clear hW0 hE
      go_wp2_with fail
      go_ret
      exact ⟨by simp, hB0.trans (hb1.mono hB0.size)⟩

end Go.Proofs.YtjpnbkdhmjgdgaaDoor

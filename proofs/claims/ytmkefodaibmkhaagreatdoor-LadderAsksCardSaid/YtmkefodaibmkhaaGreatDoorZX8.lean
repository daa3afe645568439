/- slices.Clone at []uint64, []api.Bin, []api.Label: printed by wip/tools/gen_x5.py. Package exact: Right, Same; slices.Equal and slices.Clone at []uint64. slices.Equal at []uint64; exact.Same, cms.Same, hist.Same: printed by wip/tools/gen_x7.py. Package hist: Same. -/
import Derived.Test.YtmkefodaibmkhaaGreatDoorZM2
import Derived.Test.YtmkefodaibmkhaaGreatDoorProg
import Derived.Lib.SliceRun
namespace Go.Proofs.YtmkefodaibmkhaaGreatDoor
open Go Go.RowKit

theorem und_u64 : Tryz.prog.underlying 25 = some (.slice 50) := by kernel_rfl
theorem info_u64 : (Tryz.prog.info? 50).map (fun i => (i.zero, i.size, i.bytes)) = some (some (.int .u64 0), 1, 8) := by kernel_rfl
theorem eqlnil_u64 (a : Option Addr) (n c : Nat) (w : World) : (binOp .eql 25 (.slice a n c) (.slice none 0 0)).run Tryz.prog w = .ok (.bool a.isNone) w := Lib.run_eql_slice_nil w _ _ a n c 0 0 und_u64
theorem one_u64 (x : Int) : ∀ u ∈ encU x, u.oneCell' = true := by
  intro u hu
  simp only [encU, List.mem_cons, List.not_mem_nil, or_false] at hu
  rcases hu with rfl <;> rfl
set_option maxHeartbeats 1000000 in
/-- slices.Clone at []uint64: a slice of its own (nil of nil). -/
theorem clone_u64 (a : Option Addr) (len cap : Nat) (l : List Int) (w : World) (hL : SlE encU 1 w.heap.size w a len l) (hll : len < 2147483648) :
    Calls Tryz.prog 114 #[.slice a len cap] w fun e w' => ∃ a' cap', e = .returned (.slice a' len cap') ∧ SlC encU 1 w'.heap.size w' a' len cap' l ∧ (∀ x, a' = some x → w.heap.size ≤ x.block) ∧ Below w.heap.size w w' := by
  have he := eqlnil_u64 a len cap
  have hlen := hL.1
  cases a with
  | none =>
    have hl0 : l = [] := by
      cases l with
      | nil => rfl
      | cons y ys => obtain ⟨b, off, e, _⟩ := hL.2 0 y rfl; cases e
    subst hl0
    obtain rfl : len = 0 := hlen
    clear hL
    go_enter Tryz.func114, Tryz.ntmps114
    go_wp2_with fail
    go_ret
    exact ⟨none, 0, rfl, SlC.nil, (fun x h => by cases h), Below.refl _ _⟩
  | some a =>
    have hB1 : Below w.heap.size w (w.alloc (.cells #[] 50)) := (Below.refl _ w).alloc (Nat.le_refl _) _
    have hown : (w.alloc (.cells #[] 50)).ownsRow w.heap.size 50 1 (.slice (some ⟨w.heap.size, 0, none⟩) 0 0) 0 [] := ⟨rfl, .inr ⟨w.heap.size, 0, #[], rfl, Nat.le_refl _, World.alloc_heap_new _ _, Nat.le_refl _, by unfold maxLen; omega, rfl, rfl⟩⟩
    have hL1 := hL.go hB1
    obtain ⟨v4, w4, hap4, hown4, hB4, hz4, -, -⟩ := append_elems Tryz.prog (cap := cap) 25 und_u64 info_u64 rfl (by decide) hown hB1 (Nat.le_refl _) (by simp) (fun _ => rfl) hL1 one_u64 (by omega) hll (by decide)
    rw [Nat.zero_add, List.nil_append, hlen] at hown4
    obtain ⟨a4, c4, hv4, hs4, hb4⟩ := slC_of_owns (enc := encU) (fun _ => rfl) hown4
    have HS : Hid (SlC encU 1 w4.heap.size w4 a4 len c4 l) := by rw [Hid, hlen]; exact hs4
    rw [← hlen] at hv4
    subst hv4
    clear hL hL1 hown hs4 hown4 hlen
    go_enter Tryz.func114, Tryz.ntmps114
    go_wp2_with (at_builtin; refine wp_append_eq rfl _ _ _ rfl rfl rfl hap4 ?_)
    go_ret
    exact ⟨_, _, rfl, HS.out, hb4, hB4⟩


theorem und_bin : Tryz.prog.underlying 32 = some (.slice 145) := by kernel_rfl
theorem info_bin : (Tryz.prog.info? 145).map (fun i => (i.zero, i.size, i.bytes)) = some (some (.agg #[.int .i64 0, .int .u64 0]), 2, 16) := by kernel_rfl
theorem eqlnil_bin (a : Option Addr) (n c : Nat) (w : World) : (binOp .eql 32 (.slice a n c) (.slice none 0 0)).run Tryz.prog w = .ok (.bool a.isNone) w := Lib.run_eql_slice_nil w _ _ a n c 0 0 und_bin
theorem one_bin (x : (Int × Int)) : ∀ u ∈ encB x, u.oneCell' = true := by
  intro u hu
  simp only [encB, List.mem_cons, List.not_mem_nil, or_false] at hu
  rcases hu with rfl | rfl <;> rfl
set_option maxHeartbeats 1000000 in
/-- slices.Clone at []api.Bin: a slice of its own (nil of nil). -/
theorem clone_bin (a : Option Addr) (len cap : Nat) (l : List (Int × Int)) (w : World) (hL : SlE encB 2 w.heap.size w a len l) (hll : len < 2147483648) :
    Calls Tryz.prog 115 #[.slice a len cap] w fun e w' => ∃ a' cap', e = .returned (.slice a' len cap') ∧ SlC encB 2 w'.heap.size w' a' len cap' l ∧ (∀ x, a' = some x → w.heap.size ≤ x.block) ∧ Below w.heap.size w w' := by
  have he := eqlnil_bin a len cap
  have hlen := hL.1
  cases a with
  | none =>
    have hl0 : l = [] := by
      cases l with
      | nil => rfl
      | cons y ys => obtain ⟨b, off, e, _⟩ := hL.2 0 y rfl; cases e
    subst hl0
    obtain rfl : len = 0 := hlen
    clear hL
    go_enter Tryz.func115, Tryz.ntmps115
    go_wp2_with fail
    go_ret
    exact ⟨none, 0, rfl, SlC.nil, (fun x h => by cases h), Below.refl _ _⟩
  | some a =>
    have hB1 : Below w.heap.size w (w.alloc (.cells #[] 145)) := (Below.refl _ w).alloc (Nat.le_refl _) _
    have hown : (w.alloc (.cells #[] 145)).ownsRow w.heap.size 145 2 (.slice (some ⟨w.heap.size, 0, none⟩) 0 0) 0 [] := ⟨rfl, .inr ⟨w.heap.size, 0, #[], rfl, Nat.le_refl _, World.alloc_heap_new _ _, Nat.le_refl _, by unfold maxLen; omega, rfl, rfl⟩⟩
    have hL1 := hL.go hB1
    obtain ⟨v4, w4, hap4, hown4, hB4, hz4, -, -⟩ := append_elems Tryz.prog (cap := cap) 32 und_bin info_bin rfl (by decide) hown hB1 (Nat.le_refl _) (by simp) (fun _ => rfl) hL1 one_bin (by omega) hll (by decide)
    rw [Nat.zero_add, List.nil_append, hlen] at hown4
    obtain ⟨a4, c4, hv4, hs4, hb4⟩ := slC_of_owns (enc := encB) (fun _ => rfl) hown4
    have HS : Hid (SlC encB 2 w4.heap.size w4 a4 len c4 l) := by rw [Hid, hlen]; exact hs4
    rw [← hlen] at hv4
    subst hv4
    clear hL hL1 hown hs4 hown4 hlen
    go_enter Tryz.func115, Tryz.ntmps115
    go_wp2_with (at_builtin; refine wp_append_eq rfl _ _ _ rfl rfl rfl hap4 ?_)
    go_ret
    exact ⟨_, _, rfl, HS.out, hb4, hB4⟩

end Go.Proofs.YtmkefodaibmkhaaGreatDoor
namespace Go.Proofs.YtmkefodaibmkhaaGreatDoor
open Go Go.RowKit

theorem u64_cell {n₀ : Nat} {w : World} {a : Option Addr} {len : Nat} {l : List Int} (h : SlE encU 1 n₀ w a len l) {j : Nat} (hj : j < len) : ∃ x b off, l[j]? = some x ∧ a = some ⟨b, off, none⟩ ∧ b < n₀ ∧ w.cell? ⟨b, off + j, none⟩ = some (.int .u64 x) := by
  obtain ⟨x, b, off, hx, e, hb, hc⟩ := h.at hj
  have := hc 0 (by omega)
  rw [Nat.mul_one, Nat.add_zero] at this
  exact ⟨x, b, off, hx, e, hb, this⟩

set_option maxRecDepth 100000 in
set_option maxHeartbeats 2000000 in
theorem exact_Right_any (l : List Int) (a : Option Addr) (len cap : Nat) (w : World) (hL : SlE encU 1 w.heap.size w a len l) :
    Calls Tryz.prog 126 #[.agg #[.slice a len cap]] w fun e w' => e = .returned (.bool (exRight l)) ∧ Below w.heap.size w w' := by
  have HL := Lib.hid hL.1
  have hB0 : Below w.heap.size w (w.alloc (.cells #[.slice a len cap] 27)) := (Below.refl _ w).alloc (Nat.le_refl _) _
  by_cases h64 : len ≤ 64
  · have t1 : decide ((64 : Int) < len) = false := by simp; omega
    have HR : Hid (exRight l = (foldO exStep none l).isSome) := by simp only [Hid, exRight]; rw [decide_eq_true (by rw [← HL.out]; exact h64)]; simp
    have hL0 := hL.below hB0
    have c0 : (w.alloc (.cells #[.slice a len cap] 27)).cell? ⟨w.heap.size, 0, none⟩ = some (.slice a len cap) := cell_of_cells (World.alloc_heap_new w (.cells #[.slice a len cap] 27)) 0
    go_enter Tryz.func126, Tryz.ntmps126
    go_wp2_with fail
    generalize hW : w.alloc (.cells #[.slice a len cap] 27) = W0 at hB0 hL0 c0 ⊢
    clear hW hL
    go_loop [12] (fun i => ∃ (k : Nat) (st : Option Int), i = .int .i64 k ∧ k ≤ len ∧ Hid (foldO exStep none (l.take k) = some st)) (fun i => len - (intOf i).toNat)
    case atStart => exact ⟨0, none, rfl, Nat.zero_le _, rfl⟩
    case round =>
      obtain ⟨k, st, rfl, hk, HF⟩ := hrel
      by_cases hlt : k < len
      · obtain ⟨x, b, off, hx, ea, hb, hc⟩ := u64_cell hL0 hlt
        subst ea
        have HS := Lib.hid (foldO_step hx HF.out)
        have HX := Lib.hid hx
        rcases Nat.eq_zero_or_pos k with h0 | hpos
        · subst h0
          rw [Nat.add_zero] at hc
          clear hx
          go_wp2_with fail
          go_round
          case rel => exact ⟨1, some x, rfl, by omega, by have h1 := HS.out; have h2 := HF.out; simp [foldO_nil] at h2; subst h2; exact Lib.hid (by simpa [exStep] using h1)⟩
          case measure => simp [intOf]; omega
        · obtain ⟨y, b', off', hy, ea', hb', hc'⟩ := u64_cell hL0 (show k - 1 < len by omega)
          injection ea' with e1
          injection e1 with e1 e2
          subst e1; subst e2
          have hst : Hid (st = some y) := by
            have h1 := exStep_last _ _ _ HF.out
            rw [List.getLast?_eq_getElem?] at h1
            have h2 : (l.take k).length = k := by rw [List.length_take, ← HL.out]; omega
            rw [h2, List.getElem?_take_of_lt (by omega), hy] at h1
            exact h1
          have t3 : decide ((0 : Int) < (k : Int)) = true := by simp; omega
          have i1 : (1 : Int) ≤ (k : Int) := by omega
          clear hx hy
          by_cases hle : x ≤ y
          · go_wp2_with fail
            go_ret
            have h9 : foldO exStep none l = none := foldO_none (k := k + 1) (by rw [HS.out, hst.out]; simp [exStep, hle])
            exact ⟨by rw [HR.out, h9]; rfl, hB0⟩
          · go_wp2_with fail
            go_round
            case rel => exact ⟨k + 1, some x, by go_num, by omega, by rw [Hid, HS.out, hst.out]; simp [exStep, hle]⟩
            case measure => simp [intOf]; omega
      · obtain rfl : k = len := by omega
        go_wp2_with fail
        go_ret
        have h9 := HF.out
        rw [List.take_of_length_le (by rw [← HL.out]; omega)] at h9
        exact ⟨by rw [HR.out, h9]; rfl, hB0⟩
  · have t1 : decide ((64 : Int) < len) = true := by simp; omega
    have HR : Hid (exRight l = false) := by simp only [Hid, exRight]; rw [decide_eq_false (by rw [← HL.out]; exact h64)]; simp
    clear hL
    go_enter Tryz.func126, Tryz.ntmps126
    go_wp2_with fail
    go_ret
    exact ⟨by rw [HR.out]; rfl, hB0⟩
end Go.Proofs.YtmkefodaibmkhaaGreatDoor
namespace Go.Proofs.YtmkefodaibmkhaaGreatDoor
open Go Go.RowKit

theorem below_drewN {B : Nat} {w w' : World} (h : Below B w w') : ∀ n, Below B w (w'.drewN n)
  | 0 => h
  | n + 1 => (below_drewN h n).drew

set_option maxRecDepth 100000 in
set_option maxHeartbeats 1000000 in
theorem equal_u64 (a1 : Option Addr) (len1 cap1 : Nat) (l1 : List Int) (a2 : Option Addr) (len2 cap2 : Nat) (l2 : List Int) (w : World) (h1 : SlE encU 1 w.heap.size w a1 len1 l1) (h2 : SlE encU 1 w.heap.size w a2 len2 l2) (hm : len1 ≤ maxLen) :
    Calls Tryz.prog 84 #[.slice a1 len1 cap1, .slice a2 len2 cap2] w fun e w' => e = .returned (.bool (l1 == l2)) ∧ Below w.heap.size w w' := by
  have e1 := h1.1
  have e2 := h2.1
  unfold maxLen at hm
  by_cases hl : len1 = len2
  · subst hl
    have t0 : ((len1 : Int) != (len1 : Int)) = false := by simp
    have E1 := Lib.hid e1
    have E2 := Lib.hid e2
    clear e1 e2
    go_enter Tryz.func84, Tryz.ntmps84
    go_wp2_with fail
    go_loopw [5, 13] (fun _ i wr => ∃ (k : Nat), i = .int .i64 k ∧ k ≤ len1 ∧ Below w.heap.size w wr ∧ Hid (l1.take k = l2.take k)) (fun _ i _ => len1 - (intOf i).toNat)
    case atStart => exact ⟨0, rfl, Nat.zero_le _, Below.refl _ _, rfl⟩
    case round =>
      obtain ⟨k, rfl, hk, hB, HF⟩ := hrel
      by_cases hlt : k < len1
      · obtain ⟨x, b1, o1, hx, ea1, hb1, hc1⟩ := (h1.below hB).at hlt
        obtain ⟨y, b2, o2, hy, ea2, hb2, hc2⟩ := (h2.below hB).at hlt
        subst ea1; subst ea2
        have c1 : wr.cell? ⟨b1, o1 + k, none⟩ = some (.int .u64 x) := by have := hc1 0 (by omega); rwa [Nat.mul_one, Nat.add_zero] at this
        have c2 : wr.cell? ⟨b2, o2 + k, none⟩ = some (.int .u64 y) := by have := hc2 0 (by omega); rwa [Nat.mul_one, Nat.add_zero] at this
        have i0 : (0 : Int) ≤ (k : Int) := by omega
        have i1 : (k : Int) < (len1 : Int) := by omega
        have HX := Lib.hid hx
        have HY := Lib.hid hy
        clear hc1 hc2 hx hy h1 h2
        by_cases hxy : x = y
        · have t1 : (x != y) = false := by simp [hxy]
          have HXY : Hid (x = y) := hxy
          clear hxy
          go_wp2_with fail
          go_quiet (fail)
          go_wp2_with fail
          go_roundw
          case rel => exact ⟨k + 1, by go_num, by omega, below_drewN hB _, by rw [Hid, take_snoc' HX.out, take_snoc' HY.out, HF.out, HXY.out]⟩
          case measure => simp [intOf]; omega
        · have t1 : (x != y) = true := by simp [hxy]
          have HXY : Hid (¬ x = y) := hxy
          clear hxy
          go_wp2_with fail
          go_quiet (fail)
          go_wp2_with fail
          go_ret
          have hne : (l1 == l2) = false := by
            rw [beq_eq_false_iff_ne]
            intro e
            have hx := HX.out
            rw [e, HY.out] at hx
            exact HXY.out (Option.some.inj hx).symm
          exact ⟨by rw [hne]; rfl, below_drewN hB _⟩
      · obtain rfl : k = len1 := by omega
        clear h1 h2
        go_wp2_with fail
        go_ret
        have h9 := HF.out
        rw [List.take_of_length_le (by rw [← E1.out]; omega), List.take_of_length_le (by rw [← E2.out]; omega)] at h9
        exact ⟨by rw [h9]; simp, hB⟩
  · have t0 : ((len1 : Int) != (len2 : Int)) = true := by rw [bne_iff_ne]; omega
    have hne : Hid ((l1 == l2) = false) := by
      rw [Hid, beq_eq_false_iff_ne]
      intro e
      rw [e, ← e2] at e1
      exact hl e1
    clear h1 h2 e1 e2 hl
    go_enter Tryz.func84, Tryz.ntmps84
    go_wp2_with fail
    go_ret
    exact ⟨by rw [hne.out]; rfl, Below.refl _ _⟩


theorem exact_Same_any (a1 : Option Addr) (len1 cap1 : Nat) (l1 : List Int) (a2 : Option Addr) (len2 cap2 : Nat) (l2 : List Int) (w : World) (h1 : SlE encU 1 w.heap.size w a1 len1 l1) (h2 : SlE encU 1 w.heap.size w a2 len2 l2) (hm : len1 ≤ maxLen) :
    Calls Tryz.prog 41 #[.agg #[.slice a1 len1 cap1], .agg #[.slice a2 len2 cap2]] w fun e w' => e = .returned (.bool (l1 == l2)) ∧ Below w.heap.size w w' := by
  obtain ⟨W0, hW0, hX0, hX1, hB0, hs0⟩ := boxes2 w #[.slice a1 len1 cap1] 27 #[.slice a2 len2 cap2] 27
  have c0 : W0.cell? ⟨w.heap.size, 0, none⟩ = some (.slice a1 len1 cap1) := cell_of_cells hX0 0
  have c1 : W0.cell? ⟨w.heap.size + 1, 0, none⟩ = some (.slice a2 len2 cap2) := cell_of_cells hX1 0
  have hE := equal_u64 a1 len1 cap1 l1 a2 len2 cap2 l2 W0 (h1.go hB0) (h2.go hB0) hm
  clear h1 h2 hX0 hX1 hs0
  go_enter Tryz.func41, Tryz.ntmps41
  go_wp2_with fail
  refine hE.mono ?_
  rintro e w1 ⟨rfl, hb1⟩
  clear hW0 hE
  go_wp2_with fail
  go_ret
  exact ⟨rfl, hB0.trans (hb1.mono hB0.size)⟩
theorem cms_Same_any (r1 k1 : Int) (a1 : Option Addr) (len1 cap1 : Nat) (l1 : List Int) (r2 k2 : Int) (a2 : Option Addr) (len2 cap2 : Nat) (l2 : List Int) (w : World) (h1 : SlE encU 1 w.heap.size w a1 len1 l1) (h2 : SlE encU 1 w.heap.size w a2 len2 l2) (hm : len1 ≤ maxLen) :
    Calls Tryz.prog 42 #[.agg #[.int .i64 r1, .int .i64 k1, .slice a1 len1 cap1], .agg #[.int .i64 r2, .int .i64 k2, .slice a2 len2 cap2]] w fun e w' => e = .returned (.bool (r1 == r2 && k1 == k2 && l1 == l2)) ∧ Below w.heap.size w w' := by
  obtain ⟨W0, hW0, hX0, hX1, hB0, hs0⟩ := boxes2 w #[.int .i64 r1, .int .i64 k1, .slice a1 len1 cap1] 31 #[.int .i64 r2, .int .i64 k2, .slice a2 len2 cap2] 31
  have c0 : W0.cell? ⟨w.heap.size, 0, none⟩ = some (.int .i64 r1) := cell_of_cells hX0 0
  have c1 : W0.cell? ⟨w.heap.size, 1, none⟩ = some (.int .i64 k1) := cell_of_cells hX0 1
  have c2 : W0.cell? ⟨w.heap.size, 2, none⟩ = some (.slice a1 len1 cap1) := cell_of_cells hX0 2
  have d0 : W0.cell? ⟨w.heap.size + 1, 0, none⟩ = some (.int .i64 r2) := cell_of_cells hX1 0
  have d1 : W0.cell? ⟨w.heap.size + 1, 1, none⟩ = some (.int .i64 k2) := cell_of_cells hX1 1
  have d2 : W0.cell? ⟨w.heap.size + 1, 2, none⟩ = some (.slice a2 len2 cap2) := cell_of_cells hX1 2
  have hE := equal_u64 a1 len1 cap1 l1 a2 len2 cap2 l2 W0 (h1.go hB0) (h2.go hB0) hm
  clear h1 h2 hX0 hX1 hs0
  cases t1 : (r1 == r2) with
  | false =>
    go_enter Tryz.func42, Tryz.ntmps42
    go_wp2_with fail
    go_ret
    exact ⟨rfl, hB0⟩
  | true =>
    cases t2 : (k1 == k2) with
    | false =>
      go_enter Tryz.func42, Tryz.ntmps42
      go_wp2_with fail
      go_ret
      exact ⟨rfl, hB0⟩
    | true =>
      go_enter Tryz.func42, Tryz.ntmps42
      go_wp2_with fail
      refine hE.mono ?_
      rintro e w1 ⟨rfl, hb1⟩
      clear hW0 hE
      go_wp2_with fail
      go_ret
      exact ⟨by simp, hB0.trans (hb1.mono hB0.size)⟩

end Go.Proofs.YtmkefodaibmkhaaGreatDoor
namespace Go.Proofs.YtmkefodaibmkhaaGreatDoor
open Go Go.RowKit

theorem bin_cells {n₀ : Nat} {w : World} {a : Option Addr} {len : Nat} {l : List (Int × Int)} (h : SlE encB 2 n₀ w a len l) {j : Nat} (hj : j < len) :
    ∃ x b off, l[j]? = some x ∧ a = some ⟨b, off, none⟩ ∧ b < n₀ ∧ w.cell? ⟨b, off + j * 2, none⟩ = some (.int .i64 x.1) ∧ w.cell? ⟨b, off + j * 2 + 1, none⟩ = some (.int .u64 x.2) := by
  obtain ⟨x, b, off, hx, e, hb, hc⟩ := h.at hj
  exact ⟨x, b, off, hx, e, hb, hc 0 (by omega), hc 1 (by omega)⟩

theorem eg_bin : Tryz.prog.eqGuardType Tryz.prog.depth 145 = false := by kernel_rfl
theorem neq_bin (x1 x2 y1 y2 : Int) (w : World) : (binOp .neq 145 (.agg #[.int .i64 x1, .int .u64 x2]) (.agg #[.int .i64 y1, .int .u64 y2])).run Tryz.prog w = .ok (.bool (!(x1 == y1 && x2 == y2))) w := by
  have h1 : Tryz.prog.underlying 145 = some (.struct (Tryz.prog.fieldsOf 145)) := by kernel_rfl
  have h2 : Tryz.prog.stoodInHeld 145 = false := by kernel_rfl
  have h3 : (Tryz.prog.fieldsOf 145).toList = [{ name := "At", type := 3, offset := 0, embedded := false, tag := "", pkgPath := "", byteOffset := 0 }, { name := "N", type := 50, offset := 1, embedded := false, tag := "", pkgPath := "", byteOffset := 8 }] := by kernel_rfl
  rw [run_neq_struct, run_equalIn_agg w 9999 _ _ _ h1 h2, h3]
  cases ha : (x1 == y1) <;> cases hb : (x2 == y2) <;> simp [go_sem, ha, hb, Tryz.underlying3, Tryz.underlying50]

set_option maxRecDepth 100000 in
set_option maxHeartbeats 1000000 in
theorem hist_Same_any (f1 : Int) (a1 : Option Addr) (len1 cap1 : Nat) (l1 : List (Int × Int)) (f2 : Int) (a2 : Option Addr) (len2 cap2 : Nat) (l2 : List (Int × Int)) (w : World) (h1 : SlE encB 2 w.heap.size w a1 len1 l1) (h2 : SlE encB 2 w.heap.size w a2 len2 l2) (hm : len1 ≤ maxLen) :
    Calls Tryz.prog 43 #[.agg #[.int .i64 f1, .slice a1 len1 cap1], .agg #[.int .i64 f2, .slice a2 len2 cap2]] w fun e w' => e = .returned (.bool (f1 == f2 && l1 == l2)) ∧ Below w.heap.size w w' := by
  unfold maxLen at hm
  obtain ⟨W0, hW0, hX0, hX1, hB0, hs0⟩ := boxes2 w #[.int .i64 f1, .slice a1 len1 cap1] 34 #[.int .i64 f2, .slice a2 len2 cap2] 34
  have c0 : W0.cell? ⟨w.heap.size, 0, none⟩ = some (.int .i64 f1) := cell_of_cells hX0 0
  have c1 : W0.cell? ⟨w.heap.size, 1, none⟩ = some (.slice a1 len1 cap1) := cell_of_cells hX0 1
  have d0 : W0.cell? ⟨w.heap.size + 1, 0, none⟩ = some (.int .i64 f2) := cell_of_cells hX1 0
  have d1 : W0.cell? ⟨w.heap.size + 1, 1, none⟩ = some (.slice a2 len2 cap2) := cell_of_cells hX1 1
  have hz0 : w.heap.size + 1 < W0.heap.size := by omega
  by_cases hf : f1 = f2
  · have t1 : (f1 != f2) = false := by simp [hf]
    have HF1 : Hid ((f1 == f2) = true) := by simp [Hid, hf]
    clear hf
    by_cases hl : len1 = len2
    · subst hl
      have t0 : ((len1 : Int) != (len1 : Int)) = false := by simp
      have E1 := Lib.hid h1.1
      have E2 := Lib.hid h2.1
      have g1 := h1.below hB0
      have g2 := h2.below hB0
      clear h1 h2 hs0
      go_enter Tryz.func43, Tryz.ntmps43
      go_wp2_with fail
      clear hW0
      go_loopw [5, 6, 24] (fun _ _ i wr => ∃ (k : Nat), i = .int .i64 k ∧ k ≤ len1 ∧ Below W0.heap.size W0 wr ∧ Hid (l1.take k = l2.take k)) (fun _ _ i _ => len1 - (intOf i).toNat)
      case atStart => exact ⟨0, rfl, Nat.zero_le _, Below.refl _ _, rfl⟩
      case round =>
        obtain ⟨k, rfl, hk, hB, HF⟩ := hrel
        have hzB := hB.size
        by_cases hlt : k < len1
        · obtain ⟨x, b1, o1, hx, ea1, hb1, p0, p1⟩ := bin_cells (g1.below (hB.mono hB0.size)) hlt
          obtain ⟨y, b2, o2, hy, ea2, hb2, q0, q1⟩ := bin_cells (g2.below (hB.mono hB0.size)) hlt
          subst ea1; subst ea2
          obtain ⟨x1, x2⟩ := x
          obtain ⟨y1, y2⟩ := y
          dsimp only at p0 p1 q0 q1
          have i0 : (0 : Int) ≤ (k : Int) := by omega
          have i1 : (k : Int) < (len1 : Int) := by omega
          have e1 : wr.cell? ⟨w.heap.size + 1, 1, none⟩ = some (.slice (some ⟨b2, o2, none⟩) len1 cap2) := (hB.cell (p := ⟨w.heap.size + 1, 1, none⟩) hz0).trans d1
          have HX := Lib.hid hx
          have HY := Lib.hid hy
          obtain ⟨W2, hW2, hX2, hB2, hs2⟩ := boxes1 wr #[.int .i64 x1, .int .u64 x2] 145
          have r0 : W2.cell? ⟨wr.heap.size, 0, none⟩ = some (.int .i64 x1) := cell_of_cells hX2 0
          have r1 : W2.cell? ⟨wr.heap.size, 1, none⟩ = some (.int .u64 x2) := cell_of_cells hX2 1
          have u0 : W2.cell? ⟨b2, o2 + k * 2, none⟩ = some (.int .i64 y1) := (hB2.cell (p := ⟨b2, o2 + k * 2, none⟩) (by show b2 < _; omega)).trans q0
          have u1 : W2.cell? ⟨b2, o2 + k * 2 + 1, none⟩ = some (.int .u64 y2) := (hB2.cell (p := ⟨b2, o2 + k * 2 + 1, none⟩) (by show b2 < _; omega)).trans q1
          have u2 : W2.cell? ⟨w.heap.size + 1, 1, none⟩ = some (.slice (some ⟨b2, o2, none⟩) len1 cap2) := (hB2.cell (p := ⟨w.heap.size + 1, 1, none⟩) (by show w.heap.size + 1 < _; omega)).trans e1
          have hBB : Below W0.heap.size W0 W2 := hB.trans (hB2.mono hzB)
          have n2 := eg_bin
          clear hx hy g1 g2 hX2 q0 q1 c0 c1 d0 d1 hX0 hX1
          by_cases hxy : x1 = y1 ∧ x2 = y2
          · have n1 : ∀ w, (binOp .neq 145 (.agg #[.int .i64 x1, .int .u64 x2]) (.agg #[.int .i64 y1, .int .u64 y2])).run Tryz.prog w = .ok (.bool false) w := fun w => by rw [neq_bin]; simp [hxy.1, hxy.2]
            have HXY := Lib.hid hxy
            clear hxy
            go_wp2_with fail
            go_quiet (fail)
            go_wp2_with fail
            go_roundw
            case rel => exact ⟨k + 1, by go_num, by omega, below_drewN hBB _, by rw [Hid, take_snoc' HX.out, take_snoc' HY.out, HF.out, HXY.out.1, HXY.out.2]⟩
            case measure => simp [intOf]; omega
          · have n1 : ∀ w, (binOp .neq 145 (.agg #[.int .i64 x1, .int .u64 x2]) (.agg #[.int .i64 y1, .int .u64 y2])).run Tryz.prog w = .ok (.bool true) w := fun w => by
              rw [neq_bin]
              have : (x1 == y1 && x2 == y2) = false := by rw [Bool.eq_false_iff]; intro h; simp at h; exact hxy h
              rw [this]; rfl
            have HXY := Lib.hid hxy
            clear hxy
            go_wp2_with fail
            go_quiet (fail)
            go_wp2_with fail
            go_ret
            have hne : (l1 == l2) = false := by
              rw [beq_eq_false_iff_ne]
              intro e
              have hx := HX.out
              rw [e, HY.out] at hx
              have := Option.some.inj hx
              simp only [Prod.mk.injEq] at this
              exact HXY.out ⟨this.1.symm, this.2.symm⟩
            exact ⟨by rw [hne]; simp, hB0.trans ((below_drewN hBB _).mono hB0.size)⟩
        · obtain rfl : k = len1 := by omega
          clear g1 g2
          go_wp2_with fail
          go_ret
          have h9 := HF.out
          rw [List.take_of_length_le (by rw [← E1.out]; omega), List.take_of_length_le (by rw [← E2.out]; omega)] at h9
          exact ⟨by rw [h9, HF1.out]; simp, hB0.trans (hB.mono hB0.size)⟩
    · have t0 : ((len1 : Int) != (len2 : Int)) = true := by rw [bne_iff_ne]; omega
      have hne : Hid ((l1 == l2) = false) := by
        rw [Hid, beq_eq_false_iff_ne]
        intro e
        have e1 := h1.1
        rw [e, ← h2.1] at e1
        exact hl e1
      clear h1 h2 hl hs0
      go_enter Tryz.func43, Tryz.ntmps43
      go_wp2_with fail
      go_ret
      exact ⟨by rw [hne.out]; simp, hB0⟩
  · have t1 : (f1 != f2) = true := by simp [hf]
    have HF1 : Hid ((f1 == f2) = false) := by simp [Hid, hf]
    clear hf h1 h2 hs0
    go_enter Tryz.func43, Tryz.ntmps43
    go_wp2_with fail
    go_ret
    exact ⟨by rw [HF1.out]; rfl, hB0⟩
end Go.Proofs.YtmkefodaibmkhaaGreatDoor

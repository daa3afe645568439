/- slices.Clone at []uint64, []api.Bin, []api.Label: printed by wip/tools/gen_x5.py. Package exact: Right, Same; slices.Equal and slices.Clone at []uint64. slices.Equal at []uint64; exact.Same, cms.Same, hist.Same: printed by wip/tools/gen_x7.py. Package exact: place, isAt, with. Package exact: with. slices.Values at uint64; package exact: each; a copy of numbers. Package hist: Same. -/
import Derived.Test.YtcbbenncdainfaaGreatDoorProg
import Derived.Lib.SliceRun
import Derived.Shelf.SlSorted.Search
import Derived.ArgAppend
import Derived.Laws.CopyRow
import Derived.Laws.CopyOwn
import Derived.Laws.Tables
import Derived.Test.YtcbbenncdainfaaGreatDoorYH0
namespace Go.Proofs.YtcbbenncdainfaaGreatDoor
open Go Go.RowKit
theorem und_u64 : Tryz.prog.underlying 22 = some (.slice 43) := by kernel_rfl
theorem info_u64 : (Tryz.prog.info? 43).map (fun i => (i.zero, i.size, i.bytes)) = some (some (.int .u64 0), 1, 8) := by kernel_rfl
theorem eqlnil_u64 (a : Option Addr) (n c : Nat) (w : World) : (binOp .eql 22 (.slice a n c) (.slice none 0 0)).run Tryz.prog w = .ok (.bool a.isNone) w := Lib.run_eql_slice_nil w _ _ a n c 0 0 und_u64
theorem one_u64 (x : Int) : ∀ u ∈ encU x, u.oneCell' = true := by
 intro u hu
 simp only [encU, List.mem_cons, List.not_mem_nil, or_false] at hu
 rcases hu with rfl <;> rfl
set_option maxHeartbeats 1000000 in
theorem clone_u64 (a : Option Addr) (len cap : Nat) (l : List Int) (w : World) (hL : SlE encU 1 w.heap.size w a len l) (hll : len < 2147483648) :
  Calls Tryz.prog 87 #[.slice a len cap] w fun e w' => ∃ a' cap', e = .returned (.slice a' len cap') ∧ SlC encU 1 w'.heap.size w' a' len cap' l ∧ (∀ x, a' = some x → w.heap.size ≤ x.block) ∧ Below w.heap.size w w' := by
 have he := eqlnil_u64 a len cap
 have hlen := hL.1
 cases a with
 | none =>
  have hl0 : l = [] := by
   cases l with
   | nil => rfl
   | cons y ys => obtain ⟨b, off, e, _⟩ := hL.2 0 y rfl; cases e
  subst hl0
  obtain rfl : len = 0 := hlen
  clear hL
  go_enter Tryz.func87, Tryz.ntmps87
  go_wp2_with fail
  go_ret
  exact ⟨none, 0, rfl, SlC.nil, (fun x h => by cases h), Below.refl _ _⟩
 | some a =>
  have hB1 : Below w.heap.size w (w.alloc (.cells #[] 43)) := (Below.refl _ w).alloc (Nat.le_refl _) _
  have hown : (w.alloc (.cells #[] 43)).ownsRow w.heap.size 43 1 (.slice (some ⟨w.heap.size, 0, none⟩) 0 0) 0 [] := ⟨rfl, .inr ⟨w.heap.size, 0, #[], rfl, Nat.le_refl _, World.alloc_heap_new _ _, Nat.le_refl _, by unfold maxLen; omega, rfl, rfl⟩⟩
  have hL1 := hL.go hB1
  obtain ⟨v4, w4, hap4, hown4, hB4, hz4, -, -⟩ := append_elems Tryz.prog (cap := cap) 22 und_u64 info_u64 rfl (by decide) hown hB1 (Nat.le_refl _) (by simp) (fun _ => rfl) hL1 one_u64 (by omega) hll (by decide)
  rw [Nat.zero_add, List.nil_append, hlen] at hown4
  obtain ⟨a4, c4, hv4, hs4, hb4⟩ := slC_of_owns (enc := encU) (fun _ => rfl) hown4
  have HS : Hid (SlC encU 1 w4.heap.size w4 a4 len c4 l) := by rw [Hid, hlen]; exact hs4
  rw [← hlen] at hv4
  subst hv4
  clear hL hL1 hown hs4 hown4 hlen
  go_enter Tryz.func87, Tryz.ntmps87
  go_wp2_with (at_builtin; refine wp_append_eq rfl _ _ _ rfl rfl rfl hap4 ?_)
  go_ret
  exact ⟨_, _, rfl, HS.out, hb4, hB4⟩
theorem und_bin : Tryz.prog.underlying 29 = some (.slice 123) := by kernel_rfl
theorem info_bin : (Tryz.prog.info? 123).map (fun i => (i.zero, i.size, i.bytes)) = some (some (.agg #[.int .i64 0, .int .u64 0]), 2, 16) := by kernel_rfl
theorem eqlnil_bin (a : Option Addr) (n c : Nat) (w : World) : (binOp .eql 29 (.slice a n c) (.slice none 0 0)).run Tryz.prog w = .ok (.bool a.isNone) w := Lib.run_eql_slice_nil w _ _ a n c 0 0 und_bin
theorem one_bin (x : (Int × Int)) : ∀ u ∈ encB x, u.oneCell' = true := by
 intro u hu
 simp only [encB, List.mem_cons, List.not_mem_nil, or_false] at hu
 rcases hu with rfl | rfl <;> rfl
set_option maxHeartbeats 1000000 in
theorem clone_bin (a : Option Addr) (len cap : Nat) (l : List (Int × Int)) (w : World) (hL : SlE encB 2 w.heap.size w a len l) (hll : len < 2147483648) :
  Calls Tryz.prog 88 #[.slice a len cap] w fun e w' => ∃ a' cap', e = .returned (.slice a' len cap') ∧ SlC encB 2 w'.heap.size w' a' len cap' l ∧ (∀ x, a' = some x → w.heap.size ≤ x.block) ∧ Below w.heap.size w w' := by
 have he := eqlnil_bin a len cap
 have hlen := hL.1
 cases a with
 | none =>
  have hl0 : l = [] := by
   cases l with
   | nil => rfl
   | cons y ys => obtain ⟨b, off, e, _⟩ := hL.2 0 y rfl; cases e
  subst hl0
  obtain rfl : len = 0 := hlen
  clear hL
  go_enter Tryz.func88, Tryz.ntmps88
  go_wp2_with fail
  go_ret
  exact ⟨none, 0, rfl, SlC.nil, (fun x h => by cases h), Below.refl _ _⟩
 | some a =>
  have hB1 : Below w.heap.size w (w.alloc (.cells #[] 123)) := (Below.refl _ w).alloc (Nat.le_refl _) _
  have hown : (w.alloc (.cells #[] 123)).ownsRow w.heap.size 123 2 (.slice (some ⟨w.heap.size, 0, none⟩) 0 0) 0 [] := ⟨rfl, .inr ⟨w.heap.size, 0, #[], rfl, Nat.le_refl _, World.alloc_heap_new _ _, Nat.le_refl _, by unfold maxLen; omega, rfl, rfl⟩⟩
  have hL1 := hL.go hB1
  obtain ⟨v4, w4, hap4, hown4, hB4, hz4, -, -⟩ := append_elems Tryz.prog (cap := cap) 29 und_bin info_bin rfl (by decide) hown hB1 (Nat.le_refl _) (by simp) (fun _ => rfl) hL1 one_bin (by omega) hll (by decide)
  rw [Nat.zero_add, List.nil_append, hlen] at hown4
  obtain ⟨a4, c4, hv4, hs4, hb4⟩ := slC_of_owns (enc := encB) (fun _ => rfl) hown4
  have HS : Hid (SlC encB 2 w4.heap.size w4 a4 len c4 l) := by rw [Hid, hlen]; exact hs4
  rw [← hlen] at hv4
  subst hv4
  clear hL hL1 hown hs4 hown4 hlen
  go_enter Tryz.func88, Tryz.ntmps88
  go_wp2_with (at_builtin; refine wp_append_eq rfl _ _ _ rfl rfl rfl hap4 ?_)
  go_ret
  exact ⟨_, _, rfl, HS.out, hb4, hB4⟩
end Go.Proofs.YtcbbenncdainfaaGreatDoor
namespace Go.Proofs.YtcbbenncdainfaaGreatDoor
open Go Go.RowKit
theorem u64_cell {n₀ : Nat} {w : World} {a : Option Addr} {len : Nat} {l : List Int} (h : SlE encU 1 n₀ w a len l) {j : Nat} (hj : j < len) : ∃ x b off, l[j]? = some x ∧ a = some ⟨b, off, none⟩ ∧ b < n₀ ∧ w.cell? ⟨b, off + j, none⟩ = some (.int .u64 x) := by
 obtain ⟨x, b, off, hx, e, hb, hc⟩ := h.at hj
 have := hc 0 (by omega)
 rw [Nat.mul_one, Nat.add_zero] at this
 exact ⟨x, b, off, hx, e, hb, this⟩
set_option maxRecDepth 100000 in
set_option maxHeartbeats 2000000 in
theorem exact_Right_any (l : List Int) (a : Option Addr) (len cap : Nat) (w : World) (hL : SlE encU 1 w.heap.size w a len l) :
  Calls Tryz.prog 95 #[.agg #[.slice a len cap]] w fun e w' => e = .returned (.bool (exRight l)) ∧ Below w.heap.size w w' := by
 have HL := Lib.hid hL.1
 have hB0 : Below w.heap.size w (w.alloc (.cells #[.slice a len cap] 24)) := (Below.refl _ w).alloc (Nat.le_refl _) _
 by_cases h64 : len ≤ 64
 ·have t1 : decide ((64 : Int) < len) = false := by simp; omega
  have HR : Hid (exRight l = (foldO exStep none l).isSome) := by simp only [Hid, exRight]; rw [decide_eq_true (by rw [← HL.out]; exact h64)]; simp
  have hL0 := hL.below hB0
  have c0 : (w.alloc (.cells #[.slice a len cap] 24)).cell? ⟨w.heap.size, 0, none⟩ = some (.slice a len cap) := cCc (World.alloc_heap_new w (.cells #[.slice a len cap] 24)) 0
  go_enter Tryz.func95, Tryz.ntmps95
  go_wp2_with fail
  generalize hW : w.alloc (.cells #[.slice a len cap] 24) = W0 at hB0 hL0 c0 ⊢
  clear hW hL
  go_loop [12] (fun i => ∃ (k : Nat) (st : Option Int), i = .int .i64 k ∧ k ≤ len ∧ Hid (foldO exStep none (l.take k) = some st)) (fun i => len - (intOf i).toNat)
  case atStart => exact ⟨0, none, rfl, Nat.zero_le _, rfl⟩
  case round =>
   obtain ⟨k, st, rfl, hk, HF⟩ := hrel
   by_cases hlt : k < len
   ·obtain ⟨x, b, off, hx, ea, hb, hc⟩ := u64_cell hL0 hlt
    subst ea
    have HS := Lib.hid (foldO_step hx HF.out)
    have HX := Lib.hid hx
    rcases Nat.eq_zero_or_pos k with h0 | hpos
    ·subst h0
     rw [Nat.add_zero] at hc
     clear hx
     go_wp2_with fail
     go_round
     case rel => exact ⟨1, some x, rfl, by omega, by have h1 := HS.out; have h2 := HF.out; simp [foldO_nil] at h2; subst h2; exact Lib.hid (by simpa [exStep] using h1)⟩
     case measure => simp [intOf]; omega
    ·obtain ⟨y, b', off', hy, ea', hb', hc'⟩ := u64_cell hL0 (show k - 1 < len by omega)
     injection ea' with e1
     injection e1 with e1 e2
     subst e1; subst e2
     have hst : Hid (st = some y) := by
      have h1 := exStep_last _ _ _ HF.out
      rw [List.getLast?_eq_getElem?] at h1
      have h2 : (l.take k).length = k := by rw [List.length_take, ← HL.out]; omega
      rw [h2, List.getElem?_take_of_lt (by omega), hy] at h1
      exact h1
     have t3 : decide ((0 : Int) < (k : Int)) = true := by simp; omega
     have i1 : (1 : Int) ≤ (k : Int) := by omega
     clear hx hy
     by_cases hle : x ≤ y
     ·go_wp2_with fail
      go_ret
      have h9 : foldO exStep none l = none := foldO_none (k := k + 1) (by rw [HS.out, hst.out]; simp [exStep, hle])
      exact ⟨by rw [HR.out, h9]; rfl, hB0⟩
     ·go_wp2_with fail
      go_round
      case rel => exact ⟨k + 1, some x, by go_num, by omega, by rw [Hid, HS.out, hst.out]; simp [exStep, hle]⟩
      case measure => simp [intOf]; omega
   ·obtain rfl : k = len := by omega
    go_wp2_with fail
    go_ret
    have h9 := HF.out
    rw [List.take_of_length_le (by rw [← HL.out]; omega)] at h9
    exact ⟨by rw [HR.out, h9]; rfl, hB0⟩
 ·have t1 : decide ((64 : Int) < len) = true := by simp; omega
  have HR : Hid (exRight l = false) := by simp only [Hid, exRight]; rw [decide_eq_false (by rw [← HL.out]; exact h64)]; simp
  clear hL
  go_enter Tryz.func95, Tryz.ntmps95
  go_wp2_with fail
  go_ret
  exact ⟨by rw [HR.out]; rfl, hB0⟩
end Go.Proofs.YtcbbenncdainfaaGreatDoor
namespace Go.Proofs.YtcbbenncdainfaaGreatDoor
open Go Go.RowKit
theorem bDr {B : Nat} {w w' : World} (h : Below B w w') : ∀ n, Below B w (w'.drewN n)
 | 0 => h
 | n + 1 => (bDr h n).drew
set_option maxRecDepth 100000 in
set_option maxHeartbeats 1000000 in
theorem equal_u64 (a1 : Option Addr) (len1 cap1 : Nat) (l1 : List Int) (a2 : Option Addr) (len2 cap2 : Nat) (l2 : List Int) (w : World) (h1 : SlE encU 1 w.heap.size w a1 len1 l1) (h2 : SlE encU 1 w.heap.size w a2 len2 l2) (hm : len1 ≤ maxLen) :
  Calls Tryz.prog 75 #[.slice a1 len1 cap1, .slice a2 len2 cap2] w fun e w' => e = .returned (.bool (l1 == l2)) ∧ Below w.heap.size w w' := by
 have e1 := h1.1
 have e2 := h2.1
 unfold maxLen at hm
 by_cases hl : len1 = len2
 ·subst hl
  have t0 : ((len1 : Int) != (len1 : Int)) = false := by simp
  have E1 := Lib.hid e1
  have E2 := Lib.hid e2
  clear e1 e2
  go_enter Tryz.func75, Tryz.ntmps75
  go_wp2_with fail
  go_loopw [5, 13] (fun _ i wr => ∃ (k : Nat), i = .int .i64 k ∧ k ≤ len1 ∧ Below w.heap.size w wr ∧ Hid (l1.take k = l2.take k)) (fun _ i _ => len1 - (intOf i).toNat)
  case atStart => exact ⟨0, rfl, Nat.zero_le _, Below.refl _ _, rfl⟩
  case round =>
   obtain ⟨k, rfl, hk, hB, HF⟩ := hrel
   by_cases hlt : k < len1
   ·obtain ⟨x, b1, o1, hx, ea1, hb1, hc1⟩ := (h1.below hB).at hlt
    obtain ⟨y, b2, o2, hy, ea2, hb2, hc2⟩ := (h2.below hB).at hlt
    subst ea1; subst ea2
    have c1 : wr.cell? ⟨b1, o1 + k, none⟩ = some (.int .u64 x) := by have := hc1 0 (by omega); rwa [Nat.mul_one, Nat.add_zero] at this
    have c2 : wr.cell? ⟨b2, o2 + k, none⟩ = some (.int .u64 y) := by have := hc2 0 (by omega); rwa [Nat.mul_one, Nat.add_zero] at this
    have i0 : (0 : Int) ≤ (k : Int) := by omega
    have i1 : (k : Int) < (len1 : Int) := by omega
    have HX := Lib.hid hx
    have HY := Lib.hid hy
    clear hc1 hc2 hx hy h1 h2
    by_cases hxy : x = y
    ·have t1 : (x != y) = false := by simp [hxy]
     have HXY : Hid (x = y) := hxy
     clear hxy
     go_wp2_with fail
     go_quiet (fail)
     go_wp2_with fail
     go_roundw
     case rel => exact ⟨k + 1, by go_num, by omega, bDr hB _, by rw [Hid, take_snoc' HX.out, take_snoc' HY.out, HF.out, HXY.out]⟩
     case measure => simp [intOf]; omega
    ·have t1 : (x != y) = true := by simp [hxy]
     have HXY : Hid (¬ x = y) := hxy
     clear hxy
     go_wp2_with fail
     go_quiet (fail)
     go_wp2_with fail
     go_ret
     have hne : (l1 == l2) = false := by
      rw [beq_eq_false_iff_ne]
      intro e
      have hx := HX.out
      rw [e, HY.out] at hx
      exact HXY.out (Option.some.inj hx).symm
     exact ⟨by rw [hne]; rfl, bDr hB _⟩
   ·obtain rfl : k = len1 := by omega
    clear h1 h2
    go_wp2_with fail
    go_ret
    have h9 := HF.out
    rw [List.take_of_length_le (by rw [← E1.out]; omega), List.take_of_length_le (by rw [← E2.out]; omega)] at h9
    exact ⟨by rw [h9]; simp, hB⟩
 ·have t0 : ((len1 : Int) != (len2 : Int)) = true := by rw [bne_iff_ne]; omega
  have hne : Hid ((l1 == l2) = false) := by
   rw [Hid, beq_eq_false_iff_ne]
   intro e
   rw [e, ← e2] at e1
   exact hl e1
  clear h1 h2 e1 e2 hl
  go_enter Tryz.func75, Tryz.ntmps75
  go_wp2_with fail
  go_ret
  exact ⟨by rw [hne.out]; rfl, Below.refl _ _⟩
theorem exact_Same_any (a1 : Option Addr) (len1 cap1 : Nat) (l1 : List Int) (a2 : Option Addr) (len2 cap2 : Nat) (l2 : List Int) (w : World) (h1 : SlE encU 1 w.heap.size w a1 len1 l1) (h2 : SlE encU 1 w.heap.size w a2 len2 l2) (hm : len1 ≤ maxLen) :
  Calls Tryz.prog 44 #[.agg #[.slice a1 len1 cap1], .agg #[.slice a2 len2 cap2]] w fun e w' => e = .returned (.bool (l1 == l2)) ∧ Below w.heap.size w w' := by
 obtain ⟨W0, hW0, hX0, hX1, hB0, hs0⟩ := boxes2 w #[.slice a1 len1 cap1] 24 #[.slice a2 len2 cap2] 24
 have c0 : W0.cell? ⟨w.heap.size, 0, none⟩ = some (.slice a1 len1 cap1) := cCc hX0 0
 have c1 : W0.cell? ⟨w.heap.size + 1, 0, none⟩ = some (.slice a2 len2 cap2) := cCc hX1 0
 have hE := equal_u64 a1 len1 cap1 l1 a2 len2 cap2 l2 W0 (h1.go hB0) (h2.go hB0) hm
 clear h1 h2 hX0 hX1 hs0
 go_enter Tryz.func44, Tryz.ntmps44
 go_wp2_with fail
 refine hE.mono ?_
 rintro e w1 ⟨rfl, hb1⟩
 clear hW0 hE
 go_wp2_with fail
 go_ret
 exact ⟨rfl, hB0.trans (hb1.mono hB0.size)⟩
theorem cms_Same_any (r1 k1 : Int) (a1 : Option Addr) (len1 cap1 : Nat) (l1 : List Int) (r2 k2 : Int) (a2 : Option Addr) (len2 cap2 : Nat) (l2 : List Int) (w : World) (h1 : SlE encU 1 w.heap.size w a1 len1 l1) (h2 : SlE encU 1 w.heap.size w a2 len2 l2) (hm : len1 ≤ maxLen) :
  Calls Tryz.prog 45 #[.agg #[.int .i64 r1, .int .i64 k1, .slice a1 len1 cap1], .agg #[.int .i64 r2, .int .i64 k2, .slice a2 len2 cap2]] w fun e w' => e = .returned (.bool (r1 == r2 && k1 == k2 && l1 == l2)) ∧ Below w.heap.size w w' := by
 obtain ⟨W0, hW0, hX0, hX1, hB0, hs0⟩ := boxes2 w #[.int .i64 r1, .int .i64 k1, .slice a1 len1 cap1] 28 #[.int .i64 r2, .int .i64 k2, .slice a2 len2 cap2] 28
 obtain ⟨c0, c1, c2⟩ := cl3 hX0
 obtain ⟨d0, d1, d2⟩ := cl3 hX1
 have hE := equal_u64 a1 len1 cap1 l1 a2 len2 cap2 l2 W0 (h1.go hB0) (h2.go hB0) hm
 clear h1 h2 hX0 hX1 hs0
 cases t1 : (r1 == r2) with
 | false =>
  go_enter Tryz.func45, Tryz.ntmps45
  go_wp2_with fail
  go_ret
  exact ⟨rfl, hB0⟩
 | true =>
  cases t2 : (k1 == k2) with
  | false =>
   go_enter Tryz.func45, Tryz.ntmps45
   go_wp2_with fail
   go_ret
   exact ⟨rfl, hB0⟩
  | true =>
   go_enter Tryz.func45, Tryz.ntmps45
   go_wp2_with fail
   refine hE.mono ?_
   rintro e w1 ⟨rfl, hb1⟩
   clear hW0 hE
   go_wp2_with fail
   go_ret
   exact ⟨by simp, hB0.trans (hb1.mono hB0.size)⟩
end Go.Proofs.YtcbbenncdainfaaGreatDoor
namespace Go.Proofs
open Go.Shelf
def Tryz.laysO16_ren : Go.Shelf.Ren := ⟨fun | 16 => 156 | n => n, fun | 3 => 3 | 4 => 4 | 35 => 139 | 38 => 230 | n => n, fun | n => n⟩
theorem Tryz.laysO16 : Go.Proofs.SlLaysO.n16 Tryz.prog Tryz.laysO16_ren := {
 mixed := by kernel_rfl
 f16 := Tryz.func156.trans (congrArg some (by kernel_rfl))
 t3 := by kernel_rfl
 a3 := fun w => by kernel_rfl
 z3 := fun w => by kernel_rfl
 v3 := fun w => by kernel_rfl
 t4 := by kernel_rfl
 a4 := fun w => by kernel_rfl
 z4 := fun w => by kernel_rfl
 v4 := fun w => by kernel_rfl
 t35 := by kernel_rfl
 a35 := fun w => by kernel_rfl
 z35 := fun w => by kernel_rfl
 v35 := fun w => by kernel_rfl
 t38 := by kernel_rfl
 a38 := fun w => by kernel_rfl
 z38 := fun w => by kernel_rfl
 v38 := fun w => by kernel_rfl }
end Go.Proofs
namespace Go.Proofs.YtcbbenncdainfaaGreatDoor
open Go Go.RowKit Go.Shelf Go.Lib Go.Sort
set_option maxRecDepth 100000 in
set_option maxHeartbeats 1000000 in
theorem place1_any (b0 b1 b off len cap i : Nat) (n x : Int) (w : World) (h0 : w.cell? ⟨b0, 0, none⟩ = some (.slice (some ⟨b, off, none⟩) len cap)) (h1 : w.cell? ⟨b1, 0, none⟩ = some (.int .u64 n)) (hx : w.cell? ⟨b, off + i, none⟩ = some (.int .u64 x)) (hi : (i : Int) < len) :
  Calls Tryz.prog 157 #[.int .i64 i, .pointer (some ⟨b0, 0, none⟩), .pointer (some ⟨b1, 0, none⟩)] w fun e w' => e = .returned (.bool (decide (n ≤ x))) ∧ ∃ q, w' = w.drewN q := by
 go_enter Tryz.func157, Tryz.ntmps157
 go_wp2_with fail
 go_quiet (fail)
 go_wp2_with fail
 go_ret
 exact ⟨rfl, _, rfl⟩
theorem grow_nil' (w : World) : grow w #[] = w := by
 cases w
 simp [grow]
theorem place_count (l : List Int) (n : Int) : (List.range l.length).countP (fun i => !decide (n ≤ l.getD i 0)) = exPlace l n := by
 have h : l = (List.range l.length).map (fun i => l.getD i 0) := by
  apply List.ext_getElem?
  intro i
  by_cases hi : i < l.length
  ·simp [hi]
  ·simp [hi]
 unfold exPlace
 conv => rhs; rw [h]
 rw [List.countP_map]
 congr 1
 funext i
 simp only [Function.comp]
 rw [Bool.eq_iff_iff]
 simp
set_option maxRecDepth 100000 in
set_option maxHeartbeats 2000000 in
theorem place_any (l : List Int) (a : Option Addr) (len cap : Nat) (n : Int) (w : World) (hL : SlE encU 1 w.heap.size w a len l) (hu : Up l) (hlen : len ≤ 1000) :
  Calls Tryz.prog 152 #[.slice a len cap, .int .u64 n] w fun e w' => e = .returned (.int .i64 (exPlace l n : Nat)) ∧ Below w.heap.size w w' := by
 have hll := hL.1
 obtain ⟨W0, hW0, hX0, hX1, hB0, hs0⟩ := boxes2 w #[.slice a len cap] 22 #[.int .u64 n] 43
 have hS := Any.sort_Search Tryz.laysO16 157 #[.pointer (some ⟨w.heap.size, 0, none⟩), .pointer (some ⟨w.heap.size + 1, 0, none⟩)] len (fun i => decide (n ≤ l.getD i 0)) W0 (enters_of Tryz.func157 (by kernel_rfl) rfl) (by omega)
  (fun m os i hi => by
   obtain ⟨x, hx⟩ : ∃ x, l[i]? = some x := ⟨_, List.getElem?_eq_getElem (by omega)⟩
   obtain ⟨b, off, rfl, hb, hc⟩ := hL.2 i x hx
   have hcx : W0.cell? ⟨b, off + i, none⟩ = some (.int .u64 x) := by
    have h1 := hc 0 (by omega)
    rw [Nat.mul_one] at h1
    exact (hB0.cell (p := ⟨b, off + i, none⟩) hb).trans h1
   have hg : l.getD i 0 = x := by simp [List.getD_eq_getElem?_getD, hx]
   have hgr : ∀ k (o : Nat) v, k < W0.heap.size → W0.cell? ⟨k, o, none⟩ = some v → (grow (W0.drewN m) os).cell? ⟨k, o, none⟩ = some v := fun k o v hk hv => cell_grown (a := ⟨k, o, none⟩) hk hv m os
   refine (place1_any w.heap.size (w.heap.size + 1) b off len cap i n x _ (hgr _ _ _ (by omega) (cCc hX0 0)) (hgr _ _ _ (by omega) (cCc hX1 0)) (hgr _ _ _ (by omega) hcx) (by omega)).mono fun e w' h => ?_
   obtain ⟨h1, q, h2⟩ := h
   exact ⟨by rw [h1, hg], q, #[], by rw [h2, grow_nil']⟩)
  (fun i j hij hj hi => by
   have h1 : l.getD i 0 ≤ l.getD j 0 := by
    rcases Nat.lt_or_eq_of_le hij with h | rfl
    ·have := List.pairwise_iff_getElem.1 hu i j (by omega) (by omega) h
     rw [List.getD_eq_getElem?_getD, List.getD_eq_getElem?_getD, List.getElem?_eq_getElem (by omega), List.getElem?_eq_getElem (by omega)]
     simp only [Option.getD_some]
     omega
    ·exact Int.le_refl _
   simp only [decide_eq_true_eq] at hi ⊢
   omega)
 rw [hll, place_count] at hS
 rw [hll] at hW0 ⊢
 have k0 : W0.cell? ⟨w.heap.size, 0, none⟩ = some (.slice a l.length cap) := by rw [← hll]; exact cCc hX0 0
 have k1 : W0.cell? ⟨w.heap.size + 1, 0, none⟩ = some (.int .u64 n) := cCc hX1 0
 clear hL hu hX0 hX1
 go_enter Tryz.func152, Tryz.ntmps152
 go_wp2_with (go_at_call 156; refine hS.mono ?_; rintro e w1 ⟨rfl, q, os, rfl⟩)
 go_ret
 exact ⟨rfl, hB0.trans (below_grown_sl _ _ _ _ (by omega))⟩
set_option maxRecDepth 100000 in
set_option maxHeartbeats 1000000 in
theorem isAt_any (l : List Int) (a : Option Addr) (len cap k : Nat) (n : Int) (w : World) (hL : SlE encU 1 w.heap.size w a len l) (hk : k ≤ len) :
  Calls Tryz.prog 153 #[.slice a len cap, .int .i64 k, .int .u64 n] w fun e w' => e = .returned (.bool (decide (l[k]? = some n))) ∧ Below w.heap.size w w' := by
 have hll := hL.1
 by_cases hlt : k < len
 ·obtain ⟨x, hx⟩ : ∃ x, l[k]? = some x := ⟨_, List.getElem?_eq_getElem (by omega)⟩
  obtain ⟨b, off, rfl, hb, hc⟩ := hL.2 k x hx
  have c0 : w.cell? ⟨b, off + k, none⟩ = some (.int .u64 x) := by have h1 := hc 0 (by omega); rwa [Nat.mul_one] at h1
  have hd : decide (l[k]? = some n) = (x == n) := by rw [hx, Bool.eq_iff_iff]; simp
  have hlt2 : (k : Int) < len := by omega
  rw [hd]
  clear hL hx hd hc hll
  go_enter Tryz.func153, Tryz.ntmps153
  go_wp2_with fail
  go_ret
  exact ⟨rfl, RowKit.Below.refl _ _⟩
 ·have hd : decide (l[k]? = some n) = false := by rw [List.getElem?_eq_none (by omega)]; simp
  have hlt2 : decide ((k : Int) < len) = false := by simp; omega
  rw [hd]
  clear hL hd hll hk
  go_enter Tryz.func153, Tryz.ntmps153
  go_wp2_with fail
  go_ret
  exact ⟨rfl, RowKit.Below.refl _ _⟩
end Go.Proofs.YtcbbenncdainfaaGreatDoor
namespace Go.Proofs.YtcbbenncdainfaaGreatDoor
open Go Go.RowKit Go.Shelf
theorem owns_base {w : World} {b b' e size n : Nat} {v : Value} {xs : List Value} (h : w.ownsRow b e size v n xs) (hb : b' ≤ b) : w.ownsRow b' e size v n xs :=
 ⟨h.1, h.2.imp id (fun ⟨g, cap, cur, h1, h2, h3⟩ => ⟨g, cap, cur, h1, Nat.le_trans hb h2, h3⟩)⟩
theorem app_cut {w : World} {a : Option Addr} {len k : Nat} {l : List Int} (hL : SlE encU 1 w.heap.size w a len l) (hk : k ≤ len) (hn : a = none → k = 0) (hlen : len ≤ 100000) (n : Int) :
  ∃ g cap w1, (Builtin.append_ #[22, 22] 22 #[.slice a k k, .slice (some ⟨w.heap.size, 0, none⟩) 1 1]).run Tryz.prog (w.alloc (.cells #[.int .u64 n] 43)) = .ok (.slice (some ⟨g, 0, none⟩) (k + 1) cap) w1 ∧
   w1.ownsRow w.heap.size 43 1 (.slice (some ⟨g, 0, none⟩) (k + 1) cap) (k + 1) ((l.take k ++ [n]).flatMap encU) ∧ Below w.heap.size w w1 ∧ w.heap.size < w1.heap.size := by
 have hll := hL.1
 obtain ⟨i0, hi, hz0, hz1, hz2⟩ := info_parts info_u64
 have hB : Below w.heap.size w (w.alloc (.cells #[.int .u64 n] 43)) := (Below.refl _ w).alloc (Nat.le_refl _) _
 have hz : (w.alloc (.cells #[.int .u64 n] 43)).heap.size = w.heap.size + 1 := by simp
 have hfl : ∀ (m : List Int), (m.flatMap encU).length = m.length := fun m => by rw [flat_len encU 1 (fun _ => rfl), Nat.mul_one]
 cases a with
 | none =>
  obtain rfl := hn rfl
  obtain ⟨g, cap, w1, h1, h2, h3, h4, -, -⟩ := append_one Tryz.prog 22 und_u64 info_u64 rfl (by decide) (W := w) (World.ownsRow_nil w w.heap.size 43 1) (Below.refl w.heap.size w) (Nat.le_refl _) (Nat.le_refl _) [.int .u64 n] rfl (by simp [Value.oneCell']) (by omega) (by decide)
  exact ⟨g, cap, w1, h1, h2, h3, h4⟩
 | some p =>
  obtain ⟨v', w1, h1, h2, h3⟩ := run_append_arg_grows (P := Tryz.prog) (w := w.alloc (.cells #[.int .u64 n] 43)) 22 22 43 i0 (.int .u64 0) 1 8 und_u64 hi hz0 hz1 hz2 rfl (by decide)
   p k k ((l.take k).flatMap encU) (by rw [hfl, List.length_take]; omega) (fun j u hj => by
    have hjk : j < k := by have h := (List.getElem?_eq_some_iff.1 hj).1; rw [hfl, List.length_take] at h; omega
    obtain ⟨x, hx⟩ : ∃ x, l[j]? = some x := ⟨_, List.getElem?_eq_getElem (by omega)⟩
    obtain ⟨b, off, e, hb, hc⟩ := hL.2 j x hx
    cases e
    have h5 := flat_cell encU 1 (fun _ => rfl) (l.take k) j 0 x (by rw [List.getElem?_take_of_lt hjk]; exact hx) (by omega)
    rw [Nat.mul_one, Nat.add_zero] at h5
    rw [h5] at hj
    have h6 := hc 0 (by omega)
    rw [Nat.mul_one, Nat.add_zero] at h6
    rw [show (⟨b, off, none⟩ : Addr).add j = ⟨b, off + j, none⟩ by unfold Addr.add; split <;> simp_all]
    exact ((hB.cell (p := ⟨b, off + j, none⟩) hb).trans h6).trans hj)
   ⟨w.heap.size, 0, none⟩ 1 1 [.int .u64 n] rfl (fun j u hj => by
    have hj0 : j = 0 := by have h := (List.getElem?_eq_some_iff.1 hj).1; simp at h; exact h
    subst hj0
    rw [show (⟨w.heap.size, 0, none⟩ : Addr).add 0 = ⟨w.heap.size, 0, none⟩ by unfold Addr.add; split <;> simp_all, cCc (World.alloc_heap_new w _)]
    simpa using hj) (by omega) (by unfold maxLen; omega) (by omega)
  obtain ⟨g, cap, rfl⟩ := ownsRow_succ h2
  refine ⟨g, cap, w1, h1, ?_, hB.grown h3 (by omega) (fun k e => by cases e), by have := h3.size; omega⟩
  rw [List.flatMap_append]
  exact owns_base h2 (by omega)
theorem cut_u64 (a : Option Addr) (len cap k : Nat) (w : World) (h : k ≤ cap) : (Instr.slice 22 (.slice a len cap) none (some (.int .i64 (k : Int))) (some (.int .i64 (k : Int)))).run Tryz.prog w = .ok (.slice a k k) w := by
 have hz := dropA_zero a k 1
 unfold dropA at hz
 have hs : (sizeOf 43).run Tryz.prog w = .ok 1 w := by kernel_rfl
 have he : Tryz.prog.elem 22 = 43 := by kernel_rfl
 rw [run_slice_hm (t := 22) (a := a) (len := len) (cap := cap) (w := w) (ht := by rw [he]; exact und_u64) (kh := .i64) (km := .i64) (h := (k : Int)) (m := (k : Int)) (by omega) (by omega) (by omega), he, hs]
 simp only [Result.andThen, sliced, Int.toNat_natCast, Nat.sub_zero, hz]
theorem from_u64 (a : Option Addr) (len cap k : Nat) (w : World) (h : k ≤ len) : (Instr.slice 22 (.slice a len cap) (some (.int .i64 (k : Int))) none none).run Tryz.prog w = .ok (.slice (dropA a cap k 1) (len - k) (cap - k)) w := by
 have hs : (sizeOf 43).run Tryz.prog w = .ok 1 w := by kernel_rfl
 have he : Tryz.prog.elem 22 = 43 := by kernel_rfl
 rw [run_slice_l (t := 22) (a := a) (len := len) (cap := cap) (w := w) (ht := by rw [he]; exact und_u64) (kl := .i64) (l := (k : Int)) (by omega) (by omega), he, hs]
 simp only [Result.andThen, sliced, Int.toNat_natCast, dropA]
def WithPost (l : List Int) (n : Int) (a : Option Addr) (w : World) (e : Ending) (w' : World) : Prop :=
 ∃ a' cap', e = .returned (.slice a' (exIns l n).length cap') ∧ SlC encU 1 w'.heap.size w' a' (exIns l n).length cap' (exIns l n) ∧ (a' = a ∨ ∀ x, a' = some x → w.heap.size ≤ x.block) ∧ Below w.heap.size w w'
attribute [-go_sem] Builtin.append_ run_slice_any run_slice_hm run_slice_l
set_option maxRecDepth 100000 in
set_option maxHeartbeats 1000000 in
theorem with_any (l : List Int) (a : Option Addr) (len cap : Nat) (n : Int) (w : World) (hL : SlC encU 1 w.heap.size w a len cap l) (hu : Up l) (hlen : len ≤ 1000) :
  Calls Tryz.prog 147 #[.slice a len cap, .int .u64 n] w (WithPost l n a w) := by
 have hll := hL.1.1
 have hkl := exPlace_le l n
 have hP := place_any l a len cap n w hL.1 hu hlen
 obtain ⟨k, hk⟩ : ∃ k, exPlace l n = k := ⟨_, rfl⟩
 rw [hk] at hkl hP
 have HI : Hid (∀ w1, Below w.heap.size w w1 → Calls Tryz.prog 153 #[.slice a len cap, .int .i64 k, .int .u64 n] w1 fun e w' => e = .returned (.bool (decide (l[k]? = some n))) ∧ Below w1.heap.size w1 w') := fun w1 hb => isAt_any l a len cap k n w1 ((hL.1.below hb).mono hb.size) (by omega)
 by_cases hat : l[k]? = some n
 ·have hin : exIns l n = l := by unfold exIns; rw [hk, if_pos hat]
  unfold WithPost
  rw [hin, ← hll]
  rw [decide_eq_true hat] at HI
  have HL := Lib.hid hL
  clear hL hu hat hin hll hkl hk
  go_enter Tryz.func147, Tryz.ntmps147
  go_wp2_with fail
  refine hP.mono ?_
  rintro e w1 ⟨rfl, hb1⟩
  go_wp2_with fail
  refine (HI.out w1 hb1).mono ?_
  rintro e w2 ⟨rfl, hb2⟩
  go_wp2_with fail
  go_ret
  have hb := hb1.trans (hb2.mono hb1.size)
  exact ⟨a, cap, rfl, (HL.out.below hb).mono hb.size, .inl rfl, hb⟩
 ·have hin : exIns l n = l.take k ++ n :: l.drop k := by unfold exIns; rw [hk, if_neg hat]
  unfold WithPost
  rw [hin]
  rw [decide_eq_false hat] at HI
  have HL := Lib.hid hL
  have hcut := fun w1 => cut_u64 a len cap k w1 (by have := hL.2.1; omega)
  have hfrom := fun w1 => from_u64 a len cap k w1 (by omega)
  have HN : Hid (a = none → k = 0) := fun h => by have := hL.2.2.2.1 h; have := hL.2.1; omega
  have HK : Hid (k ≤ len) := by rw [hll]; exact hkl
  have HZ := Lib.hid hlen
  have HLL := Lib.hid hll
  clear hL hu hat hin hll hkl hk
  go_enter Tryz.func147, Tryz.ntmps147
  go_wp2_with fail
  refine hP.mono ?_
  rintro e w1 ⟨rfl, hb1⟩
  go_wp2_with fail
  refine (HI.out w1 hb1).mono ?_
  rintro e w2 ⟨rfl, hb2⟩
  have hb12 := hb1.trans (hb2.mono hb1.size)
  have HL2 := Lib.hid ((HL.out.below hb12).mono hb12.size)
  obtain ⟨g, c3, w3, hap3, hO3, hB3, hz3⟩ := app_cut HL2.out.1 HK.out HN.out (by have := HZ.out; omega) n
  have HD := Lib.hid (((HL2.out.below hB3).mono hB3.size).drop k HK.out)
  obtain ⟨v4, w4, hap4, hO4, hB4, hz4, -, -⟩ := append_elems Tryz.prog (cap := cap - k) 22 und_u64 info_u64 rfl (by decide) hO3 hB3 (Nat.le_refl _) (Nat.le_of_lt hz3) (fun _ => rfl) HD.out.1 one_u64 (by have := HK.out; have := HZ.out; omega) (by have := HZ.out; omega) (by decide)
  have HO4 := Lib.hid hO4
  have HB12 := Lib.hid hb12
  clear HD hO3 hO4
  go_wp2_with fail
  go_ret
  have hO : w4.ownsRow w2.heap.size 43 1 v4 (l.take k ++ n :: l.drop k).length ((l.take k ++ n :: l.drop k).flatMap encU) := by
   have h1 := HO4.out
   rw [← List.flatMap_append, List.append_assoc, List.singleton_append] at h1
   have h2 : (l.take k ++ n :: l.drop k).length = k + 1 + (len - k) := by
    have := HK.out
    have := HLL.out
    rw [List.length_append, List.length_take, List.length_cons, List.length_drop]
    omega
   rw [h2]
   exact h1
  obtain ⟨a', cap', hv, hS, hbl⟩ := slC_of_owns (enc := encU) (fun _ => rfl) hO
  exact ⟨a', cap', by rw [← hv]; rfl, hS, .inr (fun x hx => Nat.le_trans HB12.out.size (hbl x hx)), HB12.out.trans (hB4.mono HB12.out.size)⟩
end Go.Proofs.YtcbbenncdainfaaGreatDoor
namespace Go.Proofs.YtcbbenncdainfaaGreatDoor
open Go Go.RowKit Go.Shelf
attribute [local go_sem] Oper.semAt_some
theorem copy_u64 {W : World} {g len cap n₀ : Nat} {cur : Array Value} {a : Option Addr} {l : List Int} (hg : W.heap[g]? = some (.cells cur 43 (0, 0))) (hcur : cur.size = len) (hL : SlE encU 1 n₀ W a len l) (hn : a = none → len = 0) :
  ∃ W2, (Builtin.copy_ #[22, 22] 3 #[.slice (some ⟨g, 0, none⟩) len len, .slice a len cap]).run Tryz.prog W = .ok (.int .i64 len) W2 ∧ W2.heap[g]? = some (.cells (l.flatMap encU).toArray 43 (0, 0)) ∧ Below g W W2 ∧ W2.heap.size = W.heap.size ∧ ∀ k, k ≠ g → W2.heap[k]? = W.heap[k]? := by
 have hll := hL.1
 have hfl : (l.flatMap encU).length = len := by rw [flat_len encU 1 (fun _ => rfl), Nat.mul_one, hll]
 have hs : (Tryz.prog.info? 43).map (·.size) = some 1 := by kernel_rfl
 rcases Nat.eq_zero_or_pos len with h0 | hpos
 ·subst h0
  have hl : l = [] := List.eq_nil_of_length_eq_zero hll.symm
  subst hl
  have hc : cur = #[] := Array.eq_empty_of_size_eq_zero hcur
  subst hc
  exact ⟨W, by rw [run_copy_none W _ _ _ 43 _ _ _ _ _ _ und_u64 hs (by simp)]; rfl, hg, Below.refl _ _, rfl, fun _ _ => rfl⟩
 ·obtain ⟨x, b, off, hx, rfl, hb, -⟩ := hL.at hpos
  have hr := run_copy_row (P := Tryz.prog) W 22 22 3 43 g 0 len len ⟨b, off, none⟩ len cap cur 43 (l.flatMap encU) und_u64 hs hg (by rw [hfl]; simp)
   (fun j v hj => by
    have hjl : j < l.length := by have h := (List.getElem?_eq_some_iff.1 hj).1; rw [hfl] at h; omega
    obtain ⟨y, hy⟩ : ∃ y, l[j]? = some y := ⟨_, List.getElem?_eq_getElem hjl⟩
    obtain ⟨b', off', e, hb', hc⟩ := hL.2 j y hy
    cases e
    have h5 := flat_cell encU 1 (fun _ => rfl) l j 0 y hy (by omega)
    rw [Nat.mul_one, Nat.add_zero] at h5
    rw [h5] at hj
    have h6 := hc 0 (by omega)
    rw [Nat.mul_one, Nat.add_zero] at h6
    rw [show (⟨b, off, none⟩ : Addr).add j = ⟨b, off + j, none⟩ by unfold Addr.add; split <;> simp_all]
    exact h6.trans hj) (by rw [hfl, hcur]; omega) (fun v hv => by
    obtain ⟨y, -, hy⟩ := List.mem_flatMap.1 hv
    exact one_u64 y v hy)
  have hrow : (cur.toList.take 0 ++ l.flatMap encU ++ cur.toList.drop (0 + (l.flatMap encU).length)).toArray = (l.flatMap encU).toArray := by
   rw [List.take_zero, List.nil_append, Nat.zero_add, hfl, List.drop_eq_nil_of_le (by rw [Array.length_toList, hcur]; exact Nat.le_refl _), List.append_nil]
  rw [hrow] at hr
  exact ⟨_, by rw [hr, hfl]; rfl, setRow_heap W g cur _ _ _ hg, below_setRow (Below.refl _ _) (Nat.le_refl _) _, size_setRow _ _ _, fun k hk => setRow_other W g k _ hk⟩
theorem slicesValues_any (a : Option Addr) (len cap : Nat) (w : World) :
  Calls Tryz.prog 149 #[.slice a len cap] w fun e w' => e = .returned (.func (.func 154) #[] #[.pointer (some ⟨w.heap.size, 0, none⟩)]) ∧ w' = w.alloc (.cells #[.slice a len cap] 22) := by
 go_enter Tryz.func149, Tryz.ntmps149
 go_wp2
 go_ret
 exact ⟨rfl, rfl⟩
theorem exEach_any (a : Option Addr) (len cap : Nat) (w : World) :
  Calls Tryz.prog 146 #[.slice a len cap] w fun e w' => e = .returned (.func (.func 154) #[] #[.pointer (some ⟨w.heap.size, 0, none⟩)]) ∧ w' = w.alloc (.cells #[.slice a len cap] 22) := by
 go_enter Tryz.func146, Tryz.ntmps146
 go_wp2_with (go_at_call 149; refine (slicesValues_any a len cap w).mono ?_; rintro e w' ⟨rfl, rfl⟩)
 go_ret
 exact ⟨rfl, rfl⟩
set_option maxRecDepth 100000 in
set_option maxHeartbeats 1000000 in
theorem values1_u64 (l Bs n₀ b off cap : Nat) (ls : List Int) (hreach : ls.length < 4294967281) (J Jx : List Int → World → Prop)
  (hY : ∀ pre x W, J pre W → pre.length < ls.length → YieldAt Fence.wide 7 Tryz.prog l #[.int .u64 x] W fun e W' =>
   (e = .returned (.bool true) ∧ J (pre ++ [x]) W' ∧ Below n₀ W W') ∨ (e = .returned (.bool false) ∧ Jx (pre ++ [x]) W'))
  (W : World) (hBs : W.cell? ⟨Bs, 0, none⟩ = some (.slice (some ⟨b, off, none⟩) ls.length cap)) (hc : SlE encU 1 n₀ W (some ⟨b, off, none⟩) ls.length ls) (h0 : J [] W) :
  CallsIn Fence.wide 8 Tryz.prog 154 #[.func (.yield l) #[] #[], .pointer (some ⟨Bs, 0, none⟩)] W fun e W' => (∃ v, e = .returned v) ∧
   ((∃ ys, ys = ls ∧ J ys W') ∨ (∃ pre, pre <+: ls ∧ Jx pre W')) := by
 refine callsIn_of_wp Tryz.func154 rfl trivial ?_ rfl
 simp only [Tryz.ntmps154, List.size_toArray, List.length_cons, List.length_nil, Nat.reduceAdd, Nat.reduceSub, Array.replicate_succ, Array.replicate_zero, List.push_toArray, List.append_toArray, List.nil_append, List.cons_append]
 gi_wp2
 gi_loopw [7] (fun i wr => ∃ k : Nat, k ≤ ls.length ∧ i = .int .i64 k ∧ J (ls.take k) wr ∧ Below n₀ W wr) (fun i _ => ls.length - (intOf i).toNat)
 case atStart => exact ⟨0, Nat.zero_le _, rfl, h0, Below.refl _ _⟩
 case round =>
  obtain ⟨k, hk, rfl, hJs, hnx⟩ := hrel
  by_cases hlt : k < ls.length
  ·obtain ⟨x, hx⟩ : ∃ x, ls[k]? = some x := ⟨_, List.getElem?_eq_getElem hlt⟩
   obtain ⟨b9, off9, e9, hb, hc0⟩ := (SlE.below hnx hc).2 k x hx
   cases e9
   have c0 : wr.cell? ⟨b, off + k, none⟩ = some (.int .u64 x) := by have h1 := hc0 0 (by omega); rwa [Nat.mul_one] at h1
   obtain ⟨fn, tmps, assign, body, hy, hR⟩ := hY _ x _ hJs (by simp; omega)
   clear hc0
   have HX := Lib.hid hx
   clear hx
   gi_wp2
   refine hR.mono ?_
   rintro e W3 (⟨rfl, hJ3, hk3⟩ | ⟨rfl, hJx3⟩)
   ·gi_wp2
    go_roundw
    case rel => exact ⟨k + 1, by omega, by simp, by rw [List.take_add_one, HX.out]; exact hJ3, hnx.trans hk3⟩
    case measure => simp [intOf]; omega
   ·gi_wp2
    refine bodyPost_ret (results_none rfl _ _ _) rfl ?_
    exact ⟨⟨_, rfl⟩, .inr ⟨_, by have h := List.take_prefix (k + 1) ls; rwa [List.take_add_one, HX.out] at h, hJx3⟩⟩
  ·obtain rfl : k = ls.length := by omega
   gi_wp2
   go_end0
   exact ⟨⟨_, rfl⟩, .inl ⟨_, List.take_length, hJs⟩⟩
set_option maxRecDepth 100000 in
set_option maxHeartbeats 1000000 in
theorem values1_u64_nil (l Bs : Nat) (a : Option Addr) (cap : Nat) (J : List Int → World → Prop) (W : World) (hBs : W.cell? ⟨Bs, 0, none⟩ = some (.slice a 0 cap)) (h0 : J [] W) :
  CallsIn Fence.wide 8 Tryz.prog 154 #[.func (.yield l) #[] #[], .pointer (some ⟨Bs, 0, none⟩)] W fun e W' => (∃ v, e = .returned v) ∧ J [] W' := by
 refine callsIn_of_wp Tryz.func154 rfl trivial ?_ rfl
 simp only [Tryz.ntmps154, List.size_toArray, List.length_cons, List.length_nil, Nat.reduceAdd, Nat.reduceSub, Array.replicate_succ, Array.replicate_zero, List.push_toArray, List.append_toArray, List.nil_append, List.cons_append]
 gi_wp2
 gi_loopw [7] (fun i wr => i = .int .i64 0 ∧ J [] wr) (fun _ _ => 0)
 case atStart => exact ⟨rfl, h0⟩
 case round =>
  obtain ⟨rfl, hJs⟩ := hrel
  gi_wp2
  go_end0
  exact ⟨⟨_, rfl⟩, hJs⟩
theorem values_u64 (Bs n₀ : Nat) (a : Option Addr) (len cap : Nat) (ls : List Int) (hreach : len < 4294967281) (w : World) (hBs : Bs < w.heap.size) (hn₀ : n₀ ≤ w.heap.size)
  (hc : w.cell? ⟨Bs, 0, none⟩ = some (.slice a len cap)) (hI : SlE encU 1 n₀ w a len ls) :
  SeqStopsK Fence.wide 8 Tryz.prog 154 #[.pointer (some ⟨Bs, 0, none⟩)] (fun x : Int => #[.int .u64 x]) (Below n₀) (fun ys => ys = ls) (fun pre => pre <+: ls) ls.length w := fun l J Jx W hW _ _ hY h0 => by
 have hc' := (hW.cell (p := ⟨Bs, 0, none⟩) hBs).trans hc
 have hI' : SlE encU 1 n₀ W a len ls := hI.below (hW.mono hn₀)
 have hll := hI'.1
 rcases Nat.eq_zero_or_pos len with h | h
 ·obtain rfl : ls = [] := List.eq_nil_of_length_eq_zero (by omega)
  rw [h] at hc'
  exact (values1_u64_nil l Bs a cap J W hc' h0).mono fun e W' ⟨he, hj⟩ => ⟨he, .inl ⟨_, rfl, hj⟩⟩
 ·obtain ⟨x, b, off, -, rfl, -, -⟩ := hI'.at h
  rw [hll] at hc' hI'
  exact values1_u64 l Bs n₀ b off cap ls (by omega) J Jx hY W hc' hI' h0
end Go.Proofs.YtcbbenncdainfaaGreatDoor
namespace Go.Proofs.YtcbbenncdainfaaGreatDoor
open Go Go.RowKit
theorem bin_cells {n₀ : Nat} {w : World} {a : Option Addr} {len : Nat} {l : List (Int × Int)} (h : SlE encB 2 n₀ w a len l) {j : Nat} (hj : j < len) :
  ∃ x b off, l[j]? = some x ∧ a = some ⟨b, off, none⟩ ∧ b < n₀ ∧ w.cell? ⟨b, off + j * 2, none⟩ = some (.int .i64 x.1) ∧ w.cell? ⟨b, off + j * 2 + 1, none⟩ = some (.int .u64 x.2) := by
 obtain ⟨x, b, off, hx, e, hb, hc⟩ := h.at hj
 exact ⟨x, b, off, hx, e, hb, hc 0 (by omega), hc 1 (by omega)⟩
theorem eg_bin : Tryz.prog.eqGuardType Tryz.prog.depth 123 = false := by kernel_rfl
theorem neq_bin (x1 x2 y1 y2 : Int) (w : World) : (binOp .neq 123 (.agg #[.int .i64 x1, .int .u64 x2]) (.agg #[.int .i64 y1, .int .u64 y2])).run Tryz.prog w = .ok (.bool (!(x1 == y1 && x2 == y2))) w := by
 have h1 : Tryz.prog.underlying 123 = some (.struct (Tryz.prog.fieldsOf 123)) := by kernel_rfl
 have h2 : Tryz.prog.stoodInHeld 123 = false := by kernel_rfl
 have h3 : (Tryz.prog.fieldsOf 123).toList = [{ name := "At", type := 3, offset := 0, embedded := false, tag := "", pkgPath := "", byteOffset := 0 }, { name := "N", type := 43, offset := 1, embedded := false, tag := "", pkgPath := "", byteOffset := 8 }] := by kernel_rfl
 rw [run_neq_struct, run_equalIn_agg w 9999 _ _ _ h1 h2, h3]
 cases ha : (x1 == y1) <;> cases hb : (x2 == y2) <;> simp [go_sem, ha, hb, Tryz.underlying3, Tryz.underlying43]
set_option maxRecDepth 100000 in
set_option maxHeartbeats 1000000 in
theorem hist_Same_any (f1 : Int) (a1 : Option Addr) (len1 cap1 : Nat) (l1 : List (Int × Int)) (f2 : Int) (a2 : Option Addr) (len2 cap2 : Nat) (l2 : List (Int × Int)) (w : World) (h1 : SlE encB 2 w.heap.size w a1 len1 l1) (h2 : SlE encB 2 w.heap.size w a2 len2 l2) (hm : len1 ≤ maxLen) :
  Calls Tryz.prog 46 #[.agg #[.int .i64 f1, .slice a1 len1 cap1], .agg #[.int .i64 f2, .slice a2 len2 cap2]] w fun e w' => e = .returned (.bool (f1 == f2 && l1 == l2)) ∧ Below w.heap.size w w' := by
 unfold maxLen at hm
 obtain ⟨W0, hW0, hX0, hX1, hB0, hs0⟩ := boxes2 w #[.int .i64 f1, .slice a1 len1 cap1] 31 #[.int .i64 f2, .slice a2 len2 cap2] 31
 obtain ⟨c0, c1⟩ := cl2 hX0
 obtain ⟨d0, d1⟩ := cl2 hX1
 have hz0 : w.heap.size + 1 < W0.heap.size := by omega
 by_cases hf : f1 = f2
 ·have t1 : (f1 != f2) = false := by simp [hf]
  have HF1 : Hid ((f1 == f2) = true) := by simp [Hid, hf]
  clear hf
  by_cases hl : len1 = len2
  ·subst hl
   have t0 : ((len1 : Int) != (len1 : Int)) = false := by simp
   have E1 := Lib.hid h1.1
   have E2 := Lib.hid h2.1
   have g1 := h1.below hB0
   have g2 := h2.below hB0
   clear h1 h2 hs0
   go_enter Tryz.func46, Tryz.ntmps46
   go_wp2_with fail
   clear hW0
   go_loopw [5, 6, 24] (fun _ _ i wr => ∃ (k : Nat), i = .int .i64 k ∧ k ≤ len1 ∧ Below W0.heap.size W0 wr ∧ Hid (l1.take k = l2.take k)) (fun _ _ i _ => len1 - (intOf i).toNat)
   case atStart => exact ⟨0, rfl, Nat.zero_le _, Below.refl _ _, rfl⟩
   case round =>
    obtain ⟨k, rfl, hk, hB, HF⟩ := hrel
    have hzB := hB.size
    by_cases hlt : k < len1
    ·obtain ⟨x, b1, o1, hx, ea1, hb1, p0, p1⟩ := bin_cells (g1.below (hB.mono hB0.size)) hlt
     obtain ⟨y, b2, o2, hy, ea2, hb2, q0, q1⟩ := bin_cells (g2.below (hB.mono hB0.size)) hlt
     subst ea1; subst ea2
     obtain ⟨x1, x2⟩ := x
     obtain ⟨y1, y2⟩ := y
     dsimp only at p0 p1 q0 q1
     have i0 : (0 : Int) ≤ (k : Int) := by omega
     have i1 : (k : Int) < (len1 : Int) := by omega
     have e1 : wr.cell? ⟨w.heap.size + 1, 1, none⟩ = some (.slice (some ⟨b2, o2, none⟩) len1 cap2) := (hB.cell (p := ⟨w.heap.size + 1, 1, none⟩) hz0).trans d1
     have HX := Lib.hid hx
     have HY := Lib.hid hy
     obtain ⟨W2, hW2, hX2, hB2, hs2⟩ := boxes1 wr #[.int .i64 x1, .int .u64 x2] 123
     obtain ⟨r0, r1⟩ := cl2 hX2
     have u0 : W2.cell? ⟨b2, o2 + k * 2, none⟩ = some (.int .i64 y1) := (hB2.cell (p := ⟨b2, o2 + k * 2, none⟩) (by show b2 < _; omega)).trans q0
     have u1 : W2.cell? ⟨b2, o2 + k * 2 + 1, none⟩ = some (.int .u64 y2) := (hB2.cell (p := ⟨b2, o2 + k * 2 + 1, none⟩) (by show b2 < _; omega)).trans q1
     have u2 : W2.cell? ⟨w.heap.size + 1, 1, none⟩ = some (.slice (some ⟨b2, o2, none⟩) len1 cap2) := (hB2.cell (p := ⟨w.heap.size + 1, 1, none⟩) (by show w.heap.size + 1 < _; omega)).trans e1
     have hBB : Below W0.heap.size W0 W2 := hB.trans (hB2.mono hzB)
     have n2 := eg_bin
     clear hx hy g1 g2 hX2 q0 q1 c0 c1 d0 d1 hX0 hX1
     by_cases hxy : x1 = y1 ∧ x2 = y2
     ·have n1 : ∀ w, (binOp .neq 123 (.agg #[.int .i64 x1, .int .u64 x2]) (.agg #[.int .i64 y1, .int .u64 y2])).run Tryz.prog w = .ok (.bool false) w := fun w => by rw [neq_bin]; simp [hxy.1, hxy.2]
      have HXY := Lib.hid hxy
      clear hxy
      go_wp2_with fail
      go_quiet (fail)
      go_wp2_with fail
      go_roundw
      case rel => exact ⟨k + 1, by go_num, by omega, bDr hBB _, by rw [Hid, take_snoc' HX.out, take_snoc' HY.out, HF.out, HXY.out.1, HXY.out.2]⟩
      case measure => simp [intOf]; omega
     ·have n1 : ∀ w, (binOp .neq 123 (.agg #[.int .i64 x1, .int .u64 x2]) (.agg #[.int .i64 y1, .int .u64 y2])).run Tryz.prog w = .ok (.bool true) w := fun w => by
       rw [neq_bin]
       have : (x1 == y1 && x2 == y2) = false := by rw [Bool.eq_false_iff]; intro h; simp at h; exact hxy h
       rw [this]; rfl
      have HXY := Lib.hid hxy
      clear hxy
      go_wp2_with fail
      go_quiet (fail)
      go_wp2_with fail
      go_ret
      have hne : (l1 == l2) = false := by
       rw [beq_eq_false_iff_ne]
       intro e
       have hx := HX.out
       rw [e, HY.out] at hx
       have := Option.some.inj hx
       simp only [Prod.mk.injEq] at this
       exact HXY.out ⟨this.1.symm, this.2.symm⟩
      exact ⟨by rw [hne]; simp, hB0.trans ((bDr hBB _).mono hB0.size)⟩
    ·obtain rfl : k = len1 := by omega
     clear g1 g2
     go_wp2_with fail
     go_ret
     have h9 := HF.out
     rw [List.take_of_length_le (by rw [← E1.out]; omega), List.take_of_length_le (by rw [← E2.out]; omega)] at h9
     exact ⟨by rw [h9, HF1.out]; simp, hB0.trans (hB.mono hB0.size)⟩
  ·have t0 : ((len1 : Int) != (len2 : Int)) = true := by rw [bne_iff_ne]; omega
   have hne : Hid ((l1 == l2) = false) := by
    rw [Hid, beq_eq_false_iff_ne]
    intro e
    have e1 := h1.1
    rw [e, ← h2.1] at e1
    exact hl e1
   clear h1 h2 hl hs0
   go_enter Tryz.func46, Tryz.ntmps46
   go_wp2_with fail
   go_ret
   exact ⟨by rw [hne.out]; simp, hB0⟩
 ·have t1 : (f1 != f2) = true := by simp [hf]
  have HF1 : Hid ((f1 == f2) = false) := by simp [Hid, hf]
  clear hf h1 h2 hs0
  go_enter Tryz.func46, Tryz.ntmps46
  go_wp2_with fail
  go_ret
  exact ⟨by rw [HF1.out]; rfl, hB0⟩
end Go.Proofs.YtcbbenncdainfaaGreatDoor

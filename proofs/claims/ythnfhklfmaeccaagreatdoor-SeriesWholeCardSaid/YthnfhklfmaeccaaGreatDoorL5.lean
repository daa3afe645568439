/- slices.Clone and slices.Equal at []api.Label: printed by wip/tools/gen_l5.py. -/
import Derived.Test.YthnfhklfmaeccaaGreatDoorL4
namespace Go.Proofs.YthnfhklfmaeccaaGreatDoor
open Go Go.RowKit

theorem und_lab : Tryz.prog.underlying 33 = some (.slice 32) := by kernel_rfl
theorem info_lab : (Tryz.prog.info? 32).map (fun i => (i.zero, i.size, i.bytes)) = some (some (.agg #[.string ⟨#[]⟩, .string ⟨#[]⟩]), 2, 32) := by kernel_rfl
theorem eqlnil_lab (a : Option Addr) (n c : Nat) (w : World) : (binOp .eql 33 (.slice a n c) (.slice none 0 0)).run Tryz.prog w = .ok (.bool a.isNone) w := Lib.run_eql_slice_nil w _ _ a n c 0 0 und_lab
theorem one_lab (x : Lab) : ∀ u ∈ Lab.enc x, u.oneCell' = true := by
  intro u hu
  simp only [Lab.enc, List.mem_cons, List.not_mem_nil, or_false] at hu
  rcases hu with rfl | rfl <;> rfl
set_option maxHeartbeats 1000000 in
/-- slices.Clone at []api.Label: a slice of its own (nil of nil). -/
theorem clone_lab (a : Option Addr) (len cap : Nat) (l : List Lab) (w : World) (hL : SlE Lab.enc 2 w.heap.size w a len l) (hll : len < 2147483648) :
    Calls Tryz.prog 29 #[.slice a len cap] w fun e w' => ∃ a' cap', e = .returned (.slice a' len cap') ∧ SlC Lab.enc 2 w'.heap.size w' a' len cap' l ∧ (∀ x, a' = some x → w.heap.size ≤ x.block) ∧ Below w.heap.size w w' := by
  have he := eqlnil_lab a len cap
  have hlen := hL.1
  cases a with
  | none =>
    have hl0 : l = [] := by
      cases l with
      | nil => rfl
      | cons y ys => obtain ⟨b, off, e, _⟩ := hL.2 0 y rfl; cases e
    subst hl0
    obtain rfl : len = 0 := hlen
    clear hL
    go_enter Tryz.func29, Tryz.ntmps29
    go_wp2_with fail
    go_ret
    exact ⟨none, 0, rfl, SlC.nil, (fun x h => by cases h), Below.refl _ _⟩
  | some a =>
    have hB1 : Below w.heap.size w (w.alloc (.cells #[] 32)) := (Below.refl _ w).alloc (Nat.le_refl _) _
    have hown : (w.alloc (.cells #[] 32)).ownsRow w.heap.size 32 2 (.slice (some ⟨w.heap.size, 0, none⟩) 0 0) 0 [] := ⟨rfl, .inr ⟨w.heap.size, 0, #[], rfl, Nat.le_refl _, World.alloc_heap_new _ _, Nat.le_refl _, by unfold maxLen; omega, rfl, rfl⟩⟩
    have hL1 := hL.go hB1
    obtain ⟨v4, w4, hap4, hown4, hB4, hz4, -, -⟩ := append_elems Tryz.prog (cap := cap) 33 und_lab info_lab rfl (by decide) hown hB1 (Nat.le_refl _) (by simp) (fun _ => rfl) hL1 one_lab (by omega) hll (by decide)
    rw [Nat.zero_add, List.nil_append, hlen] at hown4
    obtain ⟨a4, c4, hv4, hs4, hb4⟩ := slC_of_owns (enc := Lab.enc) (fun _ => rfl) hown4
    have HS : Hid (SlC Lab.enc 2 w4.heap.size w4 a4 len c4 l) := by rw [Hid, hlen]; exact hs4
    rw [← hlen] at hv4
    subst hv4
    clear hL hL1 hown hs4 hown4 hlen
    go_enter Tryz.func29, Tryz.ntmps29
    go_wp2_with (at_builtin; refine wp_append_eq rfl _ _ _ rfl rfl rfl hap4 ?_)
    go_ret
    exact ⟨_, _, rfl, HS.out, hb4, hB4⟩


set_option maxRecDepth 100000 in
set_option maxHeartbeats 1000000 in
theorem equal_lab (a1 : Option Addr) (len1 cap1 : Nat) (l1 : List Lab) (a2 : Option Addr) (len2 cap2 : Nat) (l2 : List Lab) (w : World) (h1 : SlE Lab.enc 2 w.heap.size w a1 len1 l1) (h2 : SlE Lab.enc 2 w.heap.size w a2 len2 l2) (hm : len1 ≤ maxLen) :
    Calls Tryz.prog 28 #[.slice a1 len1 cap1, .slice a2 len2 cap2] w fun e w' => e = .returned (.bool (l1 == l2)) ∧ Below w.heap.size w w' := by
  have e1 := h1.1
  have e2 := h2.1
  unfold maxLen at hm
  by_cases hl : len1 = len2
  · subst hl
    have t0 : ((len1 : Int) != (len1 : Int)) = false := by simp
    have E1 := Lib.hid e1
    have E2 := Lib.hid e2
    clear e1 e2
    go_enter Tryz.func28, Tryz.ntmps28
    go_wp2_with fail
    go_loopw [5, 13] (fun _ i wr => ∃ (k : Nat), i = .int .i64 k ∧ k ≤ len1 ∧ Below w.heap.size w wr ∧ Hid (l1.take k = l2.take k)) (fun _ i _ => len1 - (intOf i).toNat)
    case atStart => exact ⟨0, rfl, Nat.zero_le _, Below.refl _ _, rfl⟩
    case round =>
      obtain ⟨k, rfl, hk, hB, HF⟩ := hrel
      by_cases hlt : k < len1
      · obtain ⟨x, b1, o1, hx, ea1, hb1, hc1⟩ := (h1.below hB).at hlt
        obtain ⟨y, b2, o2, hy, ea2, hb2, hc2⟩ := (h2.below hB).at hlt
        subst ea1; subst ea2
        have p0 : wr.cell? ⟨b1, o1 + k * 2, none⟩ = some (.string x.name) := hc1 0 (by omega)
        have p1 : wr.cell? ⟨b1, o1 + k * 2 + 1, none⟩ = some (.string x.value) := hc1 1 (by omega)
        have q0 : wr.cell? ⟨b2, o2 + k * 2, none⟩ = some (.string y.name) := hc2 0 (by omega)
        have q1 : wr.cell? ⟨b2, o2 + k * 2 + 1, none⟩ = some (.string y.value) := hc2 1 (by omega)
        have n2 := eg_lab
        have i0 : (0 : Int) ≤ (k : Int) := by omega
        have i1 : (k : Int) < (len1 : Int) := by omega
        have HX := Lib.hid hx
        have HY := Lib.hid hy
        clear hc1 hc2 hx hy h1 h2
        by_cases hxy : x = y
        · have n1 : ∀ w, (binOp .neq 32 (.agg #[.string x.name, .string x.value]) (.agg #[.string y.name, .string y.value])).run Tryz.prog w = .ok (.bool false) w := fun w => by rw [neq_lab, beq_str, beq_str, hxy]; simp
          have HXY : Hid (x = y) := hxy
          clear hxy
          go_wp2_with fail
          go_quiet (fail)
          go_wp2_with fail
          go_roundw
          case rel => exact ⟨k + 1, by go_num, by omega, below_drewN hB _, by rw [Hid, take_snoc' HX.out, take_snoc' HY.out, HF.out, HXY.out]⟩
          case measure => simp [intOf]; omega
        · have n1 : ∀ w, (binOp .neq 32 (.agg #[.string x.name, .string x.value]) (.agg #[.string y.name, .string y.value])).run Tryz.prog w = .ok (.bool true) w := fun w => by rw [neq_lab, beq_str, beq_str]; cases x; cases y; simp only [Lab.mk.injEq] at hxy; rw [← Bool.decide_and, decide_eq_false hxy]; rfl
          have HXY : Hid (¬ x = y) := hxy
          clear hxy
          go_wp2_with fail
          go_quiet (fail)
          go_wp2_with fail
          go_ret
          have hne : (l1 == l2) = false := by
            rw [beq_eq_false_iff_ne]
            intro e
            have hx := HX.out
            rw [e, HY.out] at hx
            exact HXY.out (Option.some.inj hx).symm
          exact ⟨by rw [hne]; rfl, below_drewN hB _⟩
      · obtain rfl : k = len1 := by omega
        clear h1 h2
        go_wp2_with fail
        go_ret
        have h9 := HF.out
        rw [List.take_of_length_le (by rw [← E1.out]; omega), List.take_of_length_le (by rw [← E2.out]; omega)] at h9
        exact ⟨by rw [h9]; simp, hB⟩
  · have t0 : ((len1 : Int) != (len2 : Int)) = true := by rw [bne_iff_ne]; omega
    have hne : Hid ((l1 == l2) = false) := by
      rw [Hid, beq_eq_false_iff_ne]
      intro e
      rw [e, ← e2] at e1
      exact hl e1
    clear h1 h2 e1 e2 hl
    go_enter Tryz.func28, Tryz.ntmps28
    go_wp2_with fail
    go_ret
    exact ⟨by rw [hne.out]; rfl, Below.refl _ _⟩

end Go.Proofs.YthnfhklfmaeccaaGreatDoor

/- Package hist: Same. -/
import Derived.Test.YtjpnbkdhmjgdgaaDoorX7
namespace Go.Proofs.YtjpnbkdhmjgdgaaDoor
open Go Go.RowKit

theorem bin_cells {n₀ : Nat} {w : World} {a : Option Addr} {len : Nat} {l : List (Int × Int)} (h : SlE encB 2 n₀ w a len l) {j : Nat} (hj : j < len) :
    ∃ x b off, l[j]? = some x ∧ a = some ⟨b, off, none⟩ ∧ b < n₀ ∧ w.cell? ⟨b, off + j * 2, none⟩ = some (.int .i64 x.1) ∧ w.cell? ⟨b, off + j * 2 + 1, none⟩ = some (.int .u64 x.2) := by
  obtain ⟨x, b, off, hx, e, hb, hc⟩ := h.at hj
  exact ⟨x, b, off, hx, e, hb, hc 0 (by omega), hc 1 (by omega)⟩

theorem eg_bin : Tryd.prog.eqGuardType Tryd.prog.depth 85 = false := by kernel_rfl
theorem neq_bin (x1 x2 y1 y2 : Int) (w : World) : (binOp .neq 85 (.agg #[.int .i64 x1, .int .u64 x2]) (.agg #[.int .i64 y1, .int .u64 y2])).run Tryd.prog w = .ok (.bool (!(x1 == y1 && x2 == y2))) w := by
  have h1 : Tryd.prog.underlying 85 = some (.struct (Tryd.prog.fieldsOf 85)) := by kernel_rfl
  have h2 : Tryd.prog.stoodInHeld 85 = false := by kernel_rfl
  have h3 : (Tryd.prog.fieldsOf 85).toList = [{ name := "At", type := 3, offset := 0, embedded := false, tag := "", pkgPath := "", byteOffset := 0 }, { name := "N", type := 46, offset := 1, embedded := false, tag := "", pkgPath := "", byteOffset := 8 }] := by kernel_rfl
  rw [run_neq_struct, run_equalIn_agg w 9999 _ _ _ h1 h2, h3]
  cases ha : (x1 == y1) <;> cases hb : (x2 == y2) <;> simp [go_sem, ha, hb, Tryd.underlying3, Tryd.underlying46]

set_option maxRecDepth 100000 in
set_option maxHeartbeats 1000000 in
theorem hist_Same_any (f1 : Int) (a1 : Option Addr) (len1 cap1 : Nat) (l1 : List (Int × Int)) (f2 : Int) (a2 : Option Addr) (len2 cap2 : Nat) (l2 : List (Int × Int)) (w : World) (h1 : SlE encB 2 w.heap.size w a1 len1 l1) (h2 : SlE encB 2 w.heap.size w a2 len2 l2) (hm : len1 ≤ maxLen) :
    Calls Tryd.prog 28 #[.agg #[.int .i64 f1, .slice a1 len1 cap1], .agg #[.int .i64 f2, .slice a2 len2 cap2]] w fun e w' => e = .returned (.bool (f1 == f2 && l1 == l2)) ∧ Below w.heap.size w w' := by
  unfold maxLen at hm
  obtain ⟨W0, hW0, hX0, hX1, hB0, hs0⟩ := boxes2 w #[.int .i64 f1, .slice a1 len1 cap1] 31 #[.int .i64 f2, .slice a2 len2 cap2] 31
  have c0 : W0.cell? ⟨w.heap.size, 0, none⟩ = some (.int .i64 f1) := cell_of_cells hX0 0
  have c1 : W0.cell? ⟨w.heap.size, 1, none⟩ = some (.slice a1 len1 cap1) := cell_of_cells hX0 1
  have d0 : W0.cell? ⟨w.heap.size + 1, 0, none⟩ = some (.int .i64 f2) := cell_of_cells hX1 0
  have d1 : W0.cell? ⟨w.heap.size + 1, 1, none⟩ = some (.slice a2 len2 cap2) := cell_of_cells hX1 1
  have hz0 : w.heap.size + 1 < W0.heap.size := by omega
  by_cases hf : f1 = f2
  · have t1 : (f1 != f2) = false := by simp [hf]
    have HF1 : Hid ((f1 == f2) = true) := by simp [Hid, hf]
    clear hf
    by_cases hl : len1 = len2
    · subst hl
      have t0 : ((len1 : Int) != (len1 : Int)) = false := by simp
      have E1 := Lib.hid h1.1
      have E2 := Lib.hid h2.1
      have g1 := h1.below hB0
      have g2 := h2.below hB0
      clear h1 h2 hs0
      go_enter Tryd.func28, Tryd.ntmps28
      go_wp2_with fail
      clear hW0
      go_loopw [5, 6, 24] (fun _ _ i wr => ∃ (k : Nat), i = .int .i64 k ∧ k ≤ len1 ∧ Below W0.heap.size W0 wr ∧ Hid (l1.take k = l2.take k)) (fun _ _ i _ => len1 - (intOf i).toNat)
      case atStart => exact ⟨0, rfl, Nat.zero_le _, Below.refl _ _, rfl⟩
      case round =>
        obtain ⟨k, rfl, hk, hB, HF⟩ := hrel
        have hzB := hB.size
        by_cases hlt : k < len1
        · obtain ⟨x, b1, o1, hx, ea1, hb1, p0, p1⟩ := bin_cells (g1.below (hB.mono hB0.size)) hlt
          obtain ⟨y, b2, o2, hy, ea2, hb2, q0, q1⟩ := bin_cells (g2.below (hB.mono hB0.size)) hlt
          subst ea1; subst ea2
          obtain ⟨x1, x2⟩ := x
          obtain ⟨y1, y2⟩ := y
          dsimp only at p0 p1 q0 q1
          have i0 : (0 : Int) ≤ (k : Int) := by omega
          have i1 : (k : Int) < (len1 : Int) := by omega
          have e1 : wr.cell? ⟨w.heap.size + 1, 1, none⟩ = some (.slice (some ⟨b2, o2, none⟩) len1 cap2) := (hB.cell (p := ⟨w.heap.size + 1, 1, none⟩) hz0).trans d1
          have HX := Lib.hid hx
          have HY := Lib.hid hy
          obtain ⟨W2, hW2, hX2, hB2, hs2⟩ := boxes1 wr #[.int .i64 x1, .int .u64 x2] 85
          have r0 : W2.cell? ⟨wr.heap.size, 0, none⟩ = some (.int .i64 x1) := cell_of_cells hX2 0
          have r1 : W2.cell? ⟨wr.heap.size, 1, none⟩ = some (.int .u64 x2) := cell_of_cells hX2 1
          have u0 : W2.cell? ⟨b2, o2 + k * 2, none⟩ = some (.int .i64 y1) := (hB2.cell (p := ⟨b2, o2 + k * 2, none⟩) (by show b2 < _; omega)).trans q0
          have u1 : W2.cell? ⟨b2, o2 + k * 2 + 1, none⟩ = some (.int .u64 y2) := (hB2.cell (p := ⟨b2, o2 + k * 2 + 1, none⟩) (by show b2 < _; omega)).trans q1
          have u2 : W2.cell? ⟨w.heap.size + 1, 1, none⟩ = some (.slice (some ⟨b2, o2, none⟩) len1 cap2) := (hB2.cell (p := ⟨w.heap.size + 1, 1, none⟩) (by show w.heap.size + 1 < _; omega)).trans e1
          have hBB : Below W0.heap.size W0 W2 := hB.trans (hB2.mono hzB)
          have n2 := eg_bin
          clear hx hy g1 g2 hX2 q0 q1 c0 c1 d0 d1 hX0 hX1
          by_cases hxy : x1 = y1 ∧ x2 = y2
          · have n1 : ∀ w, (binOp .neq 85 (.agg #[.int .i64 x1, .int .u64 x2]) (.agg #[.int .i64 y1, .int .u64 y2])).run Tryd.prog w = .ok (.bool false) w := fun w => by rw [neq_bin]; simp [hxy.1, hxy.2]
            have HXY := Lib.hid hxy
            clear hxy
            go_wp2_with fail
            go_quiet (fail)
            go_wp2_with fail
            go_roundw
            case rel => exact ⟨k + 1, by go_num, by omega, below_drewN hBB _, by rw [Hid, take_snoc' HX.out, take_snoc' HY.out, HF.out, HXY.out.1, HXY.out.2]⟩
            case measure => simp [intOf]; omega
          · have n1 : ∀ w, (binOp .neq 85 (.agg #[.int .i64 x1, .int .u64 x2]) (.agg #[.int .i64 y1, .int .u64 y2])).run Tryd.prog w = .ok (.bool true) w := fun w => by
              rw [neq_bin]
              have : (x1 == y1 && x2 == y2) = false := by rw [Bool.eq_false_iff]; intro h; simp at h; exact hxy h
              rw [this]; rfl
            have HXY := Lib.hid hxy
            clear hxy
            go_wp2_with fail
            go_quiet (fail)
            go_wp2_with fail
            go_ret
            have hne : (l1 == l2) = false := by
              rw [beq_eq_false_iff_ne]
              intro e
              have hx := HX.out
              rw [e, HY.out] at hx
              have := Option.some.inj hx
              simp only [Prod.mk.injEq] at this
              exact HXY.out ⟨this.1.symm, this.2.symm⟩
            exact ⟨by rw [hne]; simp, hB0.trans ((below_drewN hBB _).mono hB0.size)⟩
        · obtain rfl : k = len1 := by omega
          clear g1 g2
          go_wp2_with fail
          go_ret
          have h9 := HF.out
          rw [List.take_of_length_le (by rw [← E1.out]; omega), List.take_of_length_le (by rw [← E2.out]; omega)] at h9
          exact ⟨by rw [h9, HF1.out]; simp, hB0.trans (hB.mono hB0.size)⟩
    · have t0 : ((len1 : Int) != (len2 : Int)) = true := by rw [bne_iff_ne]; omega
      have hne : Hid ((l1 == l2) = false) := by
        rw [Hid, beq_eq_false_iff_ne]
        intro e
        have e1 := h1.1
        rw [e, ← h2.1] at e1
        exact hl e1
      clear h1 h2 hl hs0
      go_enter Tryd.func28, Tryd.ntmps28
      go_wp2_with fail
      go_ret
      exact ⟨by rw [hne.out]; simp, hB0⟩
  · have t1 : (f1 != f2) = true := by simp [hf]
    have HF1 : Hid ((f1 == f2) = false) := by simp [Hid, hf]
    clear hf h1 h2 hs0
    go_enter Tryd.func28, Tryd.ntmps28
    go_wp2_with fail
    go_ret
    exact ⟨by rw [HF1.out]; rfl, hB0⟩
end Go.Proofs.YtjpnbkdhmjgdgaaDoor

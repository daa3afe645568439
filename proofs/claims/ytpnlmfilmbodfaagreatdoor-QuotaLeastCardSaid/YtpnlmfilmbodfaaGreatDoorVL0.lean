/- Package ladder: New. Printed by gen_lj.py. Laws of layer 10: items; New, whatever the kind. -/
import Derived.Test.YtpnlmfilmbodfaaGreatDoorVLI
import Derived.Test.YtpnlmfilmbodfaaGreatDoorVCG
import Derived.Test.YtpnlmfilmbodfaaGreatDoorVH1
import Derived.Test.YtpnlmfilmbodfaaGreatDoorVH0
import Derived.Test.YtpnlmfilmbodfaaGreatDoorVJ1
namespace Go.Proofs.YtpnlmfilmbodfaaGreatDoor
open Go Go.RowKit Go.Shelf
theorem slC_nil {α : Type} {enc : α → List Value} {k n : Nat} {w : World} : SlC enc k n w none 0 0 [] := ⟨⟨rfl, fun j x hx => by simp at hx⟩, Nat.le_refl _, Nat.zero_le _, fun _ => rfl, fun x e => by cases e⟩
set_option maxRecDepth 100000 in
set_option maxHeartbeats 1000000 in
theorem New_1 (w : World) : Calls Tryz.prog 27 #[.int .i64 1] w fun e w' => ∃ x, e = .returned (.tuple #[x, .int .i64 0]) ∧ SkB w' x 1 0 (bdNew 1) ∧ Below w.heap.size w w' := by
  obtain ⟨W0, hW0, hXr, hXx, hB0, hs0⟩ := boxes2 w #[.int .i64 0, .int .i64 0, .slice none 0 0, .int .i64 0, .string ⟨#[]⟩, .int .i64 0, .int .i64 0, .slice none 0 0, .int .i64 0, .slice none 0 0] 33 #[.int .i64 1, .int .i64 0, .slice none 0 0, .int .i64 0, .string ⟨#[]⟩, .int .i64 0, .int .i64 0, .slice none 0 0, .int .i64 0, .slice none 0 0] 33
  have c0 : W0.cell? ⟨w.heap.size + 1, 0, none⟩ = some (.int .i64 1) := cCc hXx 0
  have c1 : W0.cell? ⟨w.heap.size + 1, 1, none⟩ = some (.int .i64 0) := cCc hXx 1
  have c2 : W0.cell? ⟨w.heap.size + 1, 2, none⟩ = some (.slice none 0 0) := cCc hXx 2
  have c3 : W0.cell? ⟨w.heap.size + 1, 3, none⟩ = some (.int .i64 0) := cCc hXx 3
  have c4 : W0.cell? ⟨w.heap.size + 1, 4, none⟩ = some (.string ⟨#[]⟩) := cCc hXx 4
  have c5 : W0.cell? ⟨w.heap.size + 1, 5, none⟩ = some (.int .i64 0) := cCc hXx 5
  have c6 : W0.cell? ⟨w.heap.size + 1, 6, none⟩ = some (.int .i64 0) := cCc hXx 6
  have c7 : W0.cell? ⟨w.heap.size + 1, 7, none⟩ = some (.slice none 0 0) := cCc hXx 7
  have c8 : W0.cell? ⟨w.heap.size + 1, 8, none⟩ = some (.int .i64 0) := cCc hXx 8
  have c9 : W0.cell? ⟨w.heap.size + 1, 9, none⟩ = some (.slice none 0 0) := cCc hXx 9
  have f0 : W0.frozen? ⟨w.heap.size + 1, 0, none⟩ = false := cFz hXx 0
  have f1 : W0.frozen? ⟨w.heap.size + 1, 1, none⟩ = false := cFz hXx 1
  have f2 : W0.frozen? ⟨w.heap.size + 1, 2, none⟩ = false := cFz hXx 2
  have f3 : W0.frozen? ⟨w.heap.size + 1, 3, none⟩ = false := cFz hXx 3
  have f4 : W0.frozen? ⟨w.heap.size + 1, 4, none⟩ = false := cFz hXx 4
  have f5 : W0.frozen? ⟨w.heap.size + 1, 5, none⟩ = false := cFz hXx 5
  have f6 : W0.frozen? ⟨w.heap.size + 1, 6, none⟩ = false := cFz hXx 6
  have f7 : W0.frozen? ⟨w.heap.size + 1, 7, none⟩ = false := cFz hXx 7
  have f8 : W0.frozen? ⟨w.heap.size + 1, 8, none⟩ = false := cFz hXx 8
  have f9 : W0.frozen? ⟨w.heap.size + 1, 9, none⟩ = false := cFz hXx 9
  have e1 : W0.setCell ⟨w.heap.size + 1, 1, none⟩ (.int .i64 0) = W0 := set_same hXx rfl
  have e2 : W0.setCell ⟨w.heap.size + 1, 2, none⟩ (.slice none 0 0) = W0 := set_same hXx rfl
  have e3 : W0.setCell ⟨w.heap.size + 1, 3, none⟩ (.int .i64 0) = W0 := set_same hXx rfl
  have e4 : W0.setCell ⟨w.heap.size + 1, 4, none⟩ (.string ⟨#[]⟩) = W0 := set_same hXx rfl
  have e5 : W0.setCell ⟨w.heap.size + 1, 5, none⟩ (.int .i64 0) = W0 := set_same hXx rfl
  have e6 : W0.setCell ⟨w.heap.size + 1, 6, none⟩ (.int .i64 0) = W0 := set_same hXx rfl
  have e7 : W0.setCell ⟨w.heap.size + 1, 7, none⟩ (.slice none 0 0) = W0 := set_same hXx rfl
  have e8 : W0.setCell ⟨w.heap.size + 1, 8, none⟩ (.int .i64 0) = W0 := set_same hXx rfl
  have e9 : W0.setCell ⟨w.heap.size + 1, 9, none⟩ (.slice none 0 0) = W0 := set_same hXx rfl
  have r0 : W0.cell? ⟨w.heap.size, 0, none⟩ = some (.int .i64 0) := cCc hXr 0
  have r1 : W0.cell? ⟨w.heap.size, 1, none⟩ = some (.int .i64 0) := cCc hXr 1
  have r2 : W0.cell? ⟨w.heap.size, 2, none⟩ = some (.slice none 0 0) := cCc hXr 2
  have r3 : W0.cell? ⟨w.heap.size, 3, none⟩ = some (.int .i64 0) := cCc hXr 3
  have r4 : W0.cell? ⟨w.heap.size, 4, none⟩ = some (.string ⟨#[]⟩) := cCc hXr 4
  have r5 : W0.cell? ⟨w.heap.size, 5, none⟩ = some (.int .i64 0) := cCc hXr 5
  have r6 : W0.cell? ⟨w.heap.size, 6, none⟩ = some (.int .i64 0) := cCc hXr 6
  have r7 : W0.cell? ⟨w.heap.size, 7, none⟩ = some (.slice none 0 0) := cCc hXr 7
  have r8 : W0.cell? ⟨w.heap.size, 8, none⟩ = some (.int .i64 0) := cCc hXr 8
  have r9 : W0.cell? ⟨w.heap.size, 9, none⟩ = some (.slice none 0 0) := cCc hXr 9
  have g0 : W0.frozen? ⟨w.heap.size, 0, none⟩ = false := cFz hXr 0
  have g1 : W0.frozen? ⟨w.heap.size, 1, none⟩ = false := cFz hXr 1
  have g2 : W0.frozen? ⟨w.heap.size, 2, none⟩ = false := cFz hXr 2
  have g3 : W0.frozen? ⟨w.heap.size, 3, none⟩ = false := cFz hXr 3
  have g4 : W0.frozen? ⟨w.heap.size, 4, none⟩ = false := cFz hXr 4
  have g5 : W0.frozen? ⟨w.heap.size, 5, none⟩ = false := cFz hXr 5
  have g6 : W0.frozen? ⟨w.heap.size, 6, none⟩ = false := cFz hXr 6
  have g7 : W0.frozen? ⟨w.heap.size, 7, none⟩ = false := cFz hXr 7
  have g8 : W0.frozen? ⟨w.heap.size, 8, none⟩ = false := cFz hXr 8
  have g9 : W0.frozen? ⟨w.heap.size, 9, none⟩ = false := cFz hXr 9
  obtain ⟨V, hV, hVX, hVO, hVB⟩ := store10 (.int .i64 1) (.int .i64 0) (.slice none 0 0) (.int .i64 0) (.string ⟨#[]⟩) (.int .i64 0) (.int .i64 0) (.slice none 0 0) (.int .i64 0) (.slice none 0 0) hXr
  have k0 : V.cell? ⟨w.heap.size, 0, none⟩ = some (.int .i64 1) := cCc hVX 0
  have k1 : V.cell? ⟨w.heap.size, 1, none⟩ = some (.int .i64 0) := cCc hVX 1
  have k2 : V.cell? ⟨w.heap.size, 2, none⟩ = some (.slice none 0 0) := cCc hVX 2
  have k3 : V.cell? ⟨w.heap.size, 3, none⟩ = some (.int .i64 0) := cCc hVX 3
  have k4 : V.cell? ⟨w.heap.size, 4, none⟩ = some (.string ⟨#[]⟩) := cCc hVX 4
  have k5 : V.cell? ⟨w.heap.size, 5, none⟩ = some (.int .i64 0) := cCc hVX 5
  have k6 : V.cell? ⟨w.heap.size, 6, none⟩ = some (.int .i64 0) := cCc hVX 6
  have k7 : V.cell? ⟨w.heap.size, 7, none⟩ = some (.slice none 0 0) := cCc hVX 7
  have k8 : V.cell? ⟨w.heap.size, 8, none⟩ = some (.int .i64 0) := cCc hVX 8
  have k9 : V.cell? ⟨w.heap.size, 9, none⟩ = some (.slice none 0 0) := cCc hVX 9
  have HBV : Hid (Below w.heap.size w V) := hVB _ _ hB0 (Nat.le_refl _)
  clear hXr hXx hVX hVO hVB hB0
  go_enter Tryz.func27, Tryz.ntmps27
  go_wp2_with fail
  exact bodyPost_ret (v := .tuple #[.agg #[.int .i64 1, .int .i64 0, .slice none 0 0, .int .i64 0, .string ⟨#[]⟩, .int .i64 0, .int .i64 0, .slice none 0 0, .int .i64 0, .slice none 0 0], .int .i64 0]) (by simp [results, Tryz.f27, go_sem, k0, k1, k2, k3, k4, k5, k6, k7, k8, k9]) rfl ⟨_, rfl, ⟨_, ⟨none, 0, 0, none, 0, 0, none, 0, 0⟩, rfl, rfl, slC_nil, slC_nil, slC_nil⟩, HBV.out⟩
set_option maxRecDepth 100000 in
set_option maxHeartbeats 1000000 in
theorem New_3 (w : World) : Calls Tryz.prog 27 #[.int .i64 3] w fun e w' => ∃ x, e = .returned (.tuple #[x, .int .i64 0]) ∧ SkB w' x 3 0 (bdNew 3) ∧ Below w.heap.size w w' := by
  obtain ⟨W0, hW0, hXr, hXx, hB0, hs0⟩ := boxes2 w #[.int .i64 0, .int .i64 0, .slice none 0 0, .int .i64 0, .string ⟨#[]⟩, .int .i64 0, .int .i64 0, .slice none 0 0, .int .i64 0, .slice none 0 0] 33 #[.int .i64 3, .int .i64 0, .slice none 0 0, .int .i64 0, .string ⟨#[]⟩, .int .i64 0, .int .i64 0, .slice none 0 0, .int .i64 0, .slice none 0 0] 33
  have c0 : W0.cell? ⟨w.heap.size + 1, 0, none⟩ = some (.int .i64 3) := cCc hXx 0
  have c1 : W0.cell? ⟨w.heap.size + 1, 1, none⟩ = some (.int .i64 0) := cCc hXx 1
  have c2 : W0.cell? ⟨w.heap.size + 1, 2, none⟩ = some (.slice none 0 0) := cCc hXx 2
  have c3 : W0.cell? ⟨w.heap.size + 1, 3, none⟩ = some (.int .i64 0) := cCc hXx 3
  have c4 : W0.cell? ⟨w.heap.size + 1, 4, none⟩ = some (.string ⟨#[]⟩) := cCc hXx 4
  have c5 : W0.cell? ⟨w.heap.size + 1, 5, none⟩ = some (.int .i64 0) := cCc hXx 5
  have c6 : W0.cell? ⟨w.heap.size + 1, 6, none⟩ = some (.int .i64 0) := cCc hXx 6
  have c7 : W0.cell? ⟨w.heap.size + 1, 7, none⟩ = some (.slice none 0 0) := cCc hXx 7
  have c8 : W0.cell? ⟨w.heap.size + 1, 8, none⟩ = some (.int .i64 0) := cCc hXx 8
  have c9 : W0.cell? ⟨w.heap.size + 1, 9, none⟩ = some (.slice none 0 0) := cCc hXx 9
  have f0 : W0.frozen? ⟨w.heap.size + 1, 0, none⟩ = false := cFz hXx 0
  have f1 : W0.frozen? ⟨w.heap.size + 1, 1, none⟩ = false := cFz hXx 1
  have f2 : W0.frozen? ⟨w.heap.size + 1, 2, none⟩ = false := cFz hXx 2
  have f3 : W0.frozen? ⟨w.heap.size + 1, 3, none⟩ = false := cFz hXx 3
  have f4 : W0.frozen? ⟨w.heap.size + 1, 4, none⟩ = false := cFz hXx 4
  have f5 : W0.frozen? ⟨w.heap.size + 1, 5, none⟩ = false := cFz hXx 5
  have f6 : W0.frozen? ⟨w.heap.size + 1, 6, none⟩ = false := cFz hXx 6
  have f7 : W0.frozen? ⟨w.heap.size + 1, 7, none⟩ = false := cFz hXx 7
  have f8 : W0.frozen? ⟨w.heap.size + 1, 8, none⟩ = false := cFz hXx 8
  have f9 : W0.frozen? ⟨w.heap.size + 1, 9, none⟩ = false := cFz hXx 9
  have e1 : W0.setCell ⟨w.heap.size + 1, 1, none⟩ (.int .i64 0) = W0 := set_same hXx rfl
  have e2 : W0.setCell ⟨w.heap.size + 1, 2, none⟩ (.slice none 0 0) = W0 := set_same hXx rfl
  have e3 : W0.setCell ⟨w.heap.size + 1, 3, none⟩ (.int .i64 0) = W0 := set_same hXx rfl
  have e4 : W0.setCell ⟨w.heap.size + 1, 4, none⟩ (.string ⟨#[]⟩) = W0 := set_same hXx rfl
  have e5 : W0.setCell ⟨w.heap.size + 1, 5, none⟩ (.int .i64 0) = W0 := set_same hXx rfl
  have e6 : W0.setCell ⟨w.heap.size + 1, 6, none⟩ (.int .i64 0) = W0 := set_same hXx rfl
  have e7 : W0.setCell ⟨w.heap.size + 1, 7, none⟩ (.slice none 0 0) = W0 := set_same hXx rfl
  have e8 : W0.setCell ⟨w.heap.size + 1, 8, none⟩ (.int .i64 0) = W0 := set_same hXx rfl
  have e9 : W0.setCell ⟨w.heap.size + 1, 9, none⟩ (.slice none 0 0) = W0 := set_same hXx rfl
  obtain ⟨W1, hW1⟩ : ∃ W1, W0.setCell ⟨w.heap.size + 1, 8, none⟩ (.int .i64 3) = W1 := ⟨_, rfl⟩
  have hX1 : W1.heap[w.heap.size + 1]? = some (.cells #[.int .i64 3, .int .i64 0, .slice none 0 0, .int .i64 0, .string ⟨#[]⟩, .int .i64 0, .int .i64 0, .slice none 0 0, .int .i64 3, .slice none 0 0] 33 (0, 0)) := by rw [← hW1]; exact hSk hXx (.int .i64 3)
  replace hXr : W1.heap[w.heap.size]? = some (.cells #[.int .i64 0, .int .i64 0, .slice none 0 0, .int .i64 0, .string ⟨#[]⟩, .int .i64 0, .int .i64 0, .slice none 0 0, .int .i64 0, .slice none 0 0] 33 (0, 0)) := by rw [← hW1]; exact (heap_set_other (p := ⟨w.heap.size + 1, 8, none⟩) (by show w.heap.size + 1 ≠ w.heap.size; omega) _).trans hXr
  have hB1 : Below w.heap.size w W1 := by rw [← hW1]; exact hB0.setCell (p := ⟨w.heap.size + 1, 8, none⟩) (Nat.le_succ _) _
  have x0 : W1.cell? ⟨w.heap.size + 1, 0, none⟩ = some (.int .i64 3) := cCc hX1 0
  have x1 : W1.cell? ⟨w.heap.size + 1, 1, none⟩ = some (.int .i64 0) := cCc hX1 1
  have x2 : W1.cell? ⟨w.heap.size + 1, 2, none⟩ = some (.slice none 0 0) := cCc hX1 2
  have x3 : W1.cell? ⟨w.heap.size + 1, 3, none⟩ = some (.int .i64 0) := cCc hX1 3
  have x4 : W1.cell? ⟨w.heap.size + 1, 4, none⟩ = some (.string ⟨#[]⟩) := cCc hX1 4
  have x5 : W1.cell? ⟨w.heap.size + 1, 5, none⟩ = some (.int .i64 0) := cCc hX1 5
  have x6 : W1.cell? ⟨w.heap.size + 1, 6, none⟩ = some (.int .i64 0) := cCc hX1 6
  have x7 : W1.cell? ⟨w.heap.size + 1, 7, none⟩ = some (.slice none 0 0) := cCc hX1 7
  have x8 : W1.cell? ⟨w.heap.size + 1, 8, none⟩ = some (.int .i64 3) := cCc hX1 8
  have x9 : W1.cell? ⟨w.heap.size + 1, 9, none⟩ = some (.slice none 0 0) := cCc hX1 9
  have r0 : W1.cell? ⟨w.heap.size, 0, none⟩ = some (.int .i64 0) := cCc hXr 0
  have r1 : W1.cell? ⟨w.heap.size, 1, none⟩ = some (.int .i64 0) := cCc hXr 1
  have r2 : W1.cell? ⟨w.heap.size, 2, none⟩ = some (.slice none 0 0) := cCc hXr 2
  have r3 : W1.cell? ⟨w.heap.size, 3, none⟩ = some (.int .i64 0) := cCc hXr 3
  have r4 : W1.cell? ⟨w.heap.size, 4, none⟩ = some (.string ⟨#[]⟩) := cCc hXr 4
  have r5 : W1.cell? ⟨w.heap.size, 5, none⟩ = some (.int .i64 0) := cCc hXr 5
  have r6 : W1.cell? ⟨w.heap.size, 6, none⟩ = some (.int .i64 0) := cCc hXr 6
  have r7 : W1.cell? ⟨w.heap.size, 7, none⟩ = some (.slice none 0 0) := cCc hXr 7
  have r8 : W1.cell? ⟨w.heap.size, 8, none⟩ = some (.int .i64 0) := cCc hXr 8
  have r9 : W1.cell? ⟨w.heap.size, 9, none⟩ = some (.slice none 0 0) := cCc hXr 9
  have g0 : W1.frozen? ⟨w.heap.size, 0, none⟩ = false := cFz hXr 0
  have g1 : W1.frozen? ⟨w.heap.size, 1, none⟩ = false := cFz hXr 1
  have g2 : W1.frozen? ⟨w.heap.size, 2, none⟩ = false := cFz hXr 2
  have g3 : W1.frozen? ⟨w.heap.size, 3, none⟩ = false := cFz hXr 3
  have g4 : W1.frozen? ⟨w.heap.size, 4, none⟩ = false := cFz hXr 4
  have g5 : W1.frozen? ⟨w.heap.size, 5, none⟩ = false := cFz hXr 5
  have g6 : W1.frozen? ⟨w.heap.size, 6, none⟩ = false := cFz hXr 6
  have g7 : W1.frozen? ⟨w.heap.size, 7, none⟩ = false := cFz hXr 7
  have g8 : W1.frozen? ⟨w.heap.size, 8, none⟩ = false := cFz hXr 8
  have g9 : W1.frozen? ⟨w.heap.size, 9, none⟩ = false := cFz hXr 9
  obtain ⟨V, hV, hVX, hVO, hVB⟩ := store10 (.int .i64 3) (.int .i64 0) (.slice none 0 0) (.int .i64 0) (.string ⟨#[]⟩) (.int .i64 0) (.int .i64 0) (.slice none 0 0) (.int .i64 3) (.slice none 0 0) hXr
  have k0 : V.cell? ⟨w.heap.size, 0, none⟩ = some (.int .i64 3) := cCc hVX 0
  have k1 : V.cell? ⟨w.heap.size, 1, none⟩ = some (.int .i64 0) := cCc hVX 1
  have k2 : V.cell? ⟨w.heap.size, 2, none⟩ = some (.slice none 0 0) := cCc hVX 2
  have k3 : V.cell? ⟨w.heap.size, 3, none⟩ = some (.int .i64 0) := cCc hVX 3
  have k4 : V.cell? ⟨w.heap.size, 4, none⟩ = some (.string ⟨#[]⟩) := cCc hVX 4
  have k5 : V.cell? ⟨w.heap.size, 5, none⟩ = some (.int .i64 0) := cCc hVX 5
  have k6 : V.cell? ⟨w.heap.size, 6, none⟩ = some (.int .i64 0) := cCc hVX 6
  have k7 : V.cell? ⟨w.heap.size, 7, none⟩ = some (.slice none 0 0) := cCc hVX 7
  have k8 : V.cell? ⟨w.heap.size, 8, none⟩ = some (.int .i64 3) := cCc hVX 8
  have k9 : V.cell? ⟨w.heap.size, 9, none⟩ = some (.slice none 0 0) := cCc hVX 9
  have HBV : Hid (Below w.heap.size w V) := hVB _ _ hB1 (Nat.le_refl _)
  clear hXr hXx hX1 hVX hVO hVB hB0 hB1
  go_enter Tryz.func27, Tryz.ntmps27
  go_wp2_with fail
  exact bodyPost_ret (v := .tuple #[.agg #[.int .i64 3, .int .i64 0, .slice none 0 0, .int .i64 0, .string ⟨#[]⟩, .int .i64 0, .int .i64 0, .slice none 0 0, .int .i64 3, .slice none 0 0], .int .i64 0]) (by simp [results, Tryz.f27, go_sem, k0, k1, k2, k3, k4, k5, k6, k7, k8, k9]) rfl ⟨_, rfl, ⟨_, ⟨none, 0, 0, none, 0, 0, none, 0, 0⟩, rfl, rfl, slC_nil, slC_nil, slC_nil⟩, HBV.out⟩
theorem noU_zero2 {i : Nat} (u : Int) : (#[.int .i64 2, .int .i64 0, .slice none 0 0, .int .i64 0, .string ⟨#[]⟩, .int .i64 0, .int .i64 0, .slice none 0 0, .int .i64 0, .slice none 0 0] : Array Value)[i]? ≠ some (.int .u64 u) := by
  intro h
  rcases i with _ | _ | _ | _ | _ | _ | _ | _ | _ | _ | i <;> simp at h
set_option maxRecDepth 100000 in
set_option maxHeartbeats 1000000 in
theorem New_2 (w : World) : Calls Tryz.prog 27 #[.int .i64 2] w fun e w' => ∃ x, e = .returned (.tuple #[x, .int .i64 0]) ∧ SkB w' x 2 0 (bdNew 2) ∧ Below w.heap.size w w' := by
  obtain ⟨W0, hW0, hXr, hXx, hB0, hs0⟩ := boxes2 w #[.int .i64 0, .int .i64 0, .slice none 0 0, .int .i64 0, .string ⟨#[]⟩, .int .i64 0, .int .i64 0, .slice none 0 0, .int .i64 0, .slice none 0 0] 33 #[.int .i64 2, .int .i64 0, .slice none 0 0, .int .i64 0, .string ⟨#[]⟩, .int .i64 0, .int .i64 0, .slice none 0 0, .int .i64 0, .slice none 0 0] 33
  have c0 : W0.cell? ⟨w.heap.size + 1, 0, none⟩ = some (.int .i64 2) := cCc hXx 0
  have c1 : W0.cell? ⟨w.heap.size + 1, 1, none⟩ = some (.int .i64 0) := cCc hXx 1
  have c2 : W0.cell? ⟨w.heap.size + 1, 2, none⟩ = some (.slice none 0 0) := cCc hXx 2
  have c3 : W0.cell? ⟨w.heap.size + 1, 3, none⟩ = some (.int .i64 0) := cCc hXx 3
  have c4 : W0.cell? ⟨w.heap.size + 1, 4, none⟩ = some (.string ⟨#[]⟩) := cCc hXx 4
  have c5 : W0.cell? ⟨w.heap.size + 1, 5, none⟩ = some (.int .i64 0) := cCc hXx 5
  have c6 : W0.cell? ⟨w.heap.size + 1, 6, none⟩ = some (.int .i64 0) := cCc hXx 6
  have c7 : W0.cell? ⟨w.heap.size + 1, 7, none⟩ = some (.slice none 0 0) := cCc hXx 7
  have c8 : W0.cell? ⟨w.heap.size + 1, 8, none⟩ = some (.int .i64 0) := cCc hXx 8
  have c9 : W0.cell? ⟨w.heap.size + 1, 9, none⟩ = some (.slice none 0 0) := cCc hXx 9
  have f0 : W0.frozen? ⟨w.heap.size + 1, 0, none⟩ = false := cFz hXx 0
  have f1 : W0.frozen? ⟨w.heap.size + 1, 1, none⟩ = false := cFz hXx 1
  have f2 : W0.frozen? ⟨w.heap.size + 1, 2, none⟩ = false := cFz hXx 2
  have f3 : W0.frozen? ⟨w.heap.size + 1, 3, none⟩ = false := cFz hXx 3
  have f4 : W0.frozen? ⟨w.heap.size + 1, 4, none⟩ = false := cFz hXx 4
  have f5 : W0.frozen? ⟨w.heap.size + 1, 5, none⟩ = false := cFz hXx 5
  have f6 : W0.frozen? ⟨w.heap.size + 1, 6, none⟩ = false := cFz hXx 6
  have f7 : W0.frozen? ⟨w.heap.size + 1, 7, none⟩ = false := cFz hXx 7
  have f8 : W0.frozen? ⟨w.heap.size + 1, 8, none⟩ = false := cFz hXx 8
  have f9 : W0.frozen? ⟨w.heap.size + 1, 9, none⟩ = false := cFz hXx 9
  have e1 : W0.setCell ⟨w.heap.size + 1, 1, none⟩ (.int .i64 0) = W0 := set_same hXx rfl
  have e2 : W0.setCell ⟨w.heap.size + 1, 2, none⟩ (.slice none 0 0) = W0 := set_same hXx rfl
  have e3 : W0.setCell ⟨w.heap.size + 1, 3, none⟩ (.int .i64 0) = W0 := set_same hXx rfl
  have e4 : W0.setCell ⟨w.heap.size + 1, 4, none⟩ (.string ⟨#[]⟩) = W0 := set_same hXx rfl
  have e5 : W0.setCell ⟨w.heap.size + 1, 5, none⟩ (.int .i64 0) = W0 := set_same hXx rfl
  have e6 : W0.setCell ⟨w.heap.size + 1, 6, none⟩ (.int .i64 0) = W0 := set_same hXx rfl
  have e7 : W0.setCell ⟨w.heap.size + 1, 7, none⟩ (.slice none 0 0) = W0 := set_same hXx rfl
  have e8 : W0.setCell ⟨w.heap.size + 1, 8, none⟩ (.int .i64 0) = W0 := set_same hXx rfl
  have e9 : W0.setCell ⟨w.heap.size + 1, 9, none⟩ (.slice none 0 0) = W0 := set_same hXx rfl
  have HC := Lib.hid (cNew_any W0)
  have HXr := Lib.hid hXr
  have HXx := Lib.hid hXx
  have HB0 := Lib.hid hB0
  clear hXr hXx hB0
  go_enter Tryz.func27, Tryz.ntmps27
  go_wp2_with fail
  refine HC.out.mono ?_
  rintro e w1 ⟨g, rfl, hN, hg, hb1⟩
  have hXx := known hb1 (Nat.le_refl _) HXx.out
  have hXr := known hb1 (Nat.le_refl _) HXr.out
  have x0 : w1.cell? ⟨w.heap.size + 1, 0, none⟩ = some (.int .i64 2) := cCc hXx 0
  have x1 : w1.cell? ⟨w.heap.size + 1, 1, none⟩ = some (.int .i64 0) := cCc hXx 1
  have x2 : w1.cell? ⟨w.heap.size + 1, 2, none⟩ = some (.slice none 0 0) := cCc hXx 2
  have x3 : w1.cell? ⟨w.heap.size + 1, 3, none⟩ = some (.int .i64 0) := cCc hXx 3
  have x4 : w1.cell? ⟨w.heap.size + 1, 4, none⟩ = some (.string ⟨#[]⟩) := cCc hXx 4
  have x5 : w1.cell? ⟨w.heap.size + 1, 5, none⟩ = some (.int .i64 0) := cCc hXx 5
  have x6 : w1.cell? ⟨w.heap.size + 1, 6, none⟩ = some (.int .i64 0) := cCc hXx 6
  have x7 : w1.cell? ⟨w.heap.size + 1, 7, none⟩ = some (.slice none 0 0) := cCc hXx 7
  have x8 : w1.cell? ⟨w.heap.size + 1, 8, none⟩ = some (.int .i64 0) := cCc hXx 8
  have x9 : w1.cell? ⟨w.heap.size + 1, 9, none⟩ = some (.slice none 0 0) := cCc hXx 9
  have y0 : w1.frozen? ⟨w.heap.size + 1, 0, none⟩ = false := cFz hXx 0
  have y1 : w1.frozen? ⟨w.heap.size + 1, 1, none⟩ = false := cFz hXx 1
  have y2 : w1.frozen? ⟨w.heap.size + 1, 2, none⟩ = false := cFz hXx 2
  have y3 : w1.frozen? ⟨w.heap.size + 1, 3, none⟩ = false := cFz hXx 3
  have y4 : w1.frozen? ⟨w.heap.size + 1, 4, none⟩ = false := cFz hXx 4
  have y5 : w1.frozen? ⟨w.heap.size + 1, 5, none⟩ = false := cFz hXx 5
  have y6 : w1.frozen? ⟨w.heap.size + 1, 6, none⟩ = false := cFz hXx 6
  have y7 : w1.frozen? ⟨w.heap.size + 1, 7, none⟩ = false := cFz hXx 7
  have y8 : w1.frozen? ⟨w.heap.size + 1, 8, none⟩ = false := cFz hXx 8
  have y9 : w1.frozen? ⟨w.heap.size + 1, 9, none⟩ = false := cFz hXx 9
  obtain ⟨W1, hW1⟩ : ∃ W1, ((w1.setCell ⟨w.heap.size + 1, 5, none⟩ (.int .i64 2)).setCell ⟨w.heap.size + 1, 6, none⟩ (.int .i64 32)).setCell ⟨w.heap.size + 1, 7, none⟩ (.slice (some ⟨g, 0, none⟩) 64 64) = W1 := ⟨_, rfl⟩
  have hX1 : W1.heap[w.heap.size + 1]? = some (.cells #[.int .i64 2, .int .i64 0, .slice none 0 0, .int .i64 0, .string ⟨#[]⟩, .int .i64 2, .int .i64 32, .slice (some ⟨g, 0, none⟩) 64 64, .int .i64 0, .slice none 0 0] 33 (0, 0)) := by rw [← hW1]; exact hSk (hSk (hSk hXx (.int .i64 2)) (.int .i64 32)) (.slice (some ⟨g, 0, none⟩) 64 64)
  have hO1 : OnlyAt (w.heap.size + 1) w1 W1 := by rw [← hW1]; exact (((OnlyAt.refl _ _).set _ _).set _ _).set _ _
  have hB1 : Below w.heap.size w W1 := by rw [← hW1]; exact (((HB0.out.trans (hb1.mono HB0.out.size)).setCell (p := ⟨w.heap.size + 1, 5, none⟩) (Nat.le_succ _) _).setCell (p := ⟨w.heap.size + 1, 6, none⟩) (Nat.le_succ _) _).setCell (p := ⟨w.heap.size + 1, 7, none⟩) (Nat.le_succ _) _
  replace hXr := (hO1.2 w.heap.size (by omega)).trans hXr
  have hS : SlC encU 1 w1.heap.size w1 (some ⟨g, 0, none⟩) 64 64 (List.replicate 64 0) := nums_slC hN (by simp) (by unfold maxLen; omega)
  replace hS : SlC encU 1 W1.heap.size W1 (some ⟨g, 0, none⟩) 64 64 (List.replicate 64 0) := slC_apart (i0 := 0) (by decide) (fun x => ⟨x, rfl⟩) hXx (fun i u => noU_zero2 u) hO1 hS
  have z0 : W1.cell? ⟨w.heap.size + 1, 0, none⟩ = some (.int .i64 2) := cCc hX1 0
  have z1 : W1.cell? ⟨w.heap.size + 1, 1, none⟩ = some (.int .i64 0) := cCc hX1 1
  have z2 : W1.cell? ⟨w.heap.size + 1, 2, none⟩ = some (.slice none 0 0) := cCc hX1 2
  have z3 : W1.cell? ⟨w.heap.size + 1, 3, none⟩ = some (.int .i64 0) := cCc hX1 3
  have z4 : W1.cell? ⟨w.heap.size + 1, 4, none⟩ = some (.string ⟨#[]⟩) := cCc hX1 4
  have z5 : W1.cell? ⟨w.heap.size + 1, 5, none⟩ = some (.int .i64 2) := cCc hX1 5
  have z6 : W1.cell? ⟨w.heap.size + 1, 6, none⟩ = some (.int .i64 32) := cCc hX1 6
  have z7 : W1.cell? ⟨w.heap.size + 1, 7, none⟩ = some (.slice (some ⟨g, 0, none⟩) 64 64) := cCc hX1 7
  have z8 : W1.cell? ⟨w.heap.size + 1, 8, none⟩ = some (.int .i64 0) := cCc hX1 8
  have z9 : W1.cell? ⟨w.heap.size + 1, 9, none⟩ = some (.slice none 0 0) := cCc hX1 9
  have r0 : W1.cell? ⟨w.heap.size, 0, none⟩ = some (.int .i64 0) := cCc hXr 0
  have r1 : W1.cell? ⟨w.heap.size, 1, none⟩ = some (.int .i64 0) := cCc hXr 1
  have r2 : W1.cell? ⟨w.heap.size, 2, none⟩ = some (.slice none 0 0) := cCc hXr 2
  have r3 : W1.cell? ⟨w.heap.size, 3, none⟩ = some (.int .i64 0) := cCc hXr 3
  have r4 : W1.cell? ⟨w.heap.size, 4, none⟩ = some (.string ⟨#[]⟩) := cCc hXr 4
  have r5 : W1.cell? ⟨w.heap.size, 5, none⟩ = some (.int .i64 0) := cCc hXr 5
  have r6 : W1.cell? ⟨w.heap.size, 6, none⟩ = some (.int .i64 0) := cCc hXr 6
  have r7 : W1.cell? ⟨w.heap.size, 7, none⟩ = some (.slice none 0 0) := cCc hXr 7
  have r8 : W1.cell? ⟨w.heap.size, 8, none⟩ = some (.int .i64 0) := cCc hXr 8
  have r9 : W1.cell? ⟨w.heap.size, 9, none⟩ = some (.slice none 0 0) := cCc hXr 9
  have g0 : W1.frozen? ⟨w.heap.size, 0, none⟩ = false := cFz hXr 0
  have g1 : W1.frozen? ⟨w.heap.size, 1, none⟩ = false := cFz hXr 1
  have g2 : W1.frozen? ⟨w.heap.size, 2, none⟩ = false := cFz hXr 2
  have g3 : W1.frozen? ⟨w.heap.size, 3, none⟩ = false := cFz hXr 3
  have g4 : W1.frozen? ⟨w.heap.size, 4, none⟩ = false := cFz hXr 4
  have g5 : W1.frozen? ⟨w.heap.size, 5, none⟩ = false := cFz hXr 5
  have g6 : W1.frozen? ⟨w.heap.size, 6, none⟩ = false := cFz hXr 6
  have g7 : W1.frozen? ⟨w.heap.size, 7, none⟩ = false := cFz hXr 7
  have g8 : W1.frozen? ⟨w.heap.size, 8, none⟩ = false := cFz hXr 8
  have g9 : W1.frozen? ⟨w.heap.size, 9, none⟩ = false := cFz hXr 9
  obtain ⟨V, hV, hVX, hVO, hVB⟩ := store10 (.int .i64 2) (.int .i64 0) (.slice none 0 0) (.int .i64 0) (.string ⟨#[]⟩) (.int .i64 2) (.int .i64 32) (.slice (some ⟨g, 0, none⟩) 64 64) (.int .i64 0) (.slice none 0 0) hXr
  have k0 : V.cell? ⟨w.heap.size, 0, none⟩ = some (.int .i64 2) := cCc hVX 0
  have k1 : V.cell? ⟨w.heap.size, 1, none⟩ = some (.int .i64 0) := cCc hVX 1
  have k2 : V.cell? ⟨w.heap.size, 2, none⟩ = some (.slice none 0 0) := cCc hVX 2
  have k3 : V.cell? ⟨w.heap.size, 3, none⟩ = some (.int .i64 0) := cCc hVX 3
  have k4 : V.cell? ⟨w.heap.size, 4, none⟩ = some (.string ⟨#[]⟩) := cCc hVX 4
  have k5 : V.cell? ⟨w.heap.size, 5, none⟩ = some (.int .i64 2) := cCc hVX 5
  have k6 : V.cell? ⟨w.heap.size, 6, none⟩ = some (.int .i64 32) := cCc hVX 6
  have k7 : V.cell? ⟨w.heap.size, 7, none⟩ = some (.slice (some ⟨g, 0, none⟩) 64 64) := cCc hVX 7
  have k8 : V.cell? ⟨w.heap.size, 8, none⟩ = some (.int .i64 0) := cCc hVX 8
  have k9 : V.cell? ⟨w.heap.size, 9, none⟩ = some (.slice none 0 0) := cCc hVX 9
  have HBV : Hid (Below w.heap.size w V) := hVB _ _ hB1 (Nat.le_refl _)
  have HSV : Hid (SlC encU 1 V.heap.size V (some ⟨g, 0, none⟩) 64 64 (List.replicate 64 0)) := slC_apart (i0 := 0) (by decide) (fun x => ⟨x, rfl⟩) hXr (fun i u => noU_zero u) hVO hS
  clear hN hg hXr hXx hX1 hVX hVO hVB hB1 hO1 hS hb1
  go_wp2_with fail
  exact bodyPost_ret (v := .tuple #[.agg #[.int .i64 2, .int .i64 0, .slice none 0 0, .int .i64 0, .string ⟨#[]⟩, .int .i64 2, .int .i64 32, .slice (some ⟨g, 0, none⟩) 64 64, .int .i64 0, .slice none 0 0], .int .i64 0]) (by simp [results, Tryz.f27, go_sem, k0, k1, k2, k3, k4, k5, k6, k7, k8, k9]) rfl ⟨_, rfl, ⟨_, ⟨none, 0, 0, some ⟨g, 0, none⟩, 64, 64, none, 0, 0⟩, rfl, rfl, slC_nil, HSV.out, slC_nil⟩, HBV.out⟩
end Go.Proofs.YtpnlmfilmbodfaaGreatDoor
namespace Go.Proofs.YtpnlmfilmbodfaaGreatDoor
open Go Go.RowKit Go.Shelf
theorem New_any (k : Nat) (hk : k = 1 ∨ k = 2 ∨ k = 3) (w : World) : Calls Tryz.prog 27 #[.int .i64 k] w fun e w' => ∃ x, e = .returned (.tuple #[x, .int .i64 0]) ∧ SkB w' x k 0 (bdNew k) ∧ Below w.heap.size w w' := by
  rcases hk with rfl | rfl | rfl
  · exact New_1 w
  · exact New_2 w
  · exact New_3 w
end Go.Proofs.YtpnlmfilmbodfaaGreatDoor

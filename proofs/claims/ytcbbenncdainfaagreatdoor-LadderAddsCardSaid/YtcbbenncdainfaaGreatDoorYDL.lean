/- The reference of layer 10: New, Lower, To, at any sketch. Printed by gen_dl.py. -/
import Derived.Test.YtcbbenncdainfaaGreatDoorYDK
import Derived.Test.YtcbbenncdainfaaGreatDoorYLIM
import Derived.Test.YtcbbenncdainfaaGreatDoorYRT
namespace Go.Proofs.YtcbbenncdainfaaGreatDoor
open Go Go.RowKit Go.Shelf
set_option maxRecDepth 100000 in
set_option maxHeartbeats 1000000 in
theorem ref10_New_1 (w : World) : Calls Tryz.prog 18 #[.int .i64 1] w fun e w' => ∃ x, e = .returned (.tuple #[x, .int .i64 0]) ∧ SkB w' x 1 0 (bdNew 1) ∧ Below w.heap.size w w' := by
 obtain ⟨W0, hW0, hXr, hXx, hB0, hs0⟩ := boxes2 w #[.int .i64 0, .int .i64 0, .slice none 0 0, .int .i64 0, .string ⟨#[]⟩, .int .i64 0, .int .i64 0, .slice none 0 0, .int .i64 0, .slice none 0 0] 33 #[.int .i64 1, .int .i64 0, .slice none 0 0, .int .i64 0, .string ⟨#[]⟩, .int .i64 0, .int .i64 0, .slice none 0 0, .int .i64 0, .slice none 0 0] 33
 obtain ⟨c0, c1, c2, c3, c4, c5, c6, c7, c8, c9⟩ := cl10 hXx
 obtain ⟨f0, f1, f2, f3, f4, f5, f6, f7, f8, f9⟩ := cz10 hXx
 have e1 : W0.setCell ⟨w.heap.size + 1, 1, none⟩ (.int .i64 0) = W0 := set_same hXx rfl
 have e2 : W0.setCell ⟨w.heap.size + 1, 2, none⟩ (.slice none 0 0) = W0 := set_same hXx rfl
 have e3 : W0.setCell ⟨w.heap.size + 1, 3, none⟩ (.int .i64 0) = W0 := set_same hXx rfl
 have e4 : W0.setCell ⟨w.heap.size + 1, 4, none⟩ (.string ⟨#[]⟩) = W0 := set_same hXx rfl
 have e5 : W0.setCell ⟨w.heap.size + 1, 5, none⟩ (.int .i64 0) = W0 := set_same hXx rfl
 have e6 : W0.setCell ⟨w.heap.size + 1, 6, none⟩ (.int .i64 0) = W0 := set_same hXx rfl
 have e7 : W0.setCell ⟨w.heap.size + 1, 7, none⟩ (.slice none 0 0) = W0 := set_same hXx rfl
 have e8 : W0.setCell ⟨w.heap.size + 1, 8, none⟩ (.int .i64 0) = W0 := set_same hXx rfl
 have e9 : W0.setCell ⟨w.heap.size + 1, 9, none⟩ (.slice none 0 0) = W0 := set_same hXx rfl
 obtain ⟨r0, r1, r2, r3, r4, r5, r6, r7, r8, r9⟩ := cl10 hXr
 obtain ⟨g0, g1, g2, g3, g4, g5, g6, g7, g8, g9⟩ := cz10 hXr
 obtain ⟨V, hV, hVX, hVO, hVB⟩ := store10 (.int .i64 1) (.int .i64 0) (.slice none 0 0) (.int .i64 0) (.string ⟨#[]⟩) (.int .i64 0) (.int .i64 0) (.slice none 0 0) (.int .i64 0) (.slice none 0 0) hXr
 obtain ⟨k0, k1, k2, k3, k4, k5, k6, k7, k8, k9⟩ := cl10 hVX
 have HBV : Hid (Below w.heap.size w V) := hVB _ _ hB0 (Nat.le_refl _)
 clear hXr hXx hVX hVO hVB hB0
 go_enter Tryz.func18, Tryz.ntmps18
 go_wp2_with fail
 exact bodyPost_ret (v := .tuple #[.agg #[.int .i64 1, .int .i64 0, .slice none 0 0, .int .i64 0, .string ⟨#[]⟩, .int .i64 0, .int .i64 0, .slice none 0 0, .int .i64 0, .slice none 0 0], .int .i64 0]) (by simp [results, Tryz.f18, go_sem, k0, k1, k2, k3, k4, k5, k6, k7, k8, k9]) rfl ⟨_, rfl, ⟨_, ⟨none, 0, 0, none, 0, 0, none, 0, 0⟩, rfl, rfl, slC_nil, slC_nil, slC_nil⟩, HBV.out⟩
set_option maxRecDepth 100000 in
set_option maxHeartbeats 1000000 in
theorem ref10_New_3 (w : World) : Calls Tryz.prog 18 #[.int .i64 3] w fun e w' => ∃ x, e = .returned (.tuple #[x, .int .i64 0]) ∧ SkB w' x 3 0 (bdNew 3) ∧ Below w.heap.size w w' := by
 obtain ⟨W0, hW0, hXr, hXx, hB0, hs0⟩ := boxes2 w #[.int .i64 0, .int .i64 0, .slice none 0 0, .int .i64 0, .string ⟨#[]⟩, .int .i64 0, .int .i64 0, .slice none 0 0, .int .i64 0, .slice none 0 0] 33 #[.int .i64 3, .int .i64 0, .slice none 0 0, .int .i64 0, .string ⟨#[]⟩, .int .i64 0, .int .i64 0, .slice none 0 0, .int .i64 0, .slice none 0 0] 33
 obtain ⟨c0, c1, c2, c3, c4, c5, c6, c7, c8, c9⟩ := cl10 hXx
 obtain ⟨f0, f1, f2, f3, f4, f5, f6, f7, f8, f9⟩ := cz10 hXx
 have e1 : W0.setCell ⟨w.heap.size + 1, 1, none⟩ (.int .i64 0) = W0 := set_same hXx rfl
 have e2 : W0.setCell ⟨w.heap.size + 1, 2, none⟩ (.slice none 0 0) = W0 := set_same hXx rfl
 have e3 : W0.setCell ⟨w.heap.size + 1, 3, none⟩ (.int .i64 0) = W0 := set_same hXx rfl
 have e4 : W0.setCell ⟨w.heap.size + 1, 4, none⟩ (.string ⟨#[]⟩) = W0 := set_same hXx rfl
 have e5 : W0.setCell ⟨w.heap.size + 1, 5, none⟩ (.int .i64 0) = W0 := set_same hXx rfl
 have e6 : W0.setCell ⟨w.heap.size + 1, 6, none⟩ (.int .i64 0) = W0 := set_same hXx rfl
 have e7 : W0.setCell ⟨w.heap.size + 1, 7, none⟩ (.slice none 0 0) = W0 := set_same hXx rfl
 have e8 : W0.setCell ⟨w.heap.size + 1, 8, none⟩ (.int .i64 0) = W0 := set_same hXx rfl
 have e9 : W0.setCell ⟨w.heap.size + 1, 9, none⟩ (.slice none 0 0) = W0 := set_same hXx rfl
 obtain ⟨W1, hW1⟩ : ∃ W1, W0.setCell ⟨w.heap.size + 1, 8, none⟩ (.int .i64 3) = W1 := ⟨_, rfl⟩
 have hX1 : W1.heap[w.heap.size + 1]? = some (.cells #[.int .i64 3, .int .i64 0, .slice none 0 0, .int .i64 0, .string ⟨#[]⟩, .int .i64 0, .int .i64 0, .slice none 0 0, .int .i64 3, .slice none 0 0] 33 (0, 0)) := by rw [← hW1]; exact hSk hXx (.int .i64 3)
 replace hXr : W1.heap[w.heap.size]? = some (.cells #[.int .i64 0, .int .i64 0, .slice none 0 0, .int .i64 0, .string ⟨#[]⟩, .int .i64 0, .int .i64 0, .slice none 0 0, .int .i64 0, .slice none 0 0] 33 (0, 0)) := by rw [← hW1]; exact (heap_set_other (p := ⟨w.heap.size + 1, 8, none⟩) (by show w.heap.size + 1 ≠ w.heap.size; omega) _).trans hXr
 have hB1 : Below w.heap.size w W1 := by rw [← hW1]; exact hB0.setCell (p := ⟨w.heap.size + 1, 8, none⟩) (Nat.le_succ _) _
 obtain ⟨x0, x1, x2, x3, x4, x5, x6, x7, x8, x9⟩ := cl10 hX1
 obtain ⟨r0, r1, r2, r3, r4, r5, r6, r7, r8, r9⟩ := cl10 hXr
 obtain ⟨g0, g1, g2, g3, g4, g5, g6, g7, g8, g9⟩ := cz10 hXr
 obtain ⟨V, hV, hVX, hVO, hVB⟩ := store10 (.int .i64 3) (.int .i64 0) (.slice none 0 0) (.int .i64 0) (.string ⟨#[]⟩) (.int .i64 0) (.int .i64 0) (.slice none 0 0) (.int .i64 3) (.slice none 0 0) hXr
 obtain ⟨k0, k1, k2, k3, k4, k5, k6, k7, k8, k9⟩ := cl10 hVX
 have HBV : Hid (Below w.heap.size w V) := hVB _ _ hB1 (Nat.le_refl _)
 clear hXr hXx hX1 hVX hVO hVB hB0 hB1
 go_enter Tryz.func18, Tryz.ntmps18
 go_wp2_with fail
 exact bodyPost_ret (v := .tuple #[.agg #[.int .i64 3, .int .i64 0, .slice none 0 0, .int .i64 0, .string ⟨#[]⟩, .int .i64 0, .int .i64 0, .slice none 0 0, .int .i64 3, .slice none 0 0], .int .i64 0]) (by simp [results, Tryz.f18, go_sem, k0, k1, k2, k3, k4, k5, k6, k7, k8, k9]) rfl ⟨_, rfl, ⟨_, ⟨none, 0, 0, none, 0, 0, none, 0, 0⟩, rfl, rfl, slC_nil, slC_nil, slC_nil⟩, HBV.out⟩
set_option maxRecDepth 100000 in
set_option maxHeartbeats 1000000 in
theorem ref10_New_2 (w : World) : Calls Tryz.prog 18 #[.int .i64 2] w fun e w' => ∃ x, e = .returned (.tuple #[x, .int .i64 0]) ∧ SkB w' x 2 0 (bdNew 2) ∧ Below w.heap.size w w' := by
 obtain ⟨W0, hW0, hXr, hXx, hB0, hs0⟩ := boxes2 w #[.int .i64 0, .int .i64 0, .slice none 0 0, .int .i64 0, .string ⟨#[]⟩, .int .i64 0, .int .i64 0, .slice none 0 0, .int .i64 0, .slice none 0 0] 33 #[.int .i64 2, .int .i64 0, .slice none 0 0, .int .i64 0, .string ⟨#[]⟩, .int .i64 0, .int .i64 0, .slice none 0 0, .int .i64 0, .slice none 0 0] 33
 obtain ⟨c0, c1, c2, c3, c4, c5, c6, c7, c8, c9⟩ := cl10 hXx
 obtain ⟨f0, f1, f2, f3, f4, f5, f6, f7, f8, f9⟩ := cz10 hXx
 have e1 : W0.setCell ⟨w.heap.size + 1, 1, none⟩ (.int .i64 0) = W0 := set_same hXx rfl
 have e2 : W0.setCell ⟨w.heap.size + 1, 2, none⟩ (.slice none 0 0) = W0 := set_same hXx rfl
 have e3 : W0.setCell ⟨w.heap.size + 1, 3, none⟩ (.int .i64 0) = W0 := set_same hXx rfl
 have e4 : W0.setCell ⟨w.heap.size + 1, 4, none⟩ (.string ⟨#[]⟩) = W0 := set_same hXx rfl
 have e5 : W0.setCell ⟨w.heap.size + 1, 5, none⟩ (.int .i64 0) = W0 := set_same hXx rfl
 have e6 : W0.setCell ⟨w.heap.size + 1, 6, none⟩ (.int .i64 0) = W0 := set_same hXx rfl
 have e7 : W0.setCell ⟨w.heap.size + 1, 7, none⟩ (.slice none 0 0) = W0 := set_same hXx rfl
 have e8 : W0.setCell ⟨w.heap.size + 1, 8, none⟩ (.int .i64 0) = W0 := set_same hXx rfl
 have e9 : W0.setCell ⟨w.heap.size + 1, 9, none⟩ (.slice none 0 0) = W0 := set_same hXx rfl
 have HC : Hid (Calls Tryz.prog 53 #[.int .i64 2, .int .i64 32] W0 fun e w' => ∃ a cap, e = .returned (.tuple #[.agg #[.int .i64 2, .int .i64 32, .slice a 64 cap], .int .i64 0]) ∧ SlC encU 1 w'.heap.size w' a 64 cap (List.replicate 64 0) ∧ Below W0.heap.size W0 w') := ref08_New_any W0
 have HXr := Lib.hid hXr
 have HXx := Lib.hid hXx
 have HB0 := Lib.hid hB0
 clear hXr hXx hB0
 go_enter Tryz.func18, Tryz.ntmps18
 go_wp2_with fail
 refine HC.out.mono ?_
 rintro e w1 ⟨ga, gc, rfl, hN, hb1⟩
 have hXx := known hb1 (Nat.le_refl _) HXx.out
 have hXr := known hb1 (Nat.le_refl _) HXr.out
 obtain ⟨x0, x1, x2, x3, x4, x5, x6, x7, x8, x9⟩ := cl10 hXx
 obtain ⟨y0, y1, y2, y3, y4, y5, y6, y7, y8, y9⟩ := cz10 hXx
 obtain ⟨W1, hW1⟩ : ∃ W1, ((w1.setCell ⟨w.heap.size + 1, 5, none⟩ (.int .i64 2)).setCell ⟨w.heap.size + 1, 6, none⟩ (.int .i64 32)).setCell ⟨w.heap.size + 1, 7, none⟩ (.slice ga 64 gc) = W1 := ⟨_, rfl⟩
 have hX1 : W1.heap[w.heap.size + 1]? = some (.cells #[.int .i64 2, .int .i64 0, .slice none 0 0, .int .i64 0, .string ⟨#[]⟩, .int .i64 2, .int .i64 32, .slice ga 64 gc, .int .i64 0, .slice none 0 0] 33 (0, 0)) := by rw [← hW1]; exact hSk (hSk (hSk hXx (.int .i64 2)) (.int .i64 32)) (.slice ga 64 gc)
 have hO1 : OnlyAt (w.heap.size + 1) w1 W1 := by rw [← hW1]; exact (((OnlyAt.refl _ _).set _ _).set _ _).set _ _
 have hB1 : Below w.heap.size w W1 := by rw [← hW1]; exact (((HB0.out.trans (hb1.mono HB0.out.size)).setCell (p := ⟨w.heap.size + 1, 5, none⟩) (Nat.le_succ _) _).setCell (p := ⟨w.heap.size + 1, 6, none⟩) (Nat.le_succ _) _).setCell (p := ⟨w.heap.size + 1, 7, none⟩) (Nat.le_succ _) _
 replace hXr := (hO1.2 w.heap.size (by omega)).trans hXr
 have hS : SlC encU 1 w1.heap.size w1 ga 64 gc (List.replicate 64 0) := hN
 replace hS : SlC encU 1 W1.heap.size W1 ga 64 gc (List.replicate 64 0) := slC_apart (i0 := 0) (by decide) (fun x => ⟨x, rfl⟩) hXx (fun i u => noU_zero2 u) hO1 hS
 obtain ⟨z0, z1, z2, z3, z4, z5, z6, z7, z8, z9⟩ := cl10 hX1
 obtain ⟨r0, r1, r2, r3, r4, r5, r6, r7, r8, r9⟩ := cl10 hXr
 obtain ⟨g0, g1, g2, g3, g4, g5, g6, g7, g8, g9⟩ := cz10 hXr
 obtain ⟨V, hV, hVX, hVO, hVB⟩ := store10 (.int .i64 2) (.int .i64 0) (.slice none 0 0) (.int .i64 0) (.string ⟨#[]⟩) (.int .i64 2) (.int .i64 32) (.slice ga 64 gc) (.int .i64 0) (.slice none 0 0) hXr
 obtain ⟨k0, k1, k2, k3, k4, k5, k6, k7, k8, k9⟩ := cl10 hVX
 have HBV : Hid (Below w.heap.size w V) := hVB _ _ hB1 (Nat.le_refl _)
 have HSV : Hid (SlC encU 1 V.heap.size V ga 64 gc (List.replicate 64 0)) := slC_apart (i0 := 0) (by decide) (fun x => ⟨x, rfl⟩) hXr (fun i u => noU_zero u) hVO hS
 clear hN hXr hXx hX1 hVX hVO hVB hB1 hO1 hS hb1
 go_wp2_with fail
 exact bodyPost_ret (v := .tuple #[.agg #[.int .i64 2, .int .i64 0, .slice none 0 0, .int .i64 0, .string ⟨#[]⟩, .int .i64 2, .int .i64 32, .slice ga 64 gc, .int .i64 0, .slice none 0 0], .int .i64 0]) (by simp [results, Tryz.f18, go_sem, k0, k1, k2, k3, k4, k5, k6, k7, k8, k9]) rfl ⟨_, rfl, ⟨_, ⟨none, 0, 0, ga, 64, gc, none, 0, 0⟩, rfl, rfl, slC_nil, HSV.out, slC_nil⟩, HBV.out⟩
set_option maxRecDepth 100000 in
set_option maxHeartbeats 1000000 in
theorem ref10_New_no (n : Int) (h1 : (n == 1) = false) (h2 : (n == 2) = false) (h3 : (n == 3) = false) (w : World) : Calls Tryz.prog 18 #[.int .i64 n] w fun e w' => e = .returned (.tuple #[.agg #[.int .i64 0, .int .i64 0, .slice none 0 0, .int .i64 0, .string ⟨#[]⟩, .int .i64 0, .int .i64 0, .slice none 0 0, .int .i64 0, .slice none 0 0], .int .i64 101]) ∧ Below w.heap.size w w' := by
 obtain ⟨W0, hW0, hXr, hXx, hB0, hs0⟩ := boxes2 w #[.int .i64 0, .int .i64 0, .slice none 0 0, .int .i64 0, .string ⟨#[]⟩, .int .i64 0, .int .i64 0, .slice none 0 0, .int .i64 0, .slice none 0 0] 33 #[.int .i64 n, .int .i64 0, .slice none 0 0, .int .i64 0, .string ⟨#[]⟩, .int .i64 0, .int .i64 0, .slice none 0 0, .int .i64 0, .slice none 0 0] 33
 obtain ⟨c0, c1, c2, c3, c4, c5, c6, c7, c8, c9⟩ := cl10 hXx
 obtain ⟨f0, f1, f2, f3, f4, f5, f6, f7, f8, f9⟩ := cz10 hXx
 have e1 : W0.setCell ⟨w.heap.size + 1, 1, none⟩ (.int .i64 0) = W0 := set_same hXx rfl
 have e2 : W0.setCell ⟨w.heap.size + 1, 2, none⟩ (.slice none 0 0) = W0 := set_same hXx rfl
 have e3 : W0.setCell ⟨w.heap.size + 1, 3, none⟩ (.int .i64 0) = W0 := set_same hXx rfl
 have e4 : W0.setCell ⟨w.heap.size + 1, 4, none⟩ (.string ⟨#[]⟩) = W0 := set_same hXx rfl
 have e5 : W0.setCell ⟨w.heap.size + 1, 5, none⟩ (.int .i64 0) = W0 := set_same hXx rfl
 have e6 : W0.setCell ⟨w.heap.size + 1, 6, none⟩ (.int .i64 0) = W0 := set_same hXx rfl
 have e7 : W0.setCell ⟨w.heap.size + 1, 7, none⟩ (.slice none 0 0) = W0 := set_same hXx rfl
 have e8 : W0.setCell ⟨w.heap.size + 1, 8, none⟩ (.int .i64 0) = W0 := set_same hXx rfl
 have e9 : W0.setCell ⟨w.heap.size + 1, 9, none⟩ (.slice none 0 0) = W0 := set_same hXx rfl
 obtain ⟨r0, r1, r2, r3, r4, r5, r6, r7, r8, r9⟩ := cl10 hXr
 obtain ⟨g0, g1, g2, g3, g4, g5, g6, g7, g8, g9⟩ := cz10 hXr
 have d0 : W0.setCell ⟨w.heap.size, 0, none⟩ (.int .i64 0) = W0 := set_same hXr rfl
 have d1 : W0.setCell ⟨w.heap.size, 1, none⟩ (.int .i64 0) = W0 := set_same hXr rfl
 have d2 : W0.setCell ⟨w.heap.size, 2, none⟩ (.slice none 0 0) = W0 := set_same hXr rfl
 have d3 : W0.setCell ⟨w.heap.size, 3, none⟩ (.int .i64 0) = W0 := set_same hXr rfl
 have d4 : W0.setCell ⟨w.heap.size, 4, none⟩ (.string ⟨#[]⟩) = W0 := set_same hXr rfl
 have d5 : W0.setCell ⟨w.heap.size, 5, none⟩ (.int .i64 0) = W0 := set_same hXr rfl
 have d6 : W0.setCell ⟨w.heap.size, 6, none⟩ (.int .i64 0) = W0 := set_same hXr rfl
 have d7 : W0.setCell ⟨w.heap.size, 7, none⟩ (.slice none 0 0) = W0 := set_same hXr rfl
 have d8 : W0.setCell ⟨w.heap.size, 8, none⟩ (.int .i64 0) = W0 := set_same hXr rfl
 have d9 : W0.setCell ⟨w.heap.size, 9, none⟩ (.slice none 0 0) = W0 := set_same hXr rfl
 have HBV := Lib.hid hB0
 clear hXr hXx hB0
 go_enter Tryz.func18, Tryz.ntmps18
 go_wp2_with fail
 exact bodyPost_ret (v := .tuple #[.agg #[.int .i64 0, .int .i64 0, .slice none 0 0, .int .i64 0, .string ⟨#[]⟩, .int .i64 0, .int .i64 0, .slice none 0 0, .int .i64 0, .slice none 0 0], .int .i64 101]) (by simp [results, Tryz.f18, go_sem, r0, r1, r2, r3, r4, r5, r6, r7, r8, r9]) rfl ⟨rfl, HBV.out⟩
theorem ref10_New_S (k : Int) (w : World) : Calls Tryz.prog 18 #[.int .i64 k] w (SkP (newS k) w) := by
 unfold newS
 by_cases hk : k = 1 ∨ k = 2 ∨ k = 3
 ·rw [if_pos hk]
  rcases hk with rfl | rfl | rfl
  ·exact (ref10_New_1 w).mono fun e w' h => .good h
  ·exact (ref10_New_2 w).mono fun e w' h => .good h
  ·exact (ref10_New_3 w).mono fun e w' h => .good h
 ·rw [if_neg hk]
  exact (ref10_New_no k (by rw [beq_eq_false_iff_ne]; omega) (by rw [beq_eq_false_iff_ne]; omega) (by rw [beq_eq_false_iff_ne]; omega) w).mono fun e w' h => .zero h
end Go.Proofs.YtcbbenncdainfaaGreatDoor

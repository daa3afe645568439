/- Package ladder: New. Printed by gen_lj.py. Package ladder: what sketches cost, in plain data. Sketches at work as plain data: two merged. No program in sight. Laws of layer 10: items; New, whatever the kind. What rows have in common: sketches opened, with their counters' columns. Printed by gen_rkw.py. The references of layers 6 to 8: Right, Numbers, Same. The references of layers 7 and 8: Right, Same. The reference of layer 8: Right, Same. The reference of layer 9: digits, Bucket. -/
import Derived.Test.YtcbbenncdainfaaGreatDoorZLL
namespace Go.Proofs.YtcbbenncdainfaaGreatDoor
open Go Go.RowKit Go.Shelf
theorem slC_nil {α : Type} {enc : α → List Value} {k n : Nat} {w : World} : SlC enc k n w none 0 0 [] := ⟨⟨rfl, fun j x hx => by simp at hx⟩, Nat.le_refl _, Nat.zero_le _, fun _ => rfl, fun x e => by cases e⟩
set_option maxRecDepth 100000 in
set_option maxHeartbeats 1000000 in
theorem New_1 (w : World) : Calls Tryz.prog 17 #[.int .i64 1] w fun e w' => ∃ x, e = .returned (.tuple #[x, .int .i64 0]) ∧ SkB w' x 1 0 (bdNew 1) ∧ Below w.heap.size w w' := by
 obtain ⟨W0, hW0, hXr, hXx, hB0, hs0⟩ := boxes2 w #[.int .i64 0, .int .i64 0, .slice none 0 0, .int .i64 0, .string ⟨#[]⟩, .int .i64 0, .int .i64 0, .slice none 0 0, .int .i64 0, .slice none 0 0] 33 #[.int .i64 1, .int .i64 0, .slice none 0 0, .int .i64 0, .string ⟨#[]⟩, .int .i64 0, .int .i64 0, .slice none 0 0, .int .i64 0, .slice none 0 0] 33
 obtain ⟨c0, c1, c2, c3, c4, c5, c6, c7, c8, c9⟩ := cl10 hXx
 obtain ⟨f0, f1, f2, f3, f4, f5, f6, f7, f8, f9⟩ := cz10 hXx
 have e1 : W0.setCell ⟨w.heap.size + 1, 1, none⟩ (.int .i64 0) = W0 := set_same hXx rfl
 have e2 : W0.setCell ⟨w.heap.size + 1, 2, none⟩ (.slice none 0 0) = W0 := set_same hXx rfl
 have e3 : W0.setCell ⟨w.heap.size + 1, 3, none⟩ (.int .i64 0) = W0 := set_same hXx rfl
 have e4 : W0.setCell ⟨w.heap.size + 1, 4, none⟩ (.string ⟨#[]⟩) = W0 := set_same hXx rfl
 have e5 : W0.setCell ⟨w.heap.size + 1, 5, none⟩ (.int .i64 0) = W0 := set_same hXx rfl
 have e6 : W0.setCell ⟨w.heap.size + 1, 6, none⟩ (.int .i64 0) = W0 := set_same hXx rfl
 have e7 : W0.setCell ⟨w.heap.size + 1, 7, none⟩ (.slice none 0 0) = W0 := set_same hXx rfl
 have e8 : W0.setCell ⟨w.heap.size + 1, 8, none⟩ (.int .i64 0) = W0 := set_same hXx rfl
 have e9 : W0.setCell ⟨w.heap.size + 1, 9, none⟩ (.slice none 0 0) = W0 := set_same hXx rfl
 obtain ⟨r0, r1, r2, r3, r4, r5, r6, r7, r8, r9⟩ := cl10 hXr
 obtain ⟨g0, g1, g2, g3, g4, g5, g6, g7, g8, g9⟩ := cz10 hXr
 obtain ⟨V, hV, hVX, hVO, hVB⟩ := store10 (.int .i64 1) (.int .i64 0) (.slice none 0 0) (.int .i64 0) (.string ⟨#[]⟩) (.int .i64 0) (.int .i64 0) (.slice none 0 0) (.int .i64 0) (.slice none 0 0) hXr
 obtain ⟨k0, k1, k2, k3, k4, k5, k6, k7, k8, k9⟩ := cl10 hVX
 have HBV : Hid (Below w.heap.size w V) := hVB _ _ hB0 (Nat.le_refl _)
 clear hXr hXx hVX hVO hVB hB0
 go_enter Tryz.func17, Tryz.ntmps17
 go_wp2_with fail
 exact bodyPost_ret (v := .tuple #[.agg #[.int .i64 1, .int .i64 0, .slice none 0 0, .int .i64 0, .string ⟨#[]⟩, .int .i64 0, .int .i64 0, .slice none 0 0, .int .i64 0, .slice none 0 0], .int .i64 0]) (by simp [results, Tryz.f17, go_sem, k0, k1, k2, k3, k4, k5, k6, k7, k8, k9]) rfl ⟨_, rfl, ⟨_, ⟨none, 0, 0, none, 0, 0, none, 0, 0⟩, rfl, rfl, slC_nil, slC_nil, slC_nil⟩, HBV.out⟩
set_option maxRecDepth 100000 in
set_option maxHeartbeats 1000000 in
theorem New_3 (w : World) : Calls Tryz.prog 17 #[.int .i64 3] w fun e w' => ∃ x, e = .returned (.tuple #[x, .int .i64 0]) ∧ SkB w' x 3 0 (bdNew 3) ∧ Below w.heap.size w w' := by
 obtain ⟨W0, hW0, hXr, hXx, hB0, hs0⟩ := boxes2 w #[.int .i64 0, .int .i64 0, .slice none 0 0, .int .i64 0, .string ⟨#[]⟩, .int .i64 0, .int .i64 0, .slice none 0 0, .int .i64 0, .slice none 0 0] 33 #[.int .i64 3, .int .i64 0, .slice none 0 0, .int .i64 0, .string ⟨#[]⟩, .int .i64 0, .int .i64 0, .slice none 0 0, .int .i64 0, .slice none 0 0] 33
 obtain ⟨c0, c1, c2, c3, c4, c5, c6, c7, c8, c9⟩ := cl10 hXx
 obtain ⟨f0, f1, f2, f3, f4, f5, f6, f7, f8, f9⟩ := cz10 hXx
 have e1 : W0.setCell ⟨w.heap.size + 1, 1, none⟩ (.int .i64 0) = W0 := set_same hXx rfl
 have e2 : W0.setCell ⟨w.heap.size + 1, 2, none⟩ (.slice none 0 0) = W0 := set_same hXx rfl
 have e3 : W0.setCell ⟨w.heap.size + 1, 3, none⟩ (.int .i64 0) = W0 := set_same hXx rfl
 have e4 : W0.setCell ⟨w.heap.size + 1, 4, none⟩ (.string ⟨#[]⟩) = W0 := set_same hXx rfl
 have e5 : W0.setCell ⟨w.heap.size + 1, 5, none⟩ (.int .i64 0) = W0 := set_same hXx rfl
 have e6 : W0.setCell ⟨w.heap.size + 1, 6, none⟩ (.int .i64 0) = W0 := set_same hXx rfl
 have e7 : W0.setCell ⟨w.heap.size + 1, 7, none⟩ (.slice none 0 0) = W0 := set_same hXx rfl
 have e8 : W0.setCell ⟨w.heap.size + 1, 8, none⟩ (.int .i64 0) = W0 := set_same hXx rfl
 have e9 : W0.setCell ⟨w.heap.size + 1, 9, none⟩ (.slice none 0 0) = W0 := set_same hXx rfl
 obtain ⟨W1, hW1⟩ : ∃ W1, W0.setCell ⟨w.heap.size + 1, 8, none⟩ (.int .i64 3) = W1 := ⟨_, rfl⟩
 have hX1 : W1.heap[w.heap.size + 1]? = some (.cells #[.int .i64 3, .int .i64 0, .slice none 0 0, .int .i64 0, .string ⟨#[]⟩, .int .i64 0, .int .i64 0, .slice none 0 0, .int .i64 3, .slice none 0 0] 33 (0, 0)) := by rw [← hW1]; exact hSk hXx (.int .i64 3)
 replace hXr : W1.heap[w.heap.size]? = some (.cells #[.int .i64 0, .int .i64 0, .slice none 0 0, .int .i64 0, .string ⟨#[]⟩, .int .i64 0, .int .i64 0, .slice none 0 0, .int .i64 0, .slice none 0 0] 33 (0, 0)) := by rw [← hW1]; exact (heap_set_other (p := ⟨w.heap.size + 1, 8, none⟩) (by show w.heap.size + 1 ≠ w.heap.size; omega) _).trans hXr
 have hB1 : Below w.heap.size w W1 := by rw [← hW1]; exact hB0.setCell (p := ⟨w.heap.size + 1, 8, none⟩) (Nat.le_succ _) _
 obtain ⟨x0, x1, x2, x3, x4, x5, x6, x7, x8, x9⟩ := cl10 hX1
 obtain ⟨r0, r1, r2, r3, r4, r5, r6, r7, r8, r9⟩ := cl10 hXr
 obtain ⟨g0, g1, g2, g3, g4, g5, g6, g7, g8, g9⟩ := cz10 hXr
 obtain ⟨V, hV, hVX, hVO, hVB⟩ := store10 (.int .i64 3) (.int .i64 0) (.slice none 0 0) (.int .i64 0) (.string ⟨#[]⟩) (.int .i64 0) (.int .i64 0) (.slice none 0 0) (.int .i64 3) (.slice none 0 0) hXr
 obtain ⟨k0, k1, k2, k3, k4, k5, k6, k7, k8, k9⟩ := cl10 hVX
 have HBV : Hid (Below w.heap.size w V) := hVB _ _ hB1 (Nat.le_refl _)
 clear hXr hXx hX1 hVX hVO hVB hB0 hB1
 go_enter Tryz.func17, Tryz.ntmps17
 go_wp2_with fail
 exact bodyPost_ret (v := .tuple #[.agg #[.int .i64 3, .int .i64 0, .slice none 0 0, .int .i64 0, .string ⟨#[]⟩, .int .i64 0, .int .i64 0, .slice none 0 0, .int .i64 3, .slice none 0 0], .int .i64 0]) (by simp [results, Tryz.f17, go_sem, k0, k1, k2, k3, k4, k5, k6, k7, k8, k9]) rfl ⟨_, rfl, ⟨_, ⟨none, 0, 0, none, 0, 0, none, 0, 0⟩, rfl, rfl, slC_nil, slC_nil, slC_nil⟩, HBV.out⟩
theorem noU_zero2 {i : Nat} (u : Int) : (#[.int .i64 2, .int .i64 0, .slice none 0 0, .int .i64 0, .string ⟨#[]⟩, .int .i64 0, .int .i64 0, .slice none 0 0, .int .i64 0, .slice none 0 0] : Array Value)[i]? ≠ some (.int .u64 u) := by
 intro h
 rcases i with _ | _ | _ | _ | _ | _ | _ | _ | _ | _ | i <;> simp at h
set_option maxRecDepth 100000 in
set_option maxHeartbeats 1000000 in
theorem New_2 (w : World) : Calls Tryz.prog 17 #[.int .i64 2] w fun e w' => ∃ x, e = .returned (.tuple #[x, .int .i64 0]) ∧ SkB w' x 2 0 (bdNew 2) ∧ Below w.heap.size w w' := by
 obtain ⟨W0, hW0, hXr, hXx, hB0, hs0⟩ := boxes2 w #[.int .i64 0, .int .i64 0, .slice none 0 0, .int .i64 0, .string ⟨#[]⟩, .int .i64 0, .int .i64 0, .slice none 0 0, .int .i64 0, .slice none 0 0] 33 #[.int .i64 2, .int .i64 0, .slice none 0 0, .int .i64 0, .string ⟨#[]⟩, .int .i64 0, .int .i64 0, .slice none 0 0, .int .i64 0, .slice none 0 0] 33
 obtain ⟨c0, c1, c2, c3, c4, c5, c6, c7, c8, c9⟩ := cl10 hXx
 obtain ⟨f0, f1, f2, f3, f4, f5, f6, f7, f8, f9⟩ := cz10 hXx
 have e1 : W0.setCell ⟨w.heap.size + 1, 1, none⟩ (.int .i64 0) = W0 := set_same hXx rfl
 have e2 : W0.setCell ⟨w.heap.size + 1, 2, none⟩ (.slice none 0 0) = W0 := set_same hXx rfl
 have e3 : W0.setCell ⟨w.heap.size + 1, 3, none⟩ (.int .i64 0) = W0 := set_same hXx rfl
 have e4 : W0.setCell ⟨w.heap.size + 1, 4, none⟩ (.string ⟨#[]⟩) = W0 := set_same hXx rfl
 have e5 : W0.setCell ⟨w.heap.size + 1, 5, none⟩ (.int .i64 0) = W0 := set_same hXx rfl
 have e6 : W0.setCell ⟨w.heap.size + 1, 6, none⟩ (.int .i64 0) = W0 := set_same hXx rfl
 have e7 : W0.setCell ⟨w.heap.size + 1, 7, none⟩ (.slice none 0 0) = W0 := set_same hXx rfl
 have e8 : W0.setCell ⟨w.heap.size + 1, 8, none⟩ (.int .i64 0) = W0 := set_same hXx rfl
 have e9 : W0.setCell ⟨w.heap.size + 1, 9, none⟩ (.slice none 0 0) = W0 := set_same hXx rfl
 have HC := Lib.hid (cNew_any W0)
 have HXr := Lib.hid hXr
 have HXx := Lib.hid hXx
 have HB0 := Lib.hid hB0
 clear hXr hXx hB0
 go_enter Tryz.func17, Tryz.ntmps17
 go_wp2_with fail
 refine HC.out.mono ?_
 rintro e w1 ⟨g, rfl, hN, hg, hb1⟩
 have hXx := known hb1 (Nat.le_refl _) HXx.out
 have hXr := known hb1 (Nat.le_refl _) HXr.out
 obtain ⟨x0, x1, x2, x3, x4, x5, x6, x7, x8, x9⟩ := cl10 hXx
 obtain ⟨y0, y1, y2, y3, y4, y5, y6, y7, y8, y9⟩ := cz10 hXx
 obtain ⟨W1, hW1⟩ : ∃ W1, ((w1.setCell ⟨w.heap.size + 1, 5, none⟩ (.int .i64 2)).setCell ⟨w.heap.size + 1, 6, none⟩ (.int .i64 32)).setCell ⟨w.heap.size + 1, 7, none⟩ (.slice (some ⟨g, 0, none⟩) 64 64) = W1 := ⟨_, rfl⟩
 have hX1 : W1.heap[w.heap.size + 1]? = some (.cells #[.int .i64 2, .int .i64 0, .slice none 0 0, .int .i64 0, .string ⟨#[]⟩, .int .i64 2, .int .i64 32, .slice (some ⟨g, 0, none⟩) 64 64, .int .i64 0, .slice none 0 0] 33 (0, 0)) := by rw [← hW1]; exact hSk (hSk (hSk hXx (.int .i64 2)) (.int .i64 32)) (.slice (some ⟨g, 0, none⟩) 64 64)
 have hO1 : OnlyAt (w.heap.size + 1) w1 W1 := by rw [← hW1]; exact (((OnlyAt.refl _ _).set _ _).set _ _).set _ _
 have hB1 : Below w.heap.size w W1 := by rw [← hW1]; exact (((HB0.out.trans (hb1.mono HB0.out.size)).setCell (p := ⟨w.heap.size + 1, 5, none⟩) (Nat.le_succ _) _).setCell (p := ⟨w.heap.size + 1, 6, none⟩) (Nat.le_succ _) _).setCell (p := ⟨w.heap.size + 1, 7, none⟩) (Nat.le_succ _) _
 replace hXr := (hO1.2 w.heap.size (by omega)).trans hXr
 have hS : SlC encU 1 w1.heap.size w1 (some ⟨g, 0, none⟩) 64 64 (List.replicate 64 0) := nums_slC hN (by simp) (by unfold maxLen; omega)
 replace hS : SlC encU 1 W1.heap.size W1 (some ⟨g, 0, none⟩) 64 64 (List.replicate 64 0) := slC_apart (i0 := 0) (by decide) (fun x => ⟨x, rfl⟩) hXx (fun i u => noU_zero2 u) hO1 hS
 obtain ⟨z0, z1, z2, z3, z4, z5, z6, z7, z8, z9⟩ := cl10 hX1
 obtain ⟨r0, r1, r2, r3, r4, r5, r6, r7, r8, r9⟩ := cl10 hXr
 obtain ⟨g0, g1, g2, g3, g4, g5, g6, g7, g8, g9⟩ := cz10 hXr
 obtain ⟨V, hV, hVX, hVO, hVB⟩ := store10 (.int .i64 2) (.int .i64 0) (.slice none 0 0) (.int .i64 0) (.string ⟨#[]⟩) (.int .i64 2) (.int .i64 32) (.slice (some ⟨g, 0, none⟩) 64 64) (.int .i64 0) (.slice none 0 0) hXr
 obtain ⟨k0, k1, k2, k3, k4, k5, k6, k7, k8, k9⟩ := cl10 hVX
 have HBV : Hid (Below w.heap.size w V) := hVB _ _ hB1 (Nat.le_refl _)
 have HSV : Hid (SlC encU 1 V.heap.size V (some ⟨g, 0, none⟩) 64 64 (List.replicate 64 0)) := slC_apart (i0 := 0) (by decide) (fun x => ⟨x, rfl⟩) hXr (fun i u => noU_zero u) hVO hS
 clear hN hg hXr hXx hX1 hVX hVO hVB hB1 hO1 hS hb1
 go_wp2_with fail
 exact bodyPost_ret (v := .tuple #[.agg #[.int .i64 2, .int .i64 0, .slice none 0 0, .int .i64 0, .string ⟨#[]⟩, .int .i64 2, .int .i64 32, .slice (some ⟨g, 0, none⟩) 64 64, .int .i64 0, .slice none 0 0], .int .i64 0]) (by simp [results, Tryz.f17, go_sem, k0, k1, k2, k3, k4, k5, k6, k7, k8, k9]) rfl ⟨_, rfl, ⟨_, ⟨none, 0, 0, some ⟨g, 0, none⟩, 64, 64, none, 0, 0⟩, rfl, rfl, slC_nil, HSV.out, slC_nil⟩, HBV.out⟩
set_option maxRecDepth 100000 in
set_option maxHeartbeats 1000000 in
theorem New_no (n : Int) (h1 : (n == 1) = false) (h2 : (n == 2) = false) (h3 : (n == 3) = false) (w : World) : Calls Tryz.prog 17 #[.int .i64 n] w fun e w' => e = .returned (.tuple #[.agg #[.int .i64 0, .int .i64 0, .slice none 0 0, .int .i64 0, .string ⟨#[]⟩, .int .i64 0, .int .i64 0, .slice none 0 0, .int .i64 0, .slice none 0 0], .int .i64 101]) ∧ Below w.heap.size w w' := by
 obtain ⟨W0, hW0, hXr, hXx, hB0, hs0⟩ := boxes2 w #[.int .i64 0, .int .i64 0, .slice none 0 0, .int .i64 0, .string ⟨#[]⟩, .int .i64 0, .int .i64 0, .slice none 0 0, .int .i64 0, .slice none 0 0] 33 #[.int .i64 n, .int .i64 0, .slice none 0 0, .int .i64 0, .string ⟨#[]⟩, .int .i64 0, .int .i64 0, .slice none 0 0, .int .i64 0, .slice none 0 0] 33
 obtain ⟨c0, c1, c2, c3, c4, c5, c6, c7, c8, c9⟩ := cl10 hXx
 obtain ⟨f0, f1, f2, f3, f4, f5, f6, f7, f8, f9⟩ := cz10 hXx
 have e1 : W0.setCell ⟨w.heap.size + 1, 1, none⟩ (.int .i64 0) = W0 := set_same hXx rfl
 have e2 : W0.setCell ⟨w.heap.size + 1, 2, none⟩ (.slice none 0 0) = W0 := set_same hXx rfl
 have e3 : W0.setCell ⟨w.heap.size + 1, 3, none⟩ (.int .i64 0) = W0 := set_same hXx rfl
 have e4 : W0.setCell ⟨w.heap.size + 1, 4, none⟩ (.string ⟨#[]⟩) = W0 := set_same hXx rfl
 have e5 : W0.setCell ⟨w.heap.size + 1, 5, none⟩ (.int .i64 0) = W0 := set_same hXx rfl
 have e6 : W0.setCell ⟨w.heap.size + 1, 6, none⟩ (.int .i64 0) = W0 := set_same hXx rfl
 have e7 : W0.setCell ⟨w.heap.size + 1, 7, none⟩ (.slice none 0 0) = W0 := set_same hXx rfl
 have e8 : W0.setCell ⟨w.heap.size + 1, 8, none⟩ (.int .i64 0) = W0 := set_same hXx rfl
 have e9 : W0.setCell ⟨w.heap.size + 1, 9, none⟩ (.slice none 0 0) = W0 := set_same hXx rfl
 obtain ⟨r0, r1, r2, r3, r4, r5, r6, r7, r8, r9⟩ := cl10 hXr
 obtain ⟨g0, g1, g2, g3, g4, g5, g6, g7, g8, g9⟩ := cz10 hXr
 have d0 : W0.setCell ⟨w.heap.size, 0, none⟩ (.int .i64 0) = W0 := set_same hXr rfl
 have d1 : W0.setCell ⟨w.heap.size, 1, none⟩ (.int .i64 0) = W0 := set_same hXr rfl
 have d2 : W0.setCell ⟨w.heap.size, 2, none⟩ (.slice none 0 0) = W0 := set_same hXr rfl
 have d3 : W0.setCell ⟨w.heap.size, 3, none⟩ (.int .i64 0) = W0 := set_same hXr rfl
 have d4 : W0.setCell ⟨w.heap.size, 4, none⟩ (.string ⟨#[]⟩) = W0 := set_same hXr rfl
 have d5 : W0.setCell ⟨w.heap.size, 5, none⟩ (.int .i64 0) = W0 := set_same hXr rfl
 have d6 : W0.setCell ⟨w.heap.size, 6, none⟩ (.int .i64 0) = W0 := set_same hXr rfl
 have d7 : W0.setCell ⟨w.heap.size, 7, none⟩ (.slice none 0 0) = W0 := set_same hXr rfl
 have d8 : W0.setCell ⟨w.heap.size, 8, none⟩ (.int .i64 0) = W0 := set_same hXr rfl
 have d9 : W0.setCell ⟨w.heap.size, 9, none⟩ (.slice none 0 0) = W0 := set_same hXr rfl
 have HBV := Lib.hid hB0
 clear hXr hXx hB0
 go_enter Tryz.func17, Tryz.ntmps17
 go_wp2_with fail
 exact bodyPost_ret (v := .tuple #[.agg #[.int .i64 0, .int .i64 0, .slice none 0 0, .int .i64 0, .string ⟨#[]⟩, .int .i64 0, .int .i64 0, .slice none 0 0, .int .i64 0, .slice none 0 0], .int .i64 101]) (by simp [results, Tryz.f17, go_sem, r0, r1, r2, r3, r4, r5, r6, r7, r8, r9]) rfl ⟨rfl, HBV.out⟩
end Go.Proofs.YtcbbenncdainfaaGreatDoor
namespace Go.Proofs.YtcbbenncdainfaaGreatDoor
open Go Go.RowKit Go.Shelf
def bdCost : Bd → Nat
 | .num l => 8 * l.length
 | .reg _ r => r.length
 | .cnt _ l => 8 * l.length
 | .bkt _ l => 16 * l.length
theorem costOf_sk {B : Bd} {k L : Nat} (h : B.Ok k L) : costOf (skOf k L B) = (bdCost B : Int) + 16 := by
 unfold costOf
 rw [skOf_ok h, if_pos rfl]
 cases B with
 | num l =>
  obtain ⟨rfl, rfl, -⟩ := h
  show 8 * (l.length : Int) + 16 = ((8 * l.length : Nat) : Int) + 16
  omega
 | reg b r =>
  obtain ⟨rfl, h1, -⟩ := h
  have h0 : (((L : Nat) : Int) == 0) = false := by simp; omega
  show (if ((1 : Nat) : Int) == 1 then if (L : Int) == 0 then _ else ((hlStr r).size : Int) else _) + 16 = (r.length : Int) + 16
  rw [h0, hlStr_size]
  rfl
 | cnt c l =>
  obtain ⟨rfl, -⟩ := h
  show 8 * (l.length : Int) + 16 = ((8 * l.length : Nat) : Int) + 16
  omega
 | bkt f l =>
  obtain ⟨rfl, -⟩ := h
  show 16 * (l.length : Int) + 16 = ((16 * l.length : Nat) : Int) + 16
  omega
theorem sk_hr {B : Bd} {k L : Nat} (h : B.Ok k L) : (skOf k L B).hr.size < 2147483648 := by
 cases B with
 | num l => show 0 < _; omega
 | reg b r =>
  obtain ⟨-, h1, -, h3, h4, -⟩ := h
  show (hlStr r).size < _
  have : 2 ^ b ≤ 2 ^ 8 := Nat.pow_le_pow_right (by omega) (by omega)
  rw [hlStr_size]
  omega
 | cnt c l => show 0 < _; omega
 | bkt f l => show 0 < _; omega
theorem Cost_sk {B : Bd} {k L : Nat} {v : Value} {w : World} (h : B.Ok k L) (hv : SkB w v k L B) : Calls Tryz.prog 23 #[v] w fun e w' => e = .returned (.int .i64 ((bdCost B : Int) + 16)) ∧ Below w.heap.size w w' := by
 obtain ⟨y, s, rfl, rfl, hA⟩ := hv
 have h1 := ladder_Cost_any (skOf k L B) s w hA (at_short h hA) (skOf_fit h) (sk_hr h)
 rw [costOf_sk h] at h1
 exact h1
end Go.Proofs.YtcbbenncdainfaaGreatDoor
namespace Go.Proofs.YtcbbenncdainfaaGreatDoor
open Go Go.RowKit
def hlMax (r s : List Nat) : List Nat := (List.range r.length).map fun i => max (r.getD i 0) (s.getD i 0)
def cmMrg (l m : List Int) : List Int := (List.range l.length).map fun i => satI (l.getD i 0) (m.getD i 0)
def Bd.merge : Bd → Bd → Option Bd
 | .num l, .num m => (exGather l m).map .num
 | .reg b r, .reg _ s => some (.reg b (hlMax r s))
 | .cnt c l, .cnt _ m => some (.cnt c (cmMrg l m))
 | .bkt f l, .bkt _ m => some (.bkt f (hiDone (hiPuts l m)))
 | _, _ => none
def wkMerge (s t : Nat × Bd) : Nat × Bd :=
 match (wkTo s (max s.1 t.1)).2.merge (wkTo t (max s.1 t.1)).2 with
 | some B => (max s.1 t.1, B)
 | none => (max s.1 t.1 + 1, ((wkTo s (max s.1 t.1)).2.low.merge (wkTo t (max s.1 t.1)).2.low).getD (wkTo s (max s.1 t.1)).2.low)
theorem up_sub : ∀ (m l : List Int), Up l → Up m → (∀ y ∈ l, y ∈ m) → l.length ≤ m.length
 | [], l, _, _, h => by
  cases l with
  | nil => exact Nat.le_refl _
  | cons x l => exact absurd (h x List.mem_cons_self) (by simp)
 | x :: m, l, hl, hm, h => by
  obtain ⟨m1, m2⟩ := up_tail hm
  cases l with
  | nil => exact Nat.zero_le _
  | cons y l =>
   obtain ⟨l1, l2⟩ := up_tail hl
   have := up_sub m l l1 m1 (fun z hz => by
    rcases List.mem_cons.1 (h z (List.mem_cons_of_mem _ hz)) with e | e
    ·have a1 := l2 z hz
     rcases List.mem_cons.1 (h y List.mem_cons_self) with e2 | e2
     ·omega
     ·have := m2 y e2; omega
    ·exact e)
   simp only [List.length_cons]
   omega
theorem gather_some : ∀ (r l m : List Int), Up l → l.length ≤ 64 → exGather l r = some m → Up m ∧ m.length ≤ 64 ∧ ∀ y, y ∈ m ↔ y ∈ l ∨ y ∈ r
 | [], l, m, hu, hl, h => by
  obtain rfl : l = m := by simpa [exGather] using h
  exact ⟨hu, hl, fun y => by simp⟩
 | n :: r, l, m, hu, hl, h => by
  rw [exGather] at h
  split at h
  ·cases h
  ·rename_i hc
   rw [exIns_eq l n hu] at h hc
   obtain ⟨h1, h2, h3⟩ := gather_some r _ m (insR_up l n hu) (by omega) h
   refine ⟨h1, h2, fun y => ?_⟩
   rw [h3, insR_mem, List.mem_cons]
   constructor
   ·rintro ((e | e) | e)
    ·exact .inr (.inl e)
    ·exact .inl e
    ·exact .inr (.inr e)
   ·rintro (e | e | e)
    ·exact .inl (.inr e)
    ·exact .inl (.inl e)
    ·exact .inr e
theorem gather_none : ∀ (r l : List Int), Up l → exGather l r = none → ∀ m, Up m → (∀ y, y ∈ l ∨ y ∈ r → y ∈ m) → 64 < m.length
 | [], l, _, h, _, _, _ => by simp [exGather] at h
 | n :: r, l, hu, h, m, hm, hs => by
  rw [exGather] at h
  split at h
  ·rename_i hc
   rw [exIns_eq l n hu] at hc
   have := up_sub m (insR l n) (insR_up l n hu) hm (fun y hy => by
    rcases (insR_mem l n y).1 hy with e | e
    ·exact hs y (.inr (by rw [e]; exact List.mem_cons_self))
    ·exact hs y (.inl e))
   omega
  ·rw [exIns_eq l n hu] at h
   exact gather_none r _ (insR_up l n hu) h m hm (fun y hy => by
    rcases hy with e | e
    ·rcases (insR_mem l n y).1 e with e | e
     ·exact hs y (.inr (by rw [e]; exact List.mem_cons_self))
     ·exact hs y (.inl e)
    ·exact hs y (.inr (List.mem_cons_of_mem _ e)))
theorem hlMax_len (r s : List Nat) : (hlMax r s).length = r.length := by simp [hlMax]
theorem hlMax_at (r s : List Nat) (i : Nat) (hi : i < r.length) : (hlMax r s).getD i 0 = max (r.getD i 0) (s.getD i 0) := by
 unfold hlMax
 rw [List.getD_eq_getElem?_getD, List.getElem?_map, List.getElem?_range hi]
 rfl
theorem getD_mem0 (l : List Nat) (i : Nat) (h : l.length ≤ i) : l.getD i 0 = 0 := by rw [List.getD_eq_getElem?_getD, List.getElem?_eq_none h]; rfl
theorem cmMrg_len (l m : List Int) : (cmMrg l m).length = l.length := by simp [cmMrg]
theorem cmMrg_at (l m : List Int) (i : Nat) (hi : i < l.length) : (cmMrg l m).getD i 0 = satI (l.getD i 0) (m.getD i 0) := by
 unfold cmMrg
 rw [List.getD_eq_getElem?_getD, List.getElem?_map, List.getElem?_range hi]
 rfl
theorem cmMrg_u64 (l m : List Int) (hl : U64s l) (hm : U64s m) : U64s (cmMrg l m) := by
 intro x hx
 obtain ⟨i, -, rfl⟩ := List.mem_map.1 hx
 exact satI_u64 _ _ (getD_u64 l hl i) (getD_u64 m hm i)
def Bd.wide : Bd → Prop
 | .num _ => False
 | _ => True
theorem same_cols {c d L : Nat} (h : c * 2 ^ L = 32) (h' : d * 2 ^ L = 32) : c = d := Nat.eq_of_mul_eq_mul_right (Nat.two_pow_pos L) (h.trans h'.symm)
theorem merge_ok {k L : Nat} {x y z : Bd} (hx : x.Ok k L) (hy : y.Ok k L) (hz : x.merge y = some z) : z.Ok k L := by
 cases x with
 | num l =>
  cases y with
  | num m =>
   obtain ⟨a1, a2, a3, a4, a5⟩ := hx
   obtain ⟨b1, b2, b3, b4, b5⟩ := hy
   obtain ⟨q, hq, rfl⟩ := Option.map_eq_some_iff.1 hz
   obtain ⟨c1, c2, c3⟩ := gather_some m l q a3 a4 hq
   exact ⟨a1, a2, c1, c2, fun n hn => ((c3 n).1 hn).elim (a5 n) (b5 n)⟩
  | reg b r => cases hz
  | cnt c l => cases hz
  | bkt f l => cases hz
 | reg b r =>
  cases y with
  | num m => cases hz
  | reg b' s =>
   obtain ⟨a1, a2, a3, a4, a5, a6⟩ := hx
   obtain ⟨b1, b2, b3, b4, b5, b6⟩ := hy
   obtain rfl : _ = z := Option.some.inj hz
   refine ⟨a1, a2, a3, a4, by rw [hlMax_len, a5], fun i => ?_⟩
   by_cases hi : i < r.length
   ·rw [hlMax_at _ _ _ hi]
    have := a6 i
    have := b6 i
    obtain rfl : b = b' := by omega
    omega
   ·rw [getD_mem0 _ _ (by rw [hlMax_len]; omega)]; omega
  | cnt c l => cases hz
  | bkt f l => cases hz
 | cnt c l =>
  cases y with
  | num m => cases hz
  | reg b r => cases hz
  | cnt c' m =>
   obtain ⟨a1, a2, a3, a4, a5⟩ := hx
   obtain ⟨b1, b2, b3, b4, b5⟩ := hy
   obtain rfl : _ = z := Option.some.inj hz
   exact ⟨a1, a2, a3, by rw [cmMrg_len, a4], cmMrg_u64 l m a5 b5⟩
  | bkt f l => cases hz
 | bkt f l =>
  cases y with
  | num m => cases hz
  | reg b r => cases hz
  | cnt c m => cases hz
  | bkt f' m =>
   obtain ⟨a1, a2, a3, a4, a5, a6, a7⟩ := hx
   obtain ⟨b1, b2, b3, b4, b5, b6, b7⟩ := hy
   obtain rfl : f = f' := by omega
   obtain rfl : _ = z := Option.some.inj hz
   refine ⟨a1, a2, a3, hiDone_up (hiPuts_up m l a4), hiDone_pos, hiDone_u64 (hiPuts_u64 m l a6 b6), fun x hx => ?_⟩
   rcases hiPuts_mem m l x (List.mem_filter.1 hx).1 with h | ⟨y, hy, e⟩ | ⟨y, hy, e⟩
   ·exact a7 x h
   ·rw [e]; exact a7 y hy
   ·rw [e]; exact b7 y hy
end Go.Proofs.YtcbbenncdainfaaGreatDoor
namespace Go.Proofs.YtcbbenncdainfaaGreatDoor
open Go Go.RowKit Go.Shelf
theorem New_any (k : Nat) (hk : k = 1 ∨ k = 2 ∨ k = 3) (w : World) : Calls Tryz.prog 17 #[.int .i64 k] w fun e w' => ∃ x, e = .returned (.tuple #[x, .int .i64 0]) ∧ SkB w' x k 0 (bdNew k) ∧ Below w.heap.size w w' := by
 rcases hk with rfl | rfl | rfl
 ·exact New_1 w
 ·exact New_2 w
 ·exact New_3 w
end Go.Proofs.YtcbbenncdainfaaGreatDoor
namespace Go.Proofs.YtcbbenncdainfaaGreatDoor
open Go Go.ChangeShapes Go.WideShapes Go.ChangeAt Go.RowKit Go.Lib Go.Deep Go.Shelf
section
variable {H : Type} {enc : TypeId × Value → H} {w : World} {base : Nat} {held : Bool}
set_option maxRecDepth 100000 in
theorem sk_elem_cc (n : Nat) (cs : List Value) (x : DataW H × List MemPlace) (h : DataW.trod enc Tryz.prog w base (fun _ => true) held n 33 cs = some x) : ∃ (y : Sk) (s : SS), cs = [.int .i64 y.kind, .int .i64 y.level, .slice s.ea s.el s.ec, .int .i64 y.hb, .string y.hr, .int .i64 y.cr, .int .i64 y.cc, .slice s.ca s.cl s.cc, .int .i64 y.gf, .slice s.ga s.gl s.gc] ∧ s.At w.heap.size w y ∧ y.arg ∧ I64 y.cc := by
 obtain ⟨hl, m, hf⟩ := fields_of Tryz.underlying33 h
 replace hl : cs.length = 10 := hl.trans (by kernel_rfl)
 obtain ⟨y0, h0⟩ := hf 0 _ rfl
 obtain ⟨y1, h1⟩ := hf 1 _ rfl
 obtain ⟨y2, h2⟩ := hf 2 _ rfl
 obtain ⟨y3, h3⟩ := hf 3 _ rfl
 obtain ⟨y4, h4⟩ := hf 4 _ rfl
 obtain ⟨y5, h5⟩ := hf 5 _ rfl
 match cs, hl with
 | [v1, v2, v3, v4, v5, v6, v7, v8, v9, v10], _ =>
  change DataW.trod enc Tryz.prog w base _ held m 3 (([v1, v2, v3, v4, v5, v6, v7, v8, v9, v10].drop 0).take (Tryz.prog.cellsOf 3)) = some y0 at h0
  change DataW.trod enc Tryz.prog w base _ held m 3 (([v1, v2, v3, v4, v5, v6, v7, v8, v9, v10].drop 1).take (Tryz.prog.cellsOf 3)) = some y1 at h1
  change DataW.trod enc Tryz.prog w base _ held m 24 (([v1, v2, v3, v4, v5, v6, v7, v8, v9, v10].drop 2).take (Tryz.prog.cellsOf 24)) = some y2 at h2
  change DataW.trod enc Tryz.prog w base _ held m 26 (([v1, v2, v3, v4, v5, v6, v7, v8, v9, v10].drop 3).take (Tryz.prog.cellsOf 26)) = some y3 at h3
  change DataW.trod enc Tryz.prog w base _ held m 28 (([v1, v2, v3, v4, v5, v6, v7, v8, v9, v10].drop 5).take (Tryz.prog.cellsOf 28)) = some y4 at h4
  change DataW.trod enc Tryz.prog w base _ held m 31 (([v1, v2, v3, v4, v5, v6, v7, v8, v9, v10].drop 8).take (Tryz.prog.cellsOf 31)) = some y5 at h5
  rw [show Tryz.prog.cellsOf 3 = 1 by kernel_rfl] at h0 h1
  rw [show Tryz.prog.cellsOf 24 = 1 by kernel_rfl] at h2
  rw [show Tryz.prog.cellsOf 26 = 2 by kernel_rfl] at h3
  rw [show Tryz.prog.cellsOf 28 = 3 by kernel_rfl] at h4
  rw [show Tryz.prog.cellsOf 31 = 2 by kernel_rfl] at h5
  simp only [List.drop_zero, List.drop_succ_cons, List.take_succ_cons, List.take_zero] at h0 h1 h2 h3 h4 h5
  obtain ⟨s0, c0, -, -⟩ := DataW.trod_int undInt h0
  obtain ⟨s1, c1, -, -⟩ := DataW.trod_int undInt h1
  obtain ⟨-, m2, f2⟩ := struct_cells Tryz.underlying24 (by kernel_rfl) (by kernel_rfl) h2
  obtain ⟨-, m3, f3⟩ := struct_cells Tryz.underlying26 (by kernel_rfl) (by kernel_rfl) h3
  obtain ⟨-, m4, f4⟩ := struct_cells Tryz.underlying28 (by kernel_rfl) (by kernel_rfl) h4
  obtain ⟨-, m5, f5⟩ := struct_cells Tryz.underlying31 (by kernel_rfl) (by kernel_rfl) h5
  obtain ⟨u2, z2, e2, g2⟩ := f2 0 _ rfl
  obtain ⟨u3, z3, e3, g3⟩ := f3 0 _ rfl
  obtain ⟨u4, z4, e4, g4⟩ := f3 1 _ rfl
  obtain ⟨u5, z5, e5, g5⟩ := f4 0 _ rfl
  obtain ⟨u6, z6, e6, g6⟩ := f4 1 _ rfl
  obtain ⟨u7, z7, e7, g7⟩ := f4 2 _ rfl
  obtain ⟨u8, z8, e8, g8⟩ := f5 0 _ rfl
  obtain ⟨u9, z9, e9, g9⟩ := f5 1 _ rfl
  obtain ⟨ea, el, ec, le, k2, S2, U2⟩ := slC_open (k := 1) (encA := encU) (by omega) Tryz.underlying22 (by kernel_rfl) u64_elem g2
  obtain ⟨s3, c3, -, -⟩ := DataW.trod_int undInt g3
  obtain ⟨s4, c4, -, -⟩ := DataW.trod_string undStr g4
  obtain ⟨s5, c5, -, -⟩ := DataW.trod_int undInt g5
  obtain ⟨s6, c6, -, w6⟩ := DataW.trod_int undInt g6
  obtain ⟨ca, cl, cc, lc, k7, S7, U7⟩ := slC_open (k := 1) (encA := encU) (by omega) Tryz.underlying22 (by kernel_rfl) u64_elem g7
  obtain ⟨s8, c8, -, -⟩ := DataW.trod_int undInt g8
  obtain ⟨ga, gl, gc, lg, k9, S9, U9⟩ := slC_open (k := 2) (encA := encB) (by omega) Tryz.underlying29 (by kernel_rfl) bin_elem g9
  simp only [List.getElem?_cons_zero, List.getElem?_cons_succ, Option.some.injEq, List.cons.injEq, and_true] at e2 e3 e4 e5 e6 e7 e8 e9 c0 c1 c3 c4 c5 c6 c8
  refine ⟨⟨s0, s1, le, s3, s4, s5, s6, lc, s8, lg⟩, ⟨ea, el, ec, ca, cl, cc, ga, gl, gc⟩, ?_, ⟨S2, S7, S9⟩, ⟨U2, U7, U9⟩, wf_i64 w6⟩
  rw [c0, c1, e2, k2, e3, c3, e4, c4, e5, c5, e6, c6, e7, k7, e8, c8, e9, k9]
set_option maxRecDepth 100000 in
theorem open_sk_cc {r : Reach} {b0 : Nat} {v : Value} {d : DataW H} {p : List MemPlace} (hv : Value.okWide Tryz.prog w r b0 33 v) (h : DataW.Trod enc Tryz.prog w base (fun _ => true) held 33 v d p) :
  ∃ (x : Sk) (s : SS), v = .agg #[.int .i64 x.kind, .int .i64 x.level, .slice s.ea s.el s.ec, .int .i64 x.hb, .string x.hr, .int .i64 x.cr, .int .i64 x.cc, .slice s.ca s.cl s.cc, .int .i64 x.gf, .slice s.ga s.gl s.gc] ∧ s.At w.heap.size w x ∧ x.arg ∧ I64 x.cc := by
 obtain ⟨cs, rfl, -⟩ := okWide_struct Tryz.underlying33 hv
 obtain ⟨fuel, hf⟩ := h
 obtain ⟨x, s, h1, h2, h3⟩ := sk_elem_cc _ _ _ hf
 refine ⟨x, s, ?_, h2, h3⟩
 have h1' : cs.toList = [.int .i64 x.kind, .int .i64 x.level, .slice s.ea s.el s.ec, .int .i64 x.hb, .string x.hr, .int .i64 x.cr, .int .i64 x.cc, .slice s.ca s.cl s.cc, .int .i64 x.gf, .slice s.ga s.gl s.gc] := h1
 rw [← Array.toArray_toList (xs := cs), h1']
end
end Go.Proofs.YtcbbenncdainfaaGreatDoor
namespace Go.Proofs.YtcbbenncdainfaaGreatDoor
open Go Go.RowKit Go.Shelf
def upB : List Int → Bool
 | x :: y :: r => decide (x < y) && upB (y :: r)
 | _ => true
theorem upB_iff : ∀ l : List Int, upB l = true ↔ Up l
 | [] => by simp [upB, Up]
 | [x] => by simp [upB, Up]
 | x :: y :: r => by
  have ih := upB_iff (y :: r)
  simp only [upB, Bool.and_eq_true, decide_eq_true_eq, ih]
  constructor
  ·rintro ⟨h1, h2⟩
   refine List.pairwise_cons.2 ⟨fun z hz => ?_, h2⟩
   rcases List.mem_cons.1 hz with rfl | hz
   ·exact h1
   ·have := (List.pairwise_cons.1 h2).1 z hz; omega
  ·intro h
   obtain ⟨h1, h2⟩ := List.pairwise_cons.1 h
   exact ⟨h1 y List.mem_cons_self, h2⟩
theorem exRight_upB (l : List Int) : exRight l = (decide (l.length ≤ 64) && upB l) := by
 rw [Bool.eq_iff_iff, Bool.and_eq_true, decide_eq_true_eq, upB_iff]
 exact ⟨fun h => ⟨(exRight_up l h).2, (exRight_up l h).1⟩, fun h => up_right l h.2 h.1⟩
theorem upB_at {l : List Int} {k : Nat} {x y : Int} (hx : l[k]? = some x) (hy : l[k + 1]? = some y) : upB (l.drop k) = (decide (x < y) && upB (l.drop (k + 1))) := by
 rw [drop_cons' hx, drop_cons' hy]; rfl
theorem upB_end {l : List Int} {k : Nat} (h : l.length ≤ k + 1) : upB (l.drop k) = true := by
 have : (l.drop k).length ≤ 1 := by rw [List.length_drop]; omega
 match hl : l.drop k, this with
 | [], _ => rfl
 | [x], _ => rfl
set_option maxRecDepth 100000 in
set_option maxHeartbeats 1000000 in
theorem ref06_Right_any (a : Option Addr) (len cap : Nat) (l : List Int) (w : World) (hL : SlE encU 1 w.heap.size w a len l) (hm : len ≤ maxLen) (hU : U64s l) :
  Calls Tryz.prog 54 #[.agg #[.slice a len cap]] w fun e w' => e = .returned (.bool (exRight l)) ∧ Below w.heap.size w w' := by
 have hlen := hL.1
 unfold maxLen at hm
 obtain ⟨W0, hW0, hX0, hB0, hs0⟩ := boxes1 w #[.slice a len cap] 24
 have HX0 := Lib.hid hX0
 have HL := Lib.hid (hL.go hB0)
 have HU := Lib.hid hU
 have HN := Lib.hid hlen
 have HB0 := Lib.hid hB0
 have HE := Lib.hid (exRight_upB l)
 have hz0 : w.heap.size < W0.heap.size := by omega
 clear hL hB0 hlen hU
 generalize exRight l = bR at HE ⊢
 have c0 : W0.cell? ⟨w.heap.size, 0, none⟩ = some (.slice a len cap) := cCc hX0 0
 clear hX0
 go_enter Tryz.func54, Tryz.ntmps54
 go_wp2_with fail
 go_loopw [3] (fun i wr => ∃ (k : Nat), i = .int .i64 ((k : Int) + 1) ∧ (k ≤ len) ∧ (k = 0 ∨ k < len) ∧ Below W0.heap.size W0 wr ∧ Hid (upB l = upB (l.drop k))) (fun i _ => len + 1 - (intOf i).toNat)
 case atStart => exact ⟨0, rfl, Nat.zero_le _, .inl rfl, Below.refl _ _, rfl⟩
 case round =>
  obtain ⟨k, rfl, hk, hk0, hB, HS⟩ := hrel
  have hsz := hB.size
  have r0 : wr.cell? ⟨w.heap.size, 0, none⟩ = some (.slice a len cap) := (hB.cell (p := ⟨w.heap.size, 0, none⟩) hz0).trans c0
  by_cases hlt : k + 1 < len
  ·obtain ⟨x, b, off, hx, rfl, hbb, hc⟩ := (HL.out.below hB).at (j := k) (by omega)
   obtain ⟨y, b', off', hy, e1, hbb', hc'⟩ := (HL.out.below hB).at (j := k + 1) hlt
   injection e1 with e1
   injection e1 with e1 e2
   subst e1; subst e2
   have p0 : wr.cell? ⟨b, off + k * 1 + 0, none⟩ = some (.int .u64 x) := hc 0 (by omega)
   have q0 : wr.cell? ⟨b, off + (k + 1) * 1 + 0, none⟩ = some (.int .u64 y) := hc' 0 (by omega)
   simp only [Nat.mul_one, Nat.add_zero] at p0 q0
   have HX := Lib.hid (upB_at hx hy)
   obtain ⟨u1, u2⟩ := HU.out x (List.mem_of_getElem? hx)
   obtain ⟨v1, v2⟩ := HU.out y (List.mem_of_getElem? hy)
   have i1 : (k : Int) + 1 < (len : Int) := by omega
   clear hc hc' hx hy
   by_cases hxy : x < y
   ·have t0 : decide (y ≤ x) = false := by simp; omega
    have H9 : Hid (upB l = upB (l.drop (k + 1))) := by rw [Hid, HS.out, HX.out, decide_eq_true hxy]; rfl
    go_wp2_with fail
    go_quiet (fail)
    go_wp2_with fail
    go_roundw
    case rel => exact ⟨k + 1, by go_num, by omega, .inr (by omega), bDr hB _, H9.out⟩
    case measure => simp [intOf]; omega
   ·have t0 : decide (y ≤ x) = true := by simp; omega
    have H9 : Hid (bR = false) := by rw [Hid, HE.out, HS.out, HX.out, decide_eq_false hxy]; simp
    go_wp2_with fail
    go_quiet (fail)
    go_wp2_with fail
    go_ret
    exact ⟨by rw [H9.out]; rfl, HB0.out.trans ((bDr hB _).mono HB0.out.size)⟩
  ·have H9 : Hid (bR = decide ((len : Int) ≤ 64)) := by
    rw [Hid, HE.out, HS.out, upB_end (by rw [← HN.out]; omega), Bool.and_true, ← HN.out]
    exact decide_eq_decide.2 (by omega)
   go_wp2_with fail
   go_ret
   exact ⟨by rw [H9.out]; rfl, HB0.out.trans (hB.mono HB0.out.size)⟩
set_option maxRecDepth 100000 in
set_option maxHeartbeats 1000000 in
theorem ref06_Numbers_any (a1 : Option Addr) (len1 cap1 : Nat) (l1 : List Int) (a2 : Option Addr) (len2 cap2 : Nat) (l2 : List Int) (w : World) (h1 : SlE encU 1 w.heap.size w a1 len1 l1) (h2 : SlE encU 1 w.heap.size w a2 len2 l2) (hm : len1 ≤ maxLen) :
  Calls Tryz.prog 41 #[.slice a1 len1 cap1, .slice a2 len2 cap2] w fun e w' => e = .returned (.bool (l1 == l2)) ∧ Below w.heap.size w w' := by
 have e1 := h1.1
 have e2 := h2.1
 unfold maxLen at hm
 by_cases hl : len1 = len2
 ·subst hl
  have t0 : ((len1 : Int) != (len1 : Int)) = false := by simp
  have E1 := Lib.hid e1
  have E2 := Lib.hid e2
  clear e1 e2
  go_enter Tryz.func41, Tryz.ntmps41
  go_wp2_with fail
  go_loopw [5] (fun i wr => ∃ (k : Nat), i = .int .i64 k ∧ k ≤ len1 ∧ Below w.heap.size w wr ∧ Hid (l1.take k = l2.take k)) (fun i _ => len1 - (intOf i).toNat)
  case atStart => exact ⟨0, rfl, Nat.zero_le _, Below.refl _ _, rfl⟩
  case round =>
   obtain ⟨k, rfl, hk, hB, HF⟩ := hrel
   by_cases hlt : k < len1
   ·obtain ⟨x, b1, o1, hx, ea1, hb1, hc1⟩ := (h1.below hB).at hlt
    obtain ⟨y, b2, o2, hy, ea2, hb2, hc2⟩ := (h2.below hB).at hlt
    subst ea1; subst ea2
    have p0 : wr.cell? ⟨b1, o1 + k * 1 + 0, none⟩ = some (.int .u64 x) := hc1 0 (by omega)
    have q0 : wr.cell? ⟨b2, o2 + k * 1 + 0, none⟩ = some (.int .u64 y) := hc2 0 (by omega)
    simp only [Nat.mul_one, Nat.add_zero] at p0 q0
    have i0 : (0 : Int) ≤ (k : Int) := by omega
    have i1 : (k : Int) < (len1 : Int) := by omega
    have HX := Lib.hid hx
    have HY := Lib.hid hy
    clear hc1 hc2 hx hy h1 h2
    by_cases hxy : x = y
    ·have n1 : (x != y) = false := by simp [hxy]
     have HXY : Hid (x = y) := hxy
     clear hxy
     go_wp2_with fail
     go_quiet (fail)
     go_wp2_with fail
     go_roundw
     case rel => exact ⟨k + 1, by go_num, by omega, bDr hB _, by rw [Hid, take_snoc' HX.out, take_snoc' HY.out, HF.out, HXY.out]⟩
     case measure => simp [intOf]; omega
    ·have n1 : (x != y) = true := by simp [hxy]
     have HXY : Hid (¬ x = y) := hxy
     clear hxy
     go_wp2_with fail
     go_quiet (fail)
     go_wp2_with fail
     go_ret
     have hne : (l1 == l2) = false := by
      rw [beq_eq_false_iff_ne]
      intro e
      have hx := HX.out
      rw [e, HY.out] at hx
      exact HXY.out (Option.some.inj hx).symm
     exact ⟨by rw [hne]; rfl, bDr hB _⟩
   ·obtain rfl : k = len1 := by omega
    clear h1 h2
    go_wp2_with fail
    go_ret
    have h9 := HF.out
    rw [List.take_of_length_le (by rw [← E1.out]; omega), List.take_of_length_le (by rw [← E2.out]; omega)] at h9
    exact ⟨by rw [h9]; simp, hB⟩
 ·have t0 : ((len1 : Int) != (len2 : Int)) = true := by rw [bne_iff_ne]; omega
  have hne : Hid ((l1 == l2) = false) := by
   rw [Hid, beq_eq_false_iff_ne]
   intro e
   rw [e] at e1
   omega
  clear e1 e2
  go_enter Tryz.func41, Tryz.ntmps41
  go_wp2_with fail
  go_ret
  exact ⟨by rw [hne.out]; rfl, Below.refl _ _⟩
end Go.Proofs.YtcbbenncdainfaaGreatDoor
namespace Go.Proofs.YtcbbenncdainfaaGreatDoor
open Go Go.RowKit Go.Shelf
theorem ref07_isBits_any (n : Int) (w : World) : Calls Tryz.prog 82 #[.int .i64 n] w fun e w' => e = .returned (.bool (isBitsB n)) ∧ w' = w := by
 have HR : Hid (isBitsB n = (decide (3 ≤ n) && decide (n ≤ 8))) := rfl
 generalize isBitsB n = b at HR ⊢
 by_cases h1 : 3 ≤ n
 ·by_cases h2 : n ≤ 8
  ·have H9 : Hid (b = true) := by rw [Hid, HR.out, decide_eq_true h1, decide_eq_true h2]; rfl
   go_enter Tryz.func82, Tryz.ntmps82
   go_wp2_with fail
   go_ret
   exact ⟨by rw [H9.out]; rfl, rfl⟩
  ·have H9 : Hid (b = false) := by rw [Hid, HR.out, decide_eq_false h2, Bool.and_false]
   go_enter Tryz.func82, Tryz.ntmps82
   go_wp2_with fail
   go_ret
   exact ⟨by rw [H9.out]; rfl, rfl⟩
 ·have H9 : Hid (b = false) := by rw [Hid, HR.out, decide_eq_false h1, Bool.false_and]
  go_enter Tryz.func82, Tryz.ntmps82
  go_wp2_with fail
  go_ret
  exact ⟨by rw [H9.out]; rfl, rfl⟩
theorem regsOk_octs (b : Int) (s : ByteArray) : regsOk b s = okRegs b (octs s) := by
 have h : s.data.toList = (octs s).map (·.2) := by
  apply List.ext_getElem?
  intro i
  by_cases hi : i < s.size
  ·simp [octs, hi]
  ·simp [octs, hi]
 unfold regsOk okRegs
 rw [h, List.all_map]
 rfl
set_option maxRecDepth 100000 in
set_option maxHeartbeats 1000000 in
theorem ref07_Right_mid (b : Nat) (hb1 : 3 ≤ b) (hb2 : b ≤ 8) (s : ByteArray) (q : Int) (hq : q = 2 ^ b) (w : World) :
  Calls Tryz.prog 55 #[.agg #[.int .i64 b, .string s]] w fun e w' => e = .returned (.bool ((s.size : Int) == q && regsOk b s)) ∧ Below w.heap.size w w' := by
 obtain ⟨W0, hW0, hX0, hB0, hs0⟩ := boxes1 w #[.int .i64 b, .string s] 26
 have HIB : Hid (∀ w, Calls Tryz.prog 82 #[.int .i64 b] w fun e w' => e = .returned (.bool true) ∧ w' = w) := fun w => (ref07_isBits_any b w).mono fun e w' ⟨h1, h2⟩ => ⟨by rw [h1]; simp [isBitsB]; omega, h2⟩
 have hq1 : 0 ≤ q ∧ q ≤ 256 := by
  rcases (by omega : b = 3 ∨ b = 4 ∨ b = 5 ∨ b = 6 ∨ b = 7 ∨ b = 8) with rfl | rfl | rfl | rfl | rfl | rfl <;> (rw [hq]; decide)
 obtain ⟨hq1, hq2⟩ := hq1
 have hw : IntKind.i64.wrap (2 ^ b) = q := by rw [← hq]; exact IntWalk.i64_in _ (by omega)
 have hz0 : w.heap.size < W0.heap.size := by omega
 have HB0 := Lib.hid hB0
 have HR : Hid (regsOk b s = okRegs b (octs s)) := regsOk_octs b s
 have HO := Lib.hid (octs_len s)
 obtain ⟨c0, c1⟩ := cl2 hX0
 clear hX0 hB0 hq
 by_cases hs : (s.size : Int) = q
 case neg =>
  have t0 : ((s.size : Int) != q) = true := by rw [bne_iff_ne]; exact hs
  have H9 : Hid (((s.size : Int) == q && regsOk b s) = false) := by rw [Hid, beq_eq_false_iff_ne.2 hs]; rfl
  generalize ((s.size : Int) == q && regsOk b s) = bR at H9 ⊢
  clear hs
  go_enter Tryz.func55, Tryz.ntmps55
  go_wp2_with fail
  go_quiet ((go_at_call 82; exact Calls.quiet_of_same (HIB.out _)))
  go_wp2_with fail
  go_ret
  exact ⟨by rw [H9.out]; rfl, bDr HB0.out _⟩
 have t0 : ((s.size : Int) != q) = false := by rw [bne_eq_false_iff_eq]; exact hs
 have hs256 : s.size ≤ 256 := by omega
 have H8 : Hid (((s.size : Int) == q && regsOk b s) = okRegs b (octs s)) := by rw [Hid, beq_iff_eq.2 hs, Bool.true_and, HR.out]
 generalize ((s.size : Int) == q && regsOk b s) = bR at H8 ⊢
 clear hs
 go_enter Tryz.func55, Tryz.ntmps55
 go_wp2_with fail
 go_quiet ((go_at_call 82; exact Calls.quiet_of_same (HIB.out _)))
 have hBq : Below W0.heap.size W0 (W0.drewN nq) := bDr (Below.refl _ _) _
 go_wp2_with fail
 go_loopw [3] (fun i wr => ∃ (k : Nat), i = .int .i64 k ∧ k ≤ s.size ∧ Below W0.heap.size W0 wr ∧ Hid (okRegs b ((octs s).take k) = true)) (fun i _ => s.size - (intOf i).toNat)
 case atStart => exact ⟨0, rfl, Nat.zero_le _, hBq, rfl⟩
 case round =>
  obtain ⟨k, rfl, hk, hB, HS⟩ := hrel
  have r0 : wr.cell? ⟨w.heap.size, 0, none⟩ = some (.int .i64 b) := (hB.cell (p := ⟨w.heap.size, 0, none⟩) hz0).trans c0
  have r1 : wr.cell? ⟨w.heap.size, 1, none⟩ = some (.string s) := (hB.cell (p := ⟨w.heap.size, 1, none⟩) hz0).trans c1
  by_cases hlt : k < s.size
  ·have HX := Lib.hid (octs_at s k hlt)
   have hx := UInt8.toNat_lt (s[k]'hlt)
   have HT : Hid (okRegs b ((octs s).take (k + 1)) = !decide (65 - (b : Int) < ((s[k]'hlt).toNat : Int))) := by
    rw [Hid, take_snoc' HX.out, okRegs_append, HS.out, okRegs_one, Bool.true_and]
   by_cases ht : 65 - (b : Int) < ((s[k]'hlt).toNat : Int)
   ·have H9 : Hid (bR = false) := by
     have h1 : okRegs b ((octs s).take (k + 1)) = false := by rw [HT.out, decide_eq_true ht]; rfl
     rw [Hid, H8.out]
     cases h2 : okRegs b (octs s) with
     | false => rfl
     | true =>
      rw [← List.take_append_drop (k + 1) (octs s), okRegs_append, h1] at h2
      cases h2
    go_wp2_with fail
    go_quiet (fail)
    go_wp2_with fail
    go_ret
    exact ⟨by rw [H9.out]; rfl, HB0.out.trans ((bDr hB _).mono (by omega))⟩
   ·have H9 : Hid (okRegs b ((octs s).take (k + 1)) = true) := by rw [Hid, HT.out, decide_eq_false ht]; rfl
    go_wp2_with fail
    go_quiet (fail)
    go_wp2_with fail
    go_roundw
    case rel => exact ⟨k + 1, by go_num, by omega, bDr hB _, H9.out⟩
    case measure => simp [intOf]; omega
  ·obtain rfl : k = s.size := by omega
   have H9 : Hid (bR = true) := by rw [Hid, H8.out, ← HS.out, List.take_of_length_le (by rw [HO.out]; exact Nat.le_refl _)]
   go_wp2_with fail
   go_ret
   exact ⟨by rw [H9.out]; rfl, HB0.out.trans (hB.mono (by omega))⟩
set_option maxRecDepth 100000 in
set_option maxHeartbeats 1000000 in
theorem ref07_Right_any (b : Int) (s : ByteArray) (w : World) :
  Calls Tryz.prog 55 #[.agg #[.int .i64 b, .string s]] w fun e w' => e = .returned (.bool (hlRight b s)) ∧ Below w.heap.size w w' := by
 cases hb : isBitsB b with
 | true =>
  have hr : 3 ≤ b ∧ b ≤ 8 := by simpa [isBitsB] using hb
  obtain ⟨n, rfl⟩ : ∃ n : Nat, b = n := ⟨b.toNat, by omega⟩
  have h := ref07_Right_mid n (by omega) (by omega) s _ rfl w
  have e : hlRight n s = ((s.size : Int) == 2 ^ n && regsOk n s) := by unfold hlRight; rw [hb, Bool.true_and, Int.toNat_natCast]
  rw [e]
  exact h
 | false =>
  obtain ⟨W0, hW0, hX0, hB0, hs0⟩ := boxes1 w #[.int .i64 b, .string s] 26
  have HIB : Hid (∀ w, Calls Tryz.prog 82 #[.int .i64 b] w fun e w' => e = .returned (.bool false) ∧ w' = w) := fun w => (ref07_isBits_any b w).mono fun e w' ⟨h1, h2⟩ => ⟨by rw [h1, hb], h2⟩
  have H9 : Hid (hlRight b s = false) := by unfold hlRight; rw [Hid, hb]; rfl
  have HB0 := Lib.hid hB0
  obtain ⟨c0, c1⟩ := cl2 hX0
  clear hX0 hB0 hb
  generalize hlRight b s = bR at H9 ⊢
  go_enter Tryz.func55, Tryz.ntmps55
  go_wp2_with fail
  go_quiet ((go_at_call 82; exact Calls.quiet_of_same (HIB.out _)))
  go_wp2_with fail
  go_ret
  exact ⟨by rw [H9.out]; rfl, bDr HB0.out _⟩
end Go.Proofs.YtcbbenncdainfaaGreatDoor
namespace Go.Proofs.YtcbbenncdainfaaGreatDoor
open Go Go.RowKit Go.Shelf
def is08 (r c : Int) : Bool := (decide (1 ≤ r) && decide (r ≤ 4)) && (((c == 4 || c == 8) || c == 16) || c == 32)
theorem is08_shape (r c : Int) (hc : I64 c) : is08 r c = isShapeB r c := by
 unfold is08 isShapeB
 by_cases h : 4 ≤ c ∧ c ≤ 32
 ·obtain ⟨h1, h2⟩ := h
  obtain ⟨n, rfl⟩ : ∃ n : Nat, c = n := ⟨c.toNat, by omega⟩
  have key : ∀ n ∈ List.range 33, 4 ≤ n → ((((n : Int) == 4 || (n : Int) == 8) || (n : Int) == 16) || (n : Int) == 32) = (bits .and .i64 (n : Int) ((n : Int) - 1) == 0) := by decide +kernel
  rw [key n (List.mem_range.2 (by omega)) (by omega), decide_eq_true h1, decide_eq_true h2, Bool.and_true, Bool.and_true]
 ·have e1 : (((c == 4 || c == 8) || c == 16) || c == 32) = false := by simp; omega
  have e2 : (decide (4 ≤ c) && decide (c ≤ 32)) = false := by simp; omega
  rw [e1, Bool.and_false, Bool.and_assoc (decide (1 ≤ r) && decide (r ≤ 4)), e2, Bool.and_false, Bool.false_and]
set_option maxHeartbeats 1000000 in
theorem ref08_is_any (r c : Int) (w : World) : Calls Tryz.prog 81 #[.int .i64 r, .int .i64 c] w fun e w' => e = .returned (.bool (is08 r c)) ∧ w' = w := by
 by_cases h1 : 1 ≤ r
 case neg =>
  have H9 : Hid (is08 r c = false) := by rw [Hid, is08, decide_eq_false h1]; rfl
  generalize is08 r c = b at H9 ⊢
  go_enter Tryz.func81, Tryz.ntmps81
  go_wp2_with fail
  go_ret
  exact ⟨by rw [H9.out]; rfl, rfl⟩
 by_cases h2 : r ≤ 4
 case neg =>
  have H9 : Hid (is08 r c = false) := by rw [Hid, is08, decide_eq_false h2, Bool.and_false]; rfl
  generalize is08 r c = b at H9 ⊢
  go_enter Tryz.func81, Tryz.ntmps81
  go_wp2_with fail
  go_ret
  exact ⟨by rw [H9.out]; rfl, rfl⟩
 have H9 : Hid (is08 r c = (((c == 4 || c == 8) || c == 16) || c == 32)) := by rw [Hid, is08, decide_eq_true h1, decide_eq_true h2]; rfl
 generalize is08 r c = b at H9 ⊢
 by_cases e4 : c = 4
 ·have H8 : Hid (b = true) := by rw [Hid, H9.out, e4]; rfl
  clear H9
  subst e4
  go_enter Tryz.func81, Tryz.ntmps81
  go_wp2_with fail
  go_ret
  exact ⟨by rw [H8.out]; rfl, rfl⟩
 by_cases e8 : c = 8
 ·have H8 : Hid (b = true) := by rw [Hid, H9.out, e8]; rfl
  clear H9 e4
  subst e8
  go_enter Tryz.func81, Tryz.ntmps81
  go_wp2_with fail
  go_ret
  exact ⟨by rw [H8.out]; rfl, rfl⟩
 by_cases e16 : c = 16
 ·have H8 : Hid (b = true) := by rw [Hid, H9.out, e16]; rfl
  clear H9 e4 e8
  subst e16
  go_enter Tryz.func81, Tryz.ntmps81
  go_wp2_with fail
  go_ret
  exact ⟨by rw [H8.out]; rfl, rfl⟩
 have t4 : (c == 4) = false := beq_eq_false_iff_ne.2 e4
 have t8 : (c == 8) = false := beq_eq_false_iff_ne.2 e8
 have t16 : (c == 16) = false := beq_eq_false_iff_ne.2 e16
 by_cases e32 : c = 32
 ·have H8 : Hid (b = true) := by rw [Hid, H9.out, e32]; rfl
  clear H9 e4 e8 e16 t4 t8 t16
  subst e32
  go_enter Tryz.func81, Tryz.ntmps81
  go_wp2_with fail
  go_ret
  exact ⟨by rw [H8.out]; rfl, rfl⟩
 ·have t32 : (c == 32) = false := beq_eq_false_iff_ne.2 e32
  have H8 : Hid (b = false) := by rw [Hid, H9.out, t4, t8, t16, t32]; rfl
  clear H9 e4 e8 e16 e32
  go_enter Tryz.func81, Tryz.ntmps81
  go_wp2_with fail
  go_ret
  exact ⟨by rw [H8.out]; rfl, rfl⟩
set_option maxRecDepth 100000 in
set_option maxHeartbeats 1000000 in
theorem ref08_Right_any (r c : Int) (a : Option Addr) (len cap : Nat) (l : List Int) (w : World) (hc : I64 c) (hlen : len = l.length) :
  Calls Tryz.prog 56 #[.agg #[.int .i64 r, .int .i64 c, .slice a len cap]] w fun e w' => e = .returned (.bool (cmRight r c l)) ∧ Below w.heap.size w w' := by
 obtain ⟨W0, hW0, hX0, hB0, hs0⟩ := boxes1 w #[.int .i64 r, .int .i64 c, .slice a len cap] 28
 have HIS : Hid (∀ w, Calls Tryz.prog 81 #[.int .i64 r, .int .i64 c] w fun e w' => e = .returned (.bool (is08 r c)) ∧ w' = w) := fun w => ref08_is_any r c w
 have HB0 := Lib.hid hB0
 have HR : Hid (cmRight r c l = (is08 r c && ((len : Int) == r * c))) := by rw [Hid, cmRight, is08_shape r c hc, hlen]
 obtain ⟨d0, d1, d2⟩ := cl3 hX0
 clear hX0 hB0 hlen
 generalize cmRight r c l = bR at HR ⊢
 cases hi : is08 r c with
 | false =>
  rw [hi] at HIS
  have H9 : Hid (bR = false) := by rw [Hid, HR.out, hi]; rfl
  clear hi HR
  go_enter Tryz.func56, Tryz.ntmps56
  go_wp2_with (go_at_call 81; refine (HIS.out _).mono ?_; rintro e w1 ⟨rfl, rfl⟩)
  go_ret
  exact ⟨by rw [H9.out]; rfl, HB0.out⟩
 | true =>
  rw [hi] at HIS
  have h1 : 1 ≤ r ∧ r ≤ 4 ∧ 4 ≤ c ∧ c ≤ 32 := by
   simp only [is08, Bool.and_eq_true, Bool.or_eq_true, decide_eq_true_eq, beq_iff_eq] at hi
   omega
  obtain ⟨r1, r4, c4, c32⟩ := h1
  have hmul : 0 ≤ r * c ∧ r * c ≤ 128 := by
   refine ⟨Int.mul_nonneg (by omega) (by omega), ?_⟩
   calc r * c ≤ 4 * c := Int.mul_le_mul_of_nonneg_right r4 (by omega)
    _ ≤ 128 := by omega
  obtain ⟨m0, m1⟩ := hmul
  have H9 : Hid (bR = ((len : Int) == r * c)) := by rw [Hid, HR.out, hi]; rfl
  generalize hrc : r * c = rc at H9 m0 m1
  have hw : IntKind.i64.wrap (r * c) = rc := by rw [hrc]; exact IntWalk.i64_in _ (by omega)
  clear hi HR
  go_enter Tryz.func56, Tryz.ntmps56
  go_wp2_with (go_at_call 81; refine (HIS.out _).mono ?_; rintro e w1 ⟨rfl, rfl⟩)
  go_ret
  exact ⟨by rw [H9.out]; rfl, HB0.out⟩
set_option maxRecDepth 100000 in
set_option maxHeartbeats 1000000 in
theorem ref08_Same_any (r1 c1 : Int) (a1 : Option Addr) (len1 cap1 : Nat) (l1 : List Int) (r2 c2 : Int) (a2 : Option Addr) (len2 cap2 : Nat) (l2 : List Int) (w : World) (h1 : SlE encU 1 w.heap.size w a1 len1 l1) (h2 : SlE encU 1 w.heap.size w a2 len2 l2) (hm : len1 ≤ maxLen) :
  Calls Tryz.prog 42 #[.agg #[.int .i64 r1, .int .i64 c1, .slice a1 len1 cap1], .agg #[.int .i64 r2, .int .i64 c2, .slice a2 len2 cap2]] w fun e w' => e = .returned (.bool ((r1 == r2 && c1 == c2) && l1 == l2)) ∧ Below w.heap.size w w' := by
 obtain ⟨W0, hW0, hX0, hX1, hB0, hs0⟩ := boxes2 w #[.int .i64 r1, .int .i64 c1, .slice a1 len1 cap1] 28 #[.int .i64 r2, .int .i64 c2, .slice a2 len2 cap2] 28
 have HN := Lib.hid (ref06_Numbers_any a1 len1 cap1 l1 a2 len2 cap2 l2 W0 (h1.go hB0) (h2.go hB0) hm)
 have HB0 := Lib.hid hB0
 obtain ⟨d0, d1, d2⟩ := cl3 hX0
 obtain ⟨f0, f1, f2⟩ := cl3 hX1
 clear hX0 hX1 hB0 h1 h2
 generalize (l1 == l2) = bl at HN ⊢
 cases hr : (r1 == r2) with
 | false =>
  go_enter Tryz.func42, Tryz.ntmps42
  go_wp2_with fail
  go_ret
  exact ⟨rfl, HB0.out⟩
 | true =>
  cases hc : (c1 == c2) with
  | false =>
   go_enter Tryz.func42, Tryz.ntmps42
   go_wp2_with fail
   go_ret
   exact ⟨rfl, HB0.out⟩
  | true =>
   go_enter Tryz.func42, Tryz.ntmps42
   go_wp2_with (go_at_call 41; refine HN.out.mono ?_; rintro e w1 ⟨rfl, hb1⟩)
   go_ret
   exact ⟨rfl, HB0.out.trans (hb1.mono HB0.out.size)⟩
end Go.Proofs.YtcbbenncdainfaaGreatDoor
namespace Go.Proofs.YtcbbenncdainfaaGreatDoor
open Go Go.RowKit Go.Shelf
theorem bitLen_half (v : Nat) (h : v < 2 ^ 64) (h0 : v ≠ 0) : Lib.bitLen v = 1 + Lib.bitLen (v / 2) := by
 obtain ⟨a1, a2, a3⟩ := bitLen_bd v h h0
 by_cases h1 : v = 1
 ·subst h1; rfl
 obtain ⟨b1, b2, b3⟩ := bitLen_bd (v / 2) (by omega) (by omega)
 generalize Lib.bitLen v = m at *
 generalize Lib.bitLen (v / 2) = n at *
 obtain ⟨m', rfl⟩ : ∃ m', m = m' + 1 := ⟨m - 1, by omega⟩
 obtain ⟨n', rfl⟩ : ∃ n', n = n' + 1 := ⟨n - 1, by omega⟩
 simp only [Nat.add_sub_cancel, Nat.pow_succ] at *
 have c1 : 2 ^ n' < 2 ^ m' := by
  have : 2 ^ n' * 2 ≤ v := by omega
  have h2 : 2 ^ n' * 2 < 2 ^ m' * 2 := by omega
  omega
 have c2 : m' < n' + 2 := by
  apply (Nat.pow_lt_pow_iff_right (a := 2) (by omega)).1
  rw [Nat.pow_succ, Nat.pow_succ]
  omega
 have c3 := (Nat.pow_lt_pow_iff_right (a := 2) (by omega)).1 c1
 omega
theorem bitLen_0 : Lib.bitLen 0 = 0 := rfl
theorem ref09_digits_any (v : Nat) (hv : v < 2 ^ 64) (w : World) : Calls Tryz.prog 93 #[.int .u64 v] w fun e w' => e = .returned (.int .i64 (Lib.bitLen v)) ∧ w' = w := by
 have h64 : Lib.bitLen v ≤ 64 := by
  by_cases h : v = 0
  ·subst h; decide
  ·exact bitLen_64 v hv h
 have HD : Hid (Lib.bitLen v = 0 + Lib.bitLen v) := by rw [Hid, Nat.zero_add]
 have HV : Hid (v < 2 ^ 64) := hv
 generalize hd : Lib.bitLen v = d at h64 HD ⊢
 have HD2 : Hid (d = 0 + Lib.bitLen v) := by rw [Hid, Nat.zero_add, hd]
 clear HD hd hv
 go_enter Tryz.func93, Tryz.ntmps93
 go_wp2_with fail
 go_loopw [0, 3] (fun x n wr => ∃ (k u : Nat), x = .int .u64 u ∧ n = .int .i64 k ∧ Hid (u < 2 ^ 64) ∧ Hid (d = k + Lib.bitLen u) ∧ wr = w) (fun _ n _ => 65 - (intOf n).toNat)
 case atStart => exact ⟨0, v, rfl, rfl, HV, HD2, rfl⟩
 case round =>
  obtain ⟨k, u, rfl, rfl, HU, HK, rfl⟩ := hrel
  by_cases hu : u = 0
  ·subst hu
   have H9 : Hid (d = k) := by rw [Hid, HK.out, bitLen_0]; rfl
   go_wp2_with fail
   go_ret
   exact ⟨by rw [H9.out]; rfl, rfl⟩
  ·have H9 : Hid (d = k + 1 + Lib.bitLen (u / 2)) := by rw [Hid, HK.out, bitLen_half u HU.out hu]; omega
   have hu0 : (0 : Int) < u := by omega
   have hk : k < 64 := by
    have := H9.out
    omega
   have H8 : Hid (u / 2 < 2 ^ 64) := by have := HU.out; rw [Hid]; omega
   have hu64 : (u : Int) ≤ 18446744073709551615 := by have := HU.out; omega
   go_wp2_with fail
   go_roundw
   case rel => exact ⟨k + 1, u / 2, by go_num, by go_num, H8, H9, trivial⟩
   case measure => simp [intOf]; omega
def bkB (v i : Nat) : Nat := v * 2 ^ (64 - (Lib.bitLen v - 1)) % 2 ^ 64 / 2 ^ (64 - i)
theorem bkB_0 (v : Nat) : bkB v 0 = 0 := Nat.div_eq_of_lt (Nat.mod_lt _ (by decide))
theorem bkB_lt (v i : Nat) (hi : i ≤ 3) : bkB v i < 2 ^ i := by
 unfold bkB
 rw [Nat.div_lt_iff_lt_mul (Nat.two_pow_pos _), ← Nat.pow_add, show i + (64 - i) = 64 by omega]
 exact Nat.mod_lt _ (by decide)
theorem bkB_le (v i : Nat) (hi : i ≤ 3) : bkB v i < 8 := by
 have h := bkB_lt v i hi
 have : 2 ^ i ≤ 2 ^ 3 := Nat.pow_le_pow_right (by omega) hi
 omega
theorem bkB_succ (v i : Nat) (hi : i < 3) : bkB v (i + 1) = 2 * bkB v i + v * 2 ^ (64 - (Lib.bitLen v - 1)) / 2 ^ (63 - i) % 2 := by
 unfold bkB
 generalize v * 2 ^ (64 - (Lib.bitLen v - 1)) = y
 rcases (by omega : i = 0 ∨ i = 1 ∨ i = 2) with rfl | rfl | rfl <;> simp only [Nat.reduceSub, Nat.reduceAdd, Nat.reducePow] <;> omega
theorem bkB_one (v i : Nat) (h0 : 1 ≤ Lib.bitLen v) (hb : i + 2 ≤ Lib.bitLen v) (h64 : Lib.bitLen v ≤ 64) : v * 2 ^ (64 - (Lib.bitLen v - 1)) / 2 ^ (63 - i) = v / 2 ^ (Lib.bitLen v - 2 - i) := by
 generalize Lib.bitLen v = b at *
 have e : 63 - i = (64 - (b - 1)) + (b - 2 - i) := by omega
 rw [e, Nat.pow_add, ← Nat.div_div_eq_div_mul, Nat.mul_div_cancel _ (Nat.two_pow_pos _)]
theorem bkB_nil (v i : Nat) (h0 : 1 ≤ Lib.bitLen v) (hb : Lib.bitLen v < i + 2) (hi : i < 3) : v * 2 ^ (64 - (Lib.bitLen v - 1)) / 2 ^ (63 - i) % 2 = 0 := by
 generalize Lib.bitLen v = b at *
 have e : 64 - (b - 1) = (63 - i) + ((i + 1 - b) + 1) := by omega
 rw [e, Nat.pow_add, ← Nat.mul_assoc, Nat.mul_comm v, Nat.mul_assoc, Nat.mul_div_cancel_left _ (Nat.two_pow_pos _), Nat.pow_succ, ← Nat.mul_assoc, Nat.mul_mod_left]
theorem hiBk_eq (f v : Nat) (h : v ≠ 0) : hiBk f v = 1 + (((Lib.bitLen v - 1) * 2 ^ f + bkB v f : Nat) : Int) := by
 unfold hiBk bkB
 rw [if_neg h, Int.toNat_natCast]
set_option maxHeartbeats 1000000 in
theorem ref09_Bucket_any (f v : Nat) (hf : f ≤ 3) (hv : v < 2 ^ 64) (w : World) : Calls Tryz.prog 78 #[.int .i64 f, .int .u64 v] w fun e w' => e = .returned (.int .i64 (hiBk f v)) ∧ w' = w := by
 by_cases h0 : v = 0
 ·subst h0
  have H9 : Hid (hiBk f 0 = 0) := by rw [Hid]; rfl
  generalize hiBk f 0 = r at H9 ⊢
  have hf0 : (0 : Int) ≤ f ∧ (f : Int) ≤ 3 := by omega
  obtain ⟨g1, g2⟩ := hf0
  go_enter Tryz.func78, Tryz.ntmps78
  go_wp2_with fail
  go_ret
  exact ⟨by rw [H9.out]; rfl, rfl⟩
 obtain ⟨b1, -, -⟩ := bitLen_bd v hv h0
 have b2 := bitLen_64 v hv h0
 have HE := Lib.hid (hiBk_eq f v h0)
 generalize hiBk f v = r at HE ⊢
 have HDi := Lib.hid (ref09_digits_any v hv)
 have HS : Hid (∀ j, j < 3 → bkB v (j + 1) = 2 * bkB v j + (if j + 2 ≤ Lib.bitLen v then v / 2 ^ (Lib.bitLen v - 2 - j) % 2 else 0)) := fun j hj => by
  rw [bkB_succ v j hj]
  split
  ·rename_i h; rw [bkB_one v j b1 h b2]
  ·rename_i h; rw [bkB_nil v j b1 (by omega) hj]
 have HB0 := Lib.hid (bkB_0 v)
 have HBl : Hid (∀ j, j ≤ 3 → bkB v j < 8) := fun j hj => bkB_le v j hj
 generalize Lib.bitLen v = b at *
 have hv0 : (0 : Int) < v := by omega
 have hv64 : (v : Int) ≤ 18446744073709551615 := by omega
 have hf0 : (0 : Int) ≤ f ∧ (f : Int) ≤ 3 := by omega
 obtain ⟨g1, g2⟩ := hf0
 have hne : ((v : Int) == 0) = false := by rw [beq_eq_false_iff_ne]; omega
 clear h0 hv
 go_enter Tryz.func78, Tryz.ntmps78
 go_wp2_with (go_at_call 93; refine (HDi.out _).mono ?_; rintro e w1 ⟨rfl, rfl⟩)
 go_loopw [6, 7] (fun x i wr => ∃ (j u : Nat), i = .int .i64 ((j : Int) + 1) ∧ x = .int .i64 u ∧ j ≤ f ∧ Hid (u = bkB v j) ∧ u < 8 ∧ wr = w1) (fun _ i _ => 4 - (intOf i).toNat)
 case atStart => exact ⟨0, 0, rfl, rfl, Nat.zero_le _, HB0.out.symm, by omega, rfl⟩
 case round =>
  obtain ⟨j, u, rfl, rfl, hj, HU, hu8, rfl⟩ := hrel
  by_cases hlt : j < f
  ·have HN := Lib.hid (HS.out j (by omega))
   have HN8 := HBl.out (j + 1) (by omega)
   by_cases hc : j + 2 ≤ b
   ·obtain ⟨c, rfl⟩ : ∃ c, b = c + j + 2 := ⟨b - 2 - j, by omega⟩
    have e0 : (((c + j + 2 : Nat) : Int) - 1 - ((j : Int) + 1)) = (c : Int) := by omega
    have H9 : Hid (bkB v (j + 1) = 2 * u + v / 2 ^ c % 2) := by rw [Hid, HN.out, if_pos hc, ← HU.out, show c + j + 2 - 2 - j = c by omega]
    generalize hd : v / 2 ^ c = d at H9
    have hd2 : (v : Int) / 2 ^ c = (d : Int) := by rw [← hd]; simp
    go_wp2_with fail
    go_roundw
    case rel => exact ⟨j + 1, 2 * u + d % 2, by go_num, by go_num, by omega, H9.out.symm, by rw [← H9.out]; exact HN8, trivial⟩
    case measure => simp [intOf]; omega
   ·have H9 : Hid (bkB v (j + 1) = 2 * u) := by rw [Hid, HN.out, if_neg hc, ← HU.out]; rfl
    go_wp2_with fail
    go_roundw
    case rel => exact ⟨j + 1, 2 * u, by go_num, by go_num, by omega, H9.out.symm, by rw [← H9.out]; exact HN8, trivial⟩
    case measure => simp [intOf]; omega
  ·obtain rfl : j = f := by omega
   have H9 : Hid (r = 1 + (((b - 1) * 2 ^ j + u : Nat) : Int)) := by rw [Hid, HE.out, ← HU.out]
   rcases (by omega : j = 0 ∨ j = 1 ∨ j = 2 ∨ j = 3) with rfl | rfl | rfl | rfl
   all_goals go_wp2_with fail
   all_goals go_ret
   all_goals exact ⟨by rw [H9.out]; congr 1; show Value.int .i64 _ = Value.int .i64 _; congr 1; omega, rfl⟩
end Go.Proofs.YtcbbenncdainfaaGreatDoor

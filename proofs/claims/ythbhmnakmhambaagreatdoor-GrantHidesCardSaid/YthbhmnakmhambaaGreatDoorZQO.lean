/- Package ladder: New. Printed by gen_lj.py. Laws of layer 10: items; New, whatever the kind. Quota: tables cut, and what Fit tells of them. -/
import Derived.Test.YthbhmnakmhambaaGreatDoorZV1
namespace Go.Proofs.YthbhmnakmhambaaGreatDoor
open Go Go.RowKit Go.Shelf
theorem slC_nil {α : Type} {enc : α → List Value} {k n : Nat} {w : World} : SlC enc k n w none 0 0 [] := ⟨⟨rfl, fun j x hx => by simp at hx⟩, Nat.le_refl _, Nat.zero_le _, fun _ => rfl, fun x e => by cases e⟩
set_option maxRecDepth 100000 in
set_option maxHeartbeats 1000000 in
theorem New_1 (w : World) : Calls Tryz.prog 30 #[.int .i64 1] w fun e w' => ∃ x, e = .returned (.tuple #[x, .int .i64 0]) ∧ SkB w' x 1 0 (bdNew 1) ∧ Below w.heap.size w w' := by
 obtain ⟨W0, hW0, hXr, hXx, hB0, hs0⟩ := boxes2 w #[.int .i64 0, .int .i64 0, .slice none 0 0, .int .i64 0, .string ⟨#[]⟩, .int .i64 0, .int .i64 0, .slice none 0 0, .int .i64 0, .slice none 0 0] 39 #[.int .i64 1, .int .i64 0, .slice none 0 0, .int .i64 0, .string ⟨#[]⟩, .int .i64 0, .int .i64 0, .slice none 0 0, .int .i64 0, .slice none 0 0] 39
 obtain ⟨c0, c1, c2, c3, c4, c5, c6, c7, c8, c9⟩ := cl10 hXx
 obtain ⟨f0, f1, f2, f3, f4, f5, f6, f7, f8, f9⟩ := cz10 hXx
 have e1 : W0.setCell ⟨w.heap.size + 1, 1, none⟩ (.int .i64 0) = W0 := set_same hXx rfl
 have e2 : W0.setCell ⟨w.heap.size + 1, 2, none⟩ (.slice none 0 0) = W0 := set_same hXx rfl
 have e3 : W0.setCell ⟨w.heap.size + 1, 3, none⟩ (.int .i64 0) = W0 := set_same hXx rfl
 have e4 : W0.setCell ⟨w.heap.size + 1, 4, none⟩ (.string ⟨#[]⟩) = W0 := set_same hXx rfl
 have e5 : W0.setCell ⟨w.heap.size + 1, 5, none⟩ (.int .i64 0) = W0 := set_same hXx rfl
 have e6 : W0.setCell ⟨w.heap.size + 1, 6, none⟩ (.int .i64 0) = W0 := set_same hXx rfl
 have e7 : W0.setCell ⟨w.heap.size + 1, 7, none⟩ (.slice none 0 0) = W0 := set_same hXx rfl
 have e8 : W0.setCell ⟨w.heap.size + 1, 8, none⟩ (.int .i64 0) = W0 := set_same hXx rfl
 have e9 : W0.setCell ⟨w.heap.size + 1, 9, none⟩ (.slice none 0 0) = W0 := set_same hXx rfl
 obtain ⟨r0, r1, r2, r3, r4, r5, r6, r7, r8, r9⟩ := cl10 hXr
 obtain ⟨g0, g1, g2, g3, g4, g5, g6, g7, g8, g9⟩ := cz10 hXr
 obtain ⟨V, hV, hVX, hVO, hVB⟩ := store10 (.int .i64 1) (.int .i64 0) (.slice none 0 0) (.int .i64 0) (.string ⟨#[]⟩) (.int .i64 0) (.int .i64 0) (.slice none 0 0) (.int .i64 0) (.slice none 0 0) hXr
 obtain ⟨k0, k1, k2, k3, k4, k5, k6, k7, k8, k9⟩ := cl10 hVX
 have HBV : Hid (Below w.heap.size w V) := hVB _ _ hB0 (Nat.le_refl _)
 clear hXr hXx hVX hVO hVB hB0
 go_enter Tryz.func30, Tryz.ntmps30
 go_wp2_with fail
 exact bodyPost_ret (v := .tuple #[.agg #[.int .i64 1, .int .i64 0, .slice none 0 0, .int .i64 0, .string ⟨#[]⟩, .int .i64 0, .int .i64 0, .slice none 0 0, .int .i64 0, .slice none 0 0], .int .i64 0]) (by simp [results, Tryz.f30, go_sem, k0, k1, k2, k3, k4, k5, k6, k7, k8, k9]) rfl ⟨_, rfl, ⟨_, ⟨none, 0, 0, none, 0, 0, none, 0, 0⟩, rfl, rfl, slC_nil, slC_nil, slC_nil⟩, HBV.out⟩
set_option maxRecDepth 100000 in
set_option maxHeartbeats 1000000 in
theorem New_3 (w : World) : Calls Tryz.prog 30 #[.int .i64 3] w fun e w' => ∃ x, e = .returned (.tuple #[x, .int .i64 0]) ∧ SkB w' x 3 0 (bdNew 3) ∧ Below w.heap.size w w' := by
 obtain ⟨W0, hW0, hXr, hXx, hB0, hs0⟩ := boxes2 w #[.int .i64 0, .int .i64 0, .slice none 0 0, .int .i64 0, .string ⟨#[]⟩, .int .i64 0, .int .i64 0, .slice none 0 0, .int .i64 0, .slice none 0 0] 39 #[.int .i64 3, .int .i64 0, .slice none 0 0, .int .i64 0, .string ⟨#[]⟩, .int .i64 0, .int .i64 0, .slice none 0 0, .int .i64 0, .slice none 0 0] 39
 obtain ⟨c0, c1, c2, c3, c4, c5, c6, c7, c8, c9⟩ := cl10 hXx
 obtain ⟨f0, f1, f2, f3, f4, f5, f6, f7, f8, f9⟩ := cz10 hXx
 have e1 : W0.setCell ⟨w.heap.size + 1, 1, none⟩ (.int .i64 0) = W0 := set_same hXx rfl
 have e2 : W0.setCell ⟨w.heap.size + 1, 2, none⟩ (.slice none 0 0) = W0 := set_same hXx rfl
 have e3 : W0.setCell ⟨w.heap.size + 1, 3, none⟩ (.int .i64 0) = W0 := set_same hXx rfl
 have e4 : W0.setCell ⟨w.heap.size + 1, 4, none⟩ (.string ⟨#[]⟩) = W0 := set_same hXx rfl
 have e5 : W0.setCell ⟨w.heap.size + 1, 5, none⟩ (.int .i64 0) = W0 := set_same hXx rfl
 have e6 : W0.setCell ⟨w.heap.size + 1, 6, none⟩ (.int .i64 0) = W0 := set_same hXx rfl
 have e7 : W0.setCell ⟨w.heap.size + 1, 7, none⟩ (.slice none 0 0) = W0 := set_same hXx rfl
 have e8 : W0.setCell ⟨w.heap.size + 1, 8, none⟩ (.int .i64 0) = W0 := set_same hXx rfl
 have e9 : W0.setCell ⟨w.heap.size + 1, 9, none⟩ (.slice none 0 0) = W0 := set_same hXx rfl
 obtain ⟨W1, hW1⟩ : ∃ W1, W0.setCell ⟨w.heap.size + 1, 8, none⟩ (.int .i64 3) = W1 := ⟨_, rfl⟩
 have hX1 : W1.heap[w.heap.size + 1]? = some (.cells #[.int .i64 3, .int .i64 0, .slice none 0 0, .int .i64 0, .string ⟨#[]⟩, .int .i64 0, .int .i64 0, .slice none 0 0, .int .i64 3, .slice none 0 0] 39 (0, 0)) := by rw [← hW1]; exact hSk hXx (.int .i64 3)
 replace hXr : W1.heap[w.heap.size]? = some (.cells #[.int .i64 0, .int .i64 0, .slice none 0 0, .int .i64 0, .string ⟨#[]⟩, .int .i64 0, .int .i64 0, .slice none 0 0, .int .i64 0, .slice none 0 0] 39 (0, 0)) := by rw [← hW1]; exact (heap_set_other (p := ⟨w.heap.size + 1, 8, none⟩) (by show w.heap.size + 1 ≠ w.heap.size; omega) _).trans hXr
 have hB1 : Below w.heap.size w W1 := by rw [← hW1]; exact hB0.setCell (p := ⟨w.heap.size + 1, 8, none⟩) (Nat.le_succ _) _
 obtain ⟨x0, x1, x2, x3, x4, x5, x6, x7, x8, x9⟩ := cl10 hX1
 obtain ⟨r0, r1, r2, r3, r4, r5, r6, r7, r8, r9⟩ := cl10 hXr
 obtain ⟨g0, g1, g2, g3, g4, g5, g6, g7, g8, g9⟩ := cz10 hXr
 obtain ⟨V, hV, hVX, hVO, hVB⟩ := store10 (.int .i64 3) (.int .i64 0) (.slice none 0 0) (.int .i64 0) (.string ⟨#[]⟩) (.int .i64 0) (.int .i64 0) (.slice none 0 0) (.int .i64 3) (.slice none 0 0) hXr
 obtain ⟨k0, k1, k2, k3, k4, k5, k6, k7, k8, k9⟩ := cl10 hVX
 have HBV : Hid (Below w.heap.size w V) := hVB _ _ hB1 (Nat.le_refl _)
 clear hXr hXx hX1 hVX hVO hVB hB0 hB1
 go_enter Tryz.func30, Tryz.ntmps30
 go_wp2_with fail
 exact bodyPost_ret (v := .tuple #[.agg #[.int .i64 3, .int .i64 0, .slice none 0 0, .int .i64 0, .string ⟨#[]⟩, .int .i64 0, .int .i64 0, .slice none 0 0, .int .i64 3, .slice none 0 0], .int .i64 0]) (by simp [results, Tryz.f30, go_sem, k0, k1, k2, k3, k4, k5, k6, k7, k8, k9]) rfl ⟨_, rfl, ⟨_, ⟨none, 0, 0, none, 0, 0, none, 0, 0⟩, rfl, rfl, slC_nil, slC_nil, slC_nil⟩, HBV.out⟩
theorem noU_zero2 {i : Nat} (u : Int) : (#[.int .i64 2, .int .i64 0, .slice none 0 0, .int .i64 0, .string ⟨#[]⟩, .int .i64 0, .int .i64 0, .slice none 0 0, .int .i64 0, .slice none 0 0] : Array Value)[i]? ≠ some (.int .u64 u) := by
 intro h
 rcases i with _ | _ | _ | _ | _ | _ | _ | _ | _ | _ | i <;> simp at h
set_option maxRecDepth 100000 in
set_option maxHeartbeats 1000000 in
theorem New_2 (w : World) : Calls Tryz.prog 30 #[.int .i64 2] w fun e w' => ∃ x, e = .returned (.tuple #[x, .int .i64 0]) ∧ SkB w' x 2 0 (bdNew 2) ∧ Below w.heap.size w w' := by
 obtain ⟨W0, hW0, hXr, hXx, hB0, hs0⟩ := boxes2 w #[.int .i64 0, .int .i64 0, .slice none 0 0, .int .i64 0, .string ⟨#[]⟩, .int .i64 0, .int .i64 0, .slice none 0 0, .int .i64 0, .slice none 0 0] 39 #[.int .i64 2, .int .i64 0, .slice none 0 0, .int .i64 0, .string ⟨#[]⟩, .int .i64 0, .int .i64 0, .slice none 0 0, .int .i64 0, .slice none 0 0] 39
 obtain ⟨c0, c1, c2, c3, c4, c5, c6, c7, c8, c9⟩ := cl10 hXx
 obtain ⟨f0, f1, f2, f3, f4, f5, f6, f7, f8, f9⟩ := cz10 hXx
 have e1 : W0.setCell ⟨w.heap.size + 1, 1, none⟩ (.int .i64 0) = W0 := set_same hXx rfl
 have e2 : W0.setCell ⟨w.heap.size + 1, 2, none⟩ (.slice none 0 0) = W0 := set_same hXx rfl
 have e3 : W0.setCell ⟨w.heap.size + 1, 3, none⟩ (.int .i64 0) = W0 := set_same hXx rfl
 have e4 : W0.setCell ⟨w.heap.size + 1, 4, none⟩ (.string ⟨#[]⟩) = W0 := set_same hXx rfl
 have e5 : W0.setCell ⟨w.heap.size + 1, 5, none⟩ (.int .i64 0) = W0 := set_same hXx rfl
 have e6 : W0.setCell ⟨w.heap.size + 1, 6, none⟩ (.int .i64 0) = W0 := set_same hXx rfl
 have e7 : W0.setCell ⟨w.heap.size + 1, 7, none⟩ (.slice none 0 0) = W0 := set_same hXx rfl
 have e8 : W0.setCell ⟨w.heap.size + 1, 8, none⟩ (.int .i64 0) = W0 := set_same hXx rfl
 have e9 : W0.setCell ⟨w.heap.size + 1, 9, none⟩ (.slice none 0 0) = W0 := set_same hXx rfl
 have HC := Lib.hid (cNew_any W0)
 have HXr := Lib.hid hXr
 have HXx := Lib.hid hXx
 have HB0 := Lib.hid hB0
 clear hXr hXx hB0
 go_enter Tryz.func30, Tryz.ntmps30
 go_wp2_with fail
 refine HC.out.mono ?_
 rintro e w1 ⟨g, rfl, hN, hg, hb1⟩
 have hXx := known hb1 (Nat.le_refl _) HXx.out
 have hXr := known hb1 (Nat.le_refl _) HXr.out
 obtain ⟨x0, x1, x2, x3, x4, x5, x6, x7, x8, x9⟩ := cl10 hXx
 obtain ⟨y0, y1, y2, y3, y4, y5, y6, y7, y8, y9⟩ := cz10 hXx
 obtain ⟨W1, hW1⟩ : ∃ W1, ((w1.setCell ⟨w.heap.size + 1, 5, none⟩ (.int .i64 2)).setCell ⟨w.heap.size + 1, 6, none⟩ (.int .i64 32)).setCell ⟨w.heap.size + 1, 7, none⟩ (.slice (some ⟨g, 0, none⟩) 64 64) = W1 := ⟨_, rfl⟩
 have hX1 : W1.heap[w.heap.size + 1]? = some (.cells #[.int .i64 2, .int .i64 0, .slice none 0 0, .int .i64 0, .string ⟨#[]⟩, .int .i64 2, .int .i64 32, .slice (some ⟨g, 0, none⟩) 64 64, .int .i64 0, .slice none 0 0] 39 (0, 0)) := by rw [← hW1]; exact hSk (hSk (hSk hXx (.int .i64 2)) (.int .i64 32)) (.slice (some ⟨g, 0, none⟩) 64 64)
 have hO1 : OnlyAt (w.heap.size + 1) w1 W1 := by rw [← hW1]; exact (((OnlyAt.refl _ _).set _ _).set _ _).set _ _
 have hB1 : Below w.heap.size w W1 := by rw [← hW1]; exact (((HB0.out.trans (hb1.mono HB0.out.size)).setCell (p := ⟨w.heap.size + 1, 5, none⟩) (Nat.le_succ _) _).setCell (p := ⟨w.heap.size + 1, 6, none⟩) (Nat.le_succ _) _).setCell (p := ⟨w.heap.size + 1, 7, none⟩) (Nat.le_succ _) _
 replace hXr := (hO1.2 w.heap.size (by omega)).trans hXr
 have hS : SlC encU 1 w1.heap.size w1 (some ⟨g, 0, none⟩) 64 64 (List.replicate 64 0) := nums_slC hN (by simp) (by unfold maxLen; omega)
 replace hS : SlC encU 1 W1.heap.size W1 (some ⟨g, 0, none⟩) 64 64 (List.replicate 64 0) := slC_apart (i0 := 0) (by decide) (fun x => ⟨x, rfl⟩) hXx (fun i u => noU_zero2 u) hO1 hS
 obtain ⟨z0, z1, z2, z3, z4, z5, z6, z7, z8, z9⟩ := cl10 hX1
 obtain ⟨r0, r1, r2, r3, r4, r5, r6, r7, r8, r9⟩ := cl10 hXr
 obtain ⟨g0, g1, g2, g3, g4, g5, g6, g7, g8, g9⟩ := cz10 hXr
 obtain ⟨V, hV, hVX, hVO, hVB⟩ := store10 (.int .i64 2) (.int .i64 0) (.slice none 0 0) (.int .i64 0) (.string ⟨#[]⟩) (.int .i64 2) (.int .i64 32) (.slice (some ⟨g, 0, none⟩) 64 64) (.int .i64 0) (.slice none 0 0) hXr
 obtain ⟨k0, k1, k2, k3, k4, k5, k6, k7, k8, k9⟩ := cl10 hVX
 have HBV : Hid (Below w.heap.size w V) := hVB _ _ hB1 (Nat.le_refl _)
 have HSV : Hid (SlC encU 1 V.heap.size V (some ⟨g, 0, none⟩) 64 64 (List.replicate 64 0)) := slC_apart (i0 := 0) (by decide) (fun x => ⟨x, rfl⟩) hXr (fun i u => noU_zero u) hVO hS
 clear hN hg hXr hXx hX1 hVX hVO hVB hB1 hO1 hS hb1
 go_wp2_with fail
 exact bodyPost_ret (v := .tuple #[.agg #[.int .i64 2, .int .i64 0, .slice none 0 0, .int .i64 0, .string ⟨#[]⟩, .int .i64 2, .int .i64 32, .slice (some ⟨g, 0, none⟩) 64 64, .int .i64 0, .slice none 0 0], .int .i64 0]) (by simp [results, Tryz.f30, go_sem, k0, k1, k2, k3, k4, k5, k6, k7, k8, k9]) rfl ⟨_, rfl, ⟨_, ⟨none, 0, 0, some ⟨g, 0, none⟩, 64, 64, none, 0, 0⟩, rfl, rfl, slC_nil, HSV.out, slC_nil⟩, HBV.out⟩
end Go.Proofs.YthbhmnakmhambaaGreatDoor
namespace Go.Proofs.YthbhmnakmhambaaGreatDoor
open Go Go.RowKit Go.Shelf
theorem New_any (k : Nat) (hk : k = 1 ∨ k = 2 ∨ k = 3) (w : World) : Calls Tryz.prog 30 #[.int .i64 k] w fun e w' => ∃ x, e = .returned (.tuple #[x, .int .i64 0]) ∧ SkB w' x k 0 (bdNew k) ∧ Below w.heap.size w w' := by
 rcases hk with rfl | rfl | rfl
 ·exact New_1 w
 ·exact New_2 w
 ·exact New_3 w
end Go.Proofs.YthbhmnakmhambaaGreatDoor
namespace Go.Proofs.YthbhmnakmhambaaGreatDoor
open Go Go.RowKit Go.Shelf
theorem qt_few {L : List Ser} (h : ∀ x ∈ L, Ser.wn x) (hr : tabRight (few12 L) = true) : QT (few12 L) := by
 refine ⟨hr, fun x hx => ⟨fine_few (fun y hy => (h y hy).wf) x hx, ?_⟩⟩
 have h1 := ((tabRight_iff _).1 hr).2.1 x hx
 simp only [serRight, Bool.and_eq_true] at h1
 simp only [few12, List.mem_map] at hx
 obtain ⟨y, hy, rfl⟩ := hx
 have h2 := (h y (List.mem_of_mem_take hy)).1
 exact .of h1.2 (fun n hn => h2.e n (List.mem_of_mem_take hn)) (fun n hn => h2.c n (List.mem_of_mem_take hn)) (fun z hz => (h2.g z (List.mem_of_mem_take hz)).2)
end Go.Proofs.YthbhmnakmhambaaGreatDoor

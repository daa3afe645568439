/- The reference of layer 1: turn, Round (SA, turned by a program). The reference of layer 1: Sum, whatever it is. -/
import Derived.Test.YtpklkhgnjbopnaaGreatDoorZW8
import Derived.Test.YtpklkhgnjbopnaaGreatDoorZSB
namespace Go.Proofs.YtpklkhgnjbopnaaGreatDoor
open Go Go.RowKit Go.Shelf
set_option maxHeartbeats 400000 in
theorem turn01_any (x : Int) (k : Nat) (w : World) (hx : U64 x) (hk : k = 13 ∨ k = 16 ∨ k = 17 ∨ k = 21 ∨ k = 32) :
  CR 202 #[.int .u64 x, .int .i64 k] w (.int .u64 (rotl x k)) := by
 obtain ⟨h0, h1⟩ := hx
 unfold rotl
 rcases hk with rfl | rfl | rfl | rfl | rfl
 all_goals
  go_enter Tryz.func202, Tryz.ntmps202
  go_wp2_with fail
  go_quiet (fail)
  go_wp2_with fail
  go_ret
  exact ⟨rfl, bDr (Below.refl _ _) _⟩
theorem RndIn.call01 {x : V4} {w : World} (n : Int) (k : Nat) (hn : U64 n) (hk : k = 13 ∨ k = 16 ∨ k = 17 ∨ k = 21 ∨ k = 32) (X : WIn (RndIn x w)) : Calls Tryz.prog 202 #[.int .u64 n, .int .i64 k] X.world fun e w' => e = .returned (.int .u64 (rotl n k)) ∧ ∃ Y : WIn (RndIn x w), w' = Y.world :=
 calls_class_below (fun _ _ h hb => RndIn.go h hb) (turn01_any n k X.world hn hk)
set_option maxRecDepth 100000 in
set_option maxHeartbeats 4000000 in
theorem ref01_Round_any (v : V4) (w : World) (hv : v.Ok) : CR 165 #[.agg v.vals] w (.agg (rnd v).vals) := by
 have H9 : Hid (∀ V : World, RndIn (rnd v) w V → V.heap[w.heap.size]? = some (.cells (rnd v).vals 264 (0, 0)) ∧ Below w.heap.size w V) := fun V h => ⟨h.box, h.below⟩
 obtain ⟨a, b, c, d⟩ := v
 obtain ⟨ha, hb, hc, hd⟩ := hv
 obtain ⟨r, hr⟩ : ∃ r, rnd ⟨a, b, c, d⟩ = r := ⟨_, rfl⟩
 rw [hr] at H9 ⊢
 have HR := Lib.hid hr
 clear hr
 unfold V4.vals
 dsimp only at *
 obtain ⟨W0, hW0, hX0, hX1, hB0, hs0⟩ := boxes2 w #[.int .u64 a, .int .u64 b, .int .u64 c, .int .u64 d] 264 #[.int .u64 0, .int .u64 0, .int .u64 0, .int .u64 0] 264
 have h0 : RndIn ⟨a, b, c, d⟩ w W0 := ⟨hX0, hX1, hB0⟩
 clear hX0 hX1 hB0 hs0
 go_enter Tryz.func165, Tryz.ntmps165
 obtain ⟨x1, e1⟩ : ∃ z, IntKind.u64.wrap (a + b) = z := ⟨_, rfl⟩
 have g1 : U64 x1 := by rw [← e1]; exact u64_wrap _
 obtain ⟨W1, hW1, h1⟩ := RndIn.set (y := ⟨x1, b, c, d⟩) h0 (i := 0) (v := .int .u64 x1) rfl
 obtain ⟨c0, c1, c2, c3, f0⟩ := RndIn.at h0
 obtain ⟨d0, d1, d2, d3, f1⟩ := RndIn.at h1
 dsimp only at c0 c1 c2 c3 d0 d1 d2 d3
 obtain ⟨y1, e2⟩ : ∃ z, xorI (rotl b 13) x1 = z := ⟨_, rfl⟩
 have g2 : U64 y1 := by rw [← e2]; exact u64_bits (.inl rfl)
 have h1d : RndIn ⟨x1, b, c, d⟩ w W1.drew := RndIn.go h1 (Below.refl _ _).drew
 let Inv : World → Prop := RndIn ⟨x1, b, c, d⟩ w
 obtain ⟨q0, q1, q2, q3⟩ : (∀ X : WIn Inv, X.world.cell? ⟨w.heap.size, 0, none⟩ = some (.int .u64 x1)) ∧ (∀ X : WIn Inv, X.world.cell? ⟨w.heap.size, 1, none⟩ = some (.int .u64 b)) ∧ (∀ X : WIn Inv, X.world.cell? ⟨w.heap.size, 2, none⟩ = some (.int .u64 c)) ∧ (∀ X : WIn Inv, X.world.cell? ⟨w.heap.size, 3, none⟩ = some (.int .u64 d)) := RndIn.cells (x := ⟨x1, b, c, d⟩) (w := w)
 have K1 : Hid (∀ X : WIn Inv, Calls Tryz.prog 202 #[.int .u64 b, .int .i64 13] X.world fun e w' => e = .returned (.int .u64 (rotl b 13)) ∧ ∃ Y : WIn Inv, w' = Y.world) := RndIn.call01 b 13 (by assumption) (by decide)
 have HF : Hid (∀ X : WIn Inv, RndIn ⟨x1, b, c, d⟩ w X.world) := fun X => X.ok
 have hI1 : Inv W1.drew := h1d
 have hne : Nonempty (WIn Inv) := ⟨⟨_, hI1⟩⟩
 clear h1 h1d
 clear_value Inv
 go_wp2_with fail
 refine wp_region_class_lit Inv (l := [_, _, _, _, _, _, _]) (o := _) rfl (by kernel_rfl) (by kernel_rfl) (by kernel_rfl) hI1 ?_
 repeat (first | go_big_quiet_step ((go_at_call 202; with_reducible exact K1.out _)) | quiet_step ((go_at_call 202; with_reducible exact K1.out _)))
 refine wpQuiet_nil ?_
 rintro _ ⟨X, rfl⟩
 have h1f := HF.out X
 generalize X.world = Y1 at h1f ⊢
 clear X hne q0 q1 q2 q3 K1 HF hI1
 clear Inv
 obtain ⟨W2, hW2, h2⟩ := RndIn.set (y := ⟨x1, y1, c, d⟩) h1f (i := 1) (v := .int .u64 y1) rfl
 obtain ⟨c0, c1, c2, c3, f0⟩ := RndIn.at h1f
 obtain ⟨d0, d1, d2, d3, f1⟩ := RndIn.at h2
 dsimp only at c0 c1 c2 c3 d0 d1 d2 d3
 obtain ⟨z1, e3⟩ : ∃ z, rotl x1 32 = z := ⟨_, rfl⟩
 have g3 : U64 z1 := by rw [← e3]; exact u64_bits (.inr rfl)
 go_wp2_with fail
 refine (turn01_any x1 32 _ (by assumption) (by decide)).mono ?_
 rintro e w3t ⟨rfl, hbt⟩
 have h3t := RndIn.go h2 hbt
 clear hbt
 obtain ⟨W3, hW3, h3⟩ := RndIn.set (y := ⟨z1, y1, c, d⟩) h3t (i := 0) (v := .int .u64 z1) rfl
 obtain ⟨c0, c1, c2, c3, f0⟩ := RndIn.at h3t
 obtain ⟨d0, d1, d2, d3, f1⟩ := RndIn.at h3
 dsimp only at c0 c1 c2 c3 d0 d1 d2 d3
 obtain ⟨u1, e4⟩ : ∃ z, IntKind.u64.wrap (c + d) = z := ⟨_, rfl⟩
 have g4 : U64 u1 := by rw [← e4]; exact u64_wrap _
 obtain ⟨W4, hW4, h4⟩ := RndIn.set (y := ⟨z1, y1, u1, d⟩) h3 (i := 2) (v := .int .u64 u1) rfl
 obtain ⟨c0, c1, c2, c3, f0⟩ := RndIn.at h3
 obtain ⟨d0, d1, d2, d3, f1⟩ := RndIn.at h4
 dsimp only at c0 c1 c2 c3 d0 d1 d2 d3
 obtain ⟨v1, e5⟩ : ∃ z, xorI (rotl d 16) u1 = z := ⟨_, rfl⟩
 have g5 : U64 v1 := by rw [← e5]; exact u64_bits (.inl rfl)
 have h4d : RndIn ⟨z1, y1, u1, d⟩ w W4.drew := RndIn.go h4 (Below.refl _ _).drew
 let Inv : World → Prop := RndIn ⟨z1, y1, u1, d⟩ w
 obtain ⟨q0, q1, q2, q3⟩ : (∀ X : WIn Inv, X.world.cell? ⟨w.heap.size, 0, none⟩ = some (.int .u64 z1)) ∧ (∀ X : WIn Inv, X.world.cell? ⟨w.heap.size, 1, none⟩ = some (.int .u64 y1)) ∧ (∀ X : WIn Inv, X.world.cell? ⟨w.heap.size, 2, none⟩ = some (.int .u64 u1)) ∧ (∀ X : WIn Inv, X.world.cell? ⟨w.heap.size, 3, none⟩ = some (.int .u64 d)) := RndIn.cells (x := ⟨z1, y1, u1, d⟩) (w := w)
 have K1 : Hid (∀ X : WIn Inv, Calls Tryz.prog 202 #[.int .u64 d, .int .i64 16] X.world fun e w' => e = .returned (.int .u64 (rotl d 16)) ∧ ∃ Y : WIn Inv, w' = Y.world) := RndIn.call01 d 16 (by assumption) (by decide)
 have HF : Hid (∀ X : WIn Inv, RndIn ⟨z1, y1, u1, d⟩ w X.world) := fun X => X.ok
 have hI4 : Inv W4.drew := h4d
 have hne : Nonempty (WIn Inv) := ⟨⟨_, hI4⟩⟩
 clear h4 h4d
 clear_value Inv
 go_wp2_with fail
 refine wp_region_class_lit Inv (l := [_, _, _, _, _, _, _]) (o := _) rfl (by kernel_rfl) (by kernel_rfl) (by kernel_rfl) hI4 ?_
 repeat (first | go_big_quiet_step ((go_at_call 202; with_reducible exact K1.out _)) | quiet_step ((go_at_call 202; with_reducible exact K1.out _)))
 refine wpQuiet_nil ?_
 rintro _ ⟨X, rfl⟩
 have h4f := HF.out X
 generalize X.world = Y4 at h4f ⊢
 clear X hne q0 q1 q2 q3 K1 HF hI4
 clear Inv
 obtain ⟨W5, hW5, h5⟩ := RndIn.set (y := ⟨z1, y1, u1, v1⟩) h4f (i := 3) (v := .int .u64 v1) rfl
 obtain ⟨c0, c1, c2, c3, f0⟩ := RndIn.at h4f
 obtain ⟨d0, d1, d2, d3, f1⟩ := RndIn.at h5
 dsimp only at c0 c1 c2 c3 d0 d1 d2 d3
 obtain ⟨i1, e6⟩ : ∃ z, IntKind.u64.wrap (z1 + v1) = z := ⟨_, rfl⟩
 have g6 : U64 i1 := by rw [← e6]; exact u64_wrap _
 obtain ⟨W6, hW6, h6⟩ := RndIn.set (y := ⟨i1, y1, u1, v1⟩) h5 (i := 0) (v := .int .u64 i1) rfl
 obtain ⟨c0, c1, c2, c3, f0⟩ := RndIn.at h5
 obtain ⟨d0, d1, d2, d3, f1⟩ := RndIn.at h6
 dsimp only at c0 c1 c2 c3 d0 d1 d2 d3
 obtain ⟨j1, e7⟩ : ∃ z, xorI (rotl v1 21) i1 = z := ⟨_, rfl⟩
 have g7 : U64 j1 := by rw [← e7]; exact u64_bits (.inl rfl)
 have h6d : RndIn ⟨i1, y1, u1, v1⟩ w W6.drew := RndIn.go h6 (Below.refl _ _).drew
 let Inv : World → Prop := RndIn ⟨i1, y1, u1, v1⟩ w
 obtain ⟨q0, q1, q2, q3⟩ : (∀ X : WIn Inv, X.world.cell? ⟨w.heap.size, 0, none⟩ = some (.int .u64 i1)) ∧ (∀ X : WIn Inv, X.world.cell? ⟨w.heap.size, 1, none⟩ = some (.int .u64 y1)) ∧ (∀ X : WIn Inv, X.world.cell? ⟨w.heap.size, 2, none⟩ = some (.int .u64 u1)) ∧ (∀ X : WIn Inv, X.world.cell? ⟨w.heap.size, 3, none⟩ = some (.int .u64 v1)) := RndIn.cells (x := ⟨i1, y1, u1, v1⟩) (w := w)
 have K1 : Hid (∀ X : WIn Inv, Calls Tryz.prog 202 #[.int .u64 v1, .int .i64 21] X.world fun e w' => e = .returned (.int .u64 (rotl v1 21)) ∧ ∃ Y : WIn Inv, w' = Y.world) := RndIn.call01 v1 21 (by assumption) (by decide)
 have HF : Hid (∀ X : WIn Inv, RndIn ⟨i1, y1, u1, v1⟩ w X.world) := fun X => X.ok
 have hI6 : Inv W6.drew := h6d
 have hne : Nonempty (WIn Inv) := ⟨⟨_, hI6⟩⟩
 clear h6 h6d
 clear_value Inv
 go_wp2_with fail
 refine wp_region_class_lit Inv (l := [_, _, _, _, _, _, _]) (o := _) rfl (by kernel_rfl) (by kernel_rfl) (by kernel_rfl) hI6 ?_
 repeat (first | go_big_quiet_step ((go_at_call 202; with_reducible exact K1.out _)) | quiet_step ((go_at_call 202; with_reducible exact K1.out _)))
 refine wpQuiet_nil ?_
 rintro _ ⟨X, rfl⟩
 have h6f := HF.out X
 generalize X.world = Y6 at h6f ⊢
 clear X hne q0 q1 q2 q3 K1 HF hI6
 clear Inv
 obtain ⟨W7, hW7, h7⟩ := RndIn.set (y := ⟨i1, y1, u1, j1⟩) h6f (i := 3) (v := .int .u64 j1) rfl
 obtain ⟨c0, c1, c2, c3, f0⟩ := RndIn.at h6f
 obtain ⟨d0, d1, d2, d3, f1⟩ := RndIn.at h7
 dsimp only at c0 c1 c2 c3 d0 d1 d2 d3
 obtain ⟨k1, e8⟩ : ∃ z, IntKind.u64.wrap (u1 + y1) = z := ⟨_, rfl⟩
 have g8 : U64 k1 := by rw [← e8]; exact u64_wrap _
 obtain ⟨W8, hW8, h8⟩ := RndIn.set (y := ⟨i1, y1, k1, j1⟩) h7 (i := 2) (v := .int .u64 k1) rfl
 obtain ⟨c0, c1, c2, c3, f0⟩ := RndIn.at h7
 obtain ⟨d0, d1, d2, d3, f1⟩ := RndIn.at h8
 dsimp only at c0 c1 c2 c3 d0 d1 d2 d3
 obtain ⟨m1, e9⟩ : ∃ z, xorI (rotl y1 17) k1 = z := ⟨_, rfl⟩
 have g9 : U64 m1 := by rw [← e9]; exact u64_bits (.inl rfl)
 have h8d : RndIn ⟨i1, y1, k1, j1⟩ w W8.drew := RndIn.go h8 (Below.refl _ _).drew
 let Inv : World → Prop := RndIn ⟨i1, y1, k1, j1⟩ w
 obtain ⟨q0, q1, q2, q3⟩ : (∀ X : WIn Inv, X.world.cell? ⟨w.heap.size, 0, none⟩ = some (.int .u64 i1)) ∧ (∀ X : WIn Inv, X.world.cell? ⟨w.heap.size, 1, none⟩ = some (.int .u64 y1)) ∧ (∀ X : WIn Inv, X.world.cell? ⟨w.heap.size, 2, none⟩ = some (.int .u64 k1)) ∧ (∀ X : WIn Inv, X.world.cell? ⟨w.heap.size, 3, none⟩ = some (.int .u64 j1)) := RndIn.cells (x := ⟨i1, y1, k1, j1⟩) (w := w)
 have K1 : Hid (∀ X : WIn Inv, Calls Tryz.prog 202 #[.int .u64 y1, .int .i64 17] X.world fun e w' => e = .returned (.int .u64 (rotl y1 17)) ∧ ∃ Y : WIn Inv, w' = Y.world) := RndIn.call01 y1 17 (by assumption) (by decide)
 have HF : Hid (∀ X : WIn Inv, RndIn ⟨i1, y1, k1, j1⟩ w X.world) := fun X => X.ok
 have hI8 : Inv W8.drew := h8d
 have hne : Nonempty (WIn Inv) := ⟨⟨_, hI8⟩⟩
 clear h8 h8d
 clear_value Inv
 go_wp2_with fail
 refine wp_region_class_lit Inv (l := [_, _, _, _, _, _, _]) (o := _) rfl (by kernel_rfl) (by kernel_rfl) (by kernel_rfl) hI8 ?_
 repeat (first | go_big_quiet_step ((go_at_call 202; with_reducible exact K1.out _)) | quiet_step ((go_at_call 202; with_reducible exact K1.out _)))
 refine wpQuiet_nil ?_
 rintro _ ⟨X, rfl⟩
 have h8f := HF.out X
 generalize X.world = Y8 at h8f ⊢
 clear X hne q0 q1 q2 q3 K1 HF hI8
 clear Inv
 obtain ⟨W9, hW9, h9⟩ := RndIn.set (y := ⟨i1, m1, k1, j1⟩) h8f (i := 1) (v := .int .u64 m1) rfl
 obtain ⟨c0, c1, c2, c3, f0⟩ := RndIn.at h8f
 obtain ⟨d0, d1, d2, d3, f1⟩ := RndIn.at h9
 dsimp only at c0 c1 c2 c3 d0 d1 d2 d3
 obtain ⟨n1, e10⟩ : ∃ z, rotl k1 32 = z := ⟨_, rfl⟩
 have g10 : U64 n1 := by rw [← e10]; exact u64_bits (.inr rfl)
 go_wp2_with fail
 refine (turn01_any k1 32 _ (by assumption) (by decide)).mono ?_
 rintro e w10t ⟨rfl, hbt⟩
 have h10t := RndIn.go h9 hbt
 clear hbt
 obtain ⟨W10, hW10, h10⟩ := RndIn.set (y := ⟨i1, m1, n1, j1⟩) h10t (i := 2) (v := .int .u64 n1) rfl
 obtain ⟨c0, c1, c2, c3, f0⟩ := RndIn.at h10t
 obtain ⟨d0, d1, d2, d3, f1⟩ := RndIn.at h10
 dsimp only at c0 c1 c2 c3 d0 d1 d2 d3
 have hres := h10.res
 obtain ⟨p0, p1, p2, p3⟩ := cl4 hres
 obtain ⟨t0, t1, t2, t3⟩ := cz4 hres
 have H10 : Hid (Below w.heap.size w (st4 W10 (w.heap.size + 1) ⟨i1, m1, n1, j1⟩)) := st4_below h10.below (Nat.le_succ _)
 have H11 : Hid ((st4 W10 (w.heap.size + 1) ⟨i1, m1, n1, j1⟩).heap[w.heap.size + 1]? = some (.cells (V4.vals ⟨i1, m1, n1, j1⟩) 264 (0, 0))) := st4_heap (x := ⟨0, 0, 0, 0⟩) hres
 have H12 : Hid (r = ⟨i1, m1, n1, j1⟩) := by
  rw [Hid, ← HR.out]
  unfold rnd
  dsimp only
  rw [e1, e2, e3, e4, e5, e6, e7, e8, e9, e10]
 clear hres h10
 go_wp2_with fail
 refine bodyPost_ret (results_cell_row rfl _ _ (w.heap.size + 1) 264 (V4.vals ⟨i1, m1, n1, j1⟩) (0, 0) _ rfl H11.out und_arr4 rfl size_arr4) rfl ⟨?_, H10.out⟩
 rw [H12.out]; rfl
end Go.Proofs.YtpklkhgnjbopnaaGreatDoor
namespace Go.Proofs.YtpklkhgnjbopnaaGreatDoor
open Go Go.RowKit Go.Shelf
structure V4At (b : Nat) (x : V4) (w W : World) : Prop where
 box : W.heap[b]? = some (.cells x.vals 264 (0, 0))
 below : Below w.heap.size w W
 ok : x.Ok
theorem V4At.go {b : Nat} {x : V4} {w W W' : World} (h : V4At b x w W) (hb : Below W.heap.size W W') : V4At b x w W' := ⟨known hb (Nat.le_refl _) h.box, h.below.trans (hb.mono h.below.size), h.ok⟩
theorem V4At.set {b : Nat} {x y : V4} {w W : World} (h : V4At b x w W) (hb : w.heap.size ≤ b) {i : Nat} {v : Value} (hc : x.vals.setIfInBounds i v = y.vals) (hy : y.Ok) : ∃ V, W.setCell ⟨b, i, none⟩ v = V ∧ V4At b y w V :=
 ⟨_, rfl, by rw [← hc]; exact hSk h.box v, h.below.setCell (p := ⟨b, i, none⟩) hb v, hy⟩
theorem V4At.st {b : Nat} {x y : V4} {w W : World} (h : V4At b x w W) (hb : w.heap.size ≤ b) (hy : y.Ok) : ∃ V, st4 W b y = V ∧ V4At b y w V :=
 ⟨_, rfl, st4_heap h.box, st4_below h.below hb, hy⟩
theorem V4At.cells {b : Nat} {x : V4} {w W : World} (h : V4At b x w W) : W.cell? ⟨b, 0, none⟩ = some (.int .u64 x.a) ∧ W.cell? ⟨b, 1, none⟩ = some (.int .u64 x.b) ∧ W.cell? ⟨b, 2, none⟩ = some (.int .u64 x.c) ∧ W.cell? ⟨b, 3, none⟩ = some (.int .u64 x.d) ∧ W.frozen? ⟨b, 0, none⟩ = false ∧ W.frozen? ⟨b, 1, none⟩ = false ∧ W.frozen? ⟨b, 2, none⟩ = false ∧ W.frozen? ⟨b, 3, none⟩ = false :=
 ⟨cCc h.box 0, cCc h.box 1, cCc h.box 2, cCc h.box 3, cFz h.box 0, cFz h.box 1, cFz h.box 2, cFz h.box 3⟩
theorem Round01_at (r : V4) (w : World) (h : r.Ok) : CR 165 #[.agg #[.int .u64 r.a, .int .u64 r.b, .int .u64 r.c, .int .u64 r.d]] w (.agg #[.int .u64 (rnd r).a, .int .u64 (rnd r).b, .int .u64 (rnd r).c, .int .u64 (rnd r).d]) := ref01_Round_any r w h
set_option maxRecDepth 100000 in
set_option maxHeartbeats 16000000 in
theorem ref01_Sum_some (A B : Int) (s : ByteArray) (w : World) (hA : U64 A) (hB : U64 B) (hs : s.size < 4294967281) :
  Calls Tryz.prog 135 #[.agg #[.int .u64 A, .int .u64 B], .string s] w fun e w' => ∃ n, e = .returned (.int .u64 n) ∧ Below w.heap.size w w' := by
 have hAB := And.intro hA hB
 clear hAB hA hB
 obtain ⟨Wa, hWa, hXa, hBa, hsa⟩ := boxes1 w #[.int .u64 A, .int .u64 B] 24
 obtain ⟨a0, a1⟩ := cl2 hXa
 obtain ⟨x0, hx0⟩ : ∃ x : V4, (⟨bits .xor .u64 A 8317987319222330741, bits .xor .u64 B 7237128888997146477, bits .xor .u64 A 7816392313619706465, bits .xor .u64 B 8387220255154660723⟩ : V4) = x := ⟨_, rfl⟩
 have hok : x0.Ok := by rw [← hx0]; exact ⟨u64_bits (.inl rfl), u64_bits (.inl rfl), u64_bits (.inl rfl), u64_bits (.inl rfl)⟩
 obtain ⟨V0, hV0, hX0, hB0, hs0⟩ := boxes1 Wa #[.int .u64 (bits .xor .u64 A 8317987319222330741), .int .u64 (bits .xor .u64 B 7237128888997146477), .int .u64 (bits .xor .u64 A 7816392313619706465), .int .u64 (bits .xor .u64 B 8387220255154660723)] 264
 have HX : Hid (V0.heap[Wa.heap.size]? = some (.cells x0.vals 264 (0, 0)) ∧ Below w.heap.size w V0 ∧ x0.Ok) := ⟨by rw [← hx0]; exact hX0, hBa.trans (hB0.mono hBa.size), hok⟩
 have HBb : Hid (w.heap.size ≤ Wa.heap.size) := hBa.size
 clear hXa hX0 hB0 hs0 hBa hok hx0 hsa
 go_enter Tryz.func135, Tryz.ntmps135
 go_wp2_with fail
 go_loopw [6] (fun t wr => wr = V0 ∧ ∃ T : ByteArray, t = .string T ∧ Hid (T.size + (7 - T.size % 8) = s.size + (7 - s.size % 8))) (fun t _ => match t with | .string T => 7 - T.size % 8 | _ => 0)
 case atStart => exact ⟨rfl, s, rfl, rfl⟩
 case round =>
  obtain ⟨rfl, T, rfl, HT⟩ := hrel
  have hTs : T.size ≤ s.size + 7 := by have := HT.out; omega
  by_cases h7 : T.size % 8 = 7
  ·have q1 : (T.size : Int) % 8 = 7 := by omega
   have q2 : ((T.size : Int) % 8 == 7) = true := by rw [q1]; rfl
   have hcv : (convert 84 9 (.slice (some ⟨wr.heap.size, 0, none⟩) 1 1)).run Tryz.prog (wr.alloc (.cells #[.int .u8 ((s.size : Int) % 256)] 5)) = .ok (.string (strOfNums [(s.size : Int) % 256])) (wr.alloc (.cells #[.int .u8 ((s.size : Int) % 256)] 5)) := conv_new wr [(s.size : Int) % 256] 1
   obtain ⟨W1, hW1, -, hB1, -⟩ := boxes1 wr #[.int .u8 ((s.size : Int) % 256)] 5
   rw [hW1] at hcv
   obtain ⟨U, hU⟩ : ∃ U, strOfNums [(s.size : Int) % 256] = U := ⟨_, rfl⟩
   have hUz : U.size = 1 := by rw [← hU, strOfNums_size]; rfl
   rw [hU] at hcv
   have hc : ¬ 9223372036854775807 < T.size + U.size := by omega
   obtain ⟨N, hN⟩ : ∃ N, T ++ U = N := ⟨_, rfl⟩
   have hNz : N.size < 4294967290 := by rw [← hN, ByteArray.size_append]; omega
   have HV1 : Hid (V4At Wa.heap.size x0 w W1) := V4At.go ⟨HX.out.1, HX.out.2.1, HX.out.2.2⟩ hB1
   clear hB1 hU
   go_wp2_with fail
   clear q1 q2 h7 hc hcv
   go_loopw [7] (fun i wr => ∃ (k : Nat) (x : V4), i = .int .i64 k ∧ k ≤ N.size ∧ Hid (V4At Wa.heap.size x w wr)) (fun i _ => N.size - (intOf i).toNat)
   case atStart => exact ⟨0, x0, rfl, Nat.zero_le _, HV1.out⟩
   case round =>
    obtain ⟨k, x, rfl, hk, HV⟩ := hrel
    by_cases hk8 : k + 8 ≤ N.size
    ·have hk9 : (k : Int) + 8 ≤ (N.size : Int) := by omega
     go_wp2_with fail
     go_loopw [8, 9] (fun m j wz => ∃ (mm : Int) (jj : Nat), m = .int .u64 mm ∧ j = .int .i64 jj ∧ jj ≤ 8 ∧ Hid (V4At Wa.heap.size x w wz)) (fun _ j _ => 8 - (intOf j).toNat)
     case atStart => exact ⟨0, 0, rfl, rfl, by decide, HV.out⟩
     case round =>
      obtain ⟨mm, jj, rfl, rfl, hjj, HVz⟩ := hrel
      by_cases hj8 : jj < 8
      ·have j0 : (0 : Int) ≤ (k : Int) + (jj : Int) := by omega
       have j1 : (k : Int) + (jj : Int) < (N.size : Int) := by omega
       have j2 : k + jj < N.size := by omega
       have j3 : ((k : Int) + (jj : Int)).toNat = k + jj := by omega
       rcases (by omega : jj = 0 ∨ jj = 1 ∨ jj = 2 ∨ jj = 3 ∨ jj = 4 ∨ jj = 5 ∨ jj = 6 ∨ jj = 7) with rfl | rfl | rfl | rfl | rfl | rfl | rfl | rfl
       ·go_wp2_with fail
        go_roundw
        case rel => exact ⟨_, 1, rfl, rfl, by decide, HVz.out⟩
        case measure => simp [intOf]
       ·go_wp2_with fail
        go_roundw
        case rel => exact ⟨_, 2, rfl, rfl, by decide, HVz.out⟩
        case measure => simp [intOf]
       ·go_wp2_with fail
        go_roundw
        case rel => exact ⟨_, 3, rfl, rfl, by decide, HVz.out⟩
        case measure => simp [intOf]
       ·go_wp2_with fail
        go_roundw
        case rel => exact ⟨_, 4, rfl, rfl, by decide, HVz.out⟩
        case measure => simp [intOf]
       ·go_wp2_with fail
        go_roundw
        case rel => exact ⟨_, 5, rfl, rfl, by decide, HVz.out⟩
        case measure => simp [intOf]
       ·go_wp2_with fail
        go_roundw
        case rel => exact ⟨_, 6, rfl, rfl, by decide, HVz.out⟩
        case measure => simp [intOf]
       ·go_wp2_with fail
        go_roundw
        case rel => exact ⟨_, 7, rfl, rfl, by decide, HVz.out⟩
        case measure => simp [intOf]
       ·go_wp2_with fail
        go_roundw
        case rel => exact ⟨_, 8, rfl, rfl, by decide, HVz.out⟩
        case measure => simp [intOf]
      ·obtain rfl : jj = 8 := by omega
       obtain ⟨c0, c1, c2, c3, f0, f1, f2, f3⟩ := HVz.out.cells
       obtain ⟨X1, hX1, h1⟩ := V4At.set (y := ⟨x.a, x.b, x.c, xorI x.d mm⟩) HVz.out HBb.out (i := 3) (v := .int .u64 (xorI x.d mm)) rfl ⟨HVz.out.ok.1, HVz.out.ok.2.1, HVz.out.ok.2.2.1, u64_bits (.inl rfl)⟩
       obtain ⟨d0, d1, d2, d3, -, -, -, -⟩ := h1.cells
       dsimp only at d0 d1 d2 d3
       have HR1 := Lib.hid (Round01_at _ X1 h1.ok)
       have H1 := Lib.hid h1
       clear h1
       go_wp2_with fail
       refine HR1.out.mono ?_
       rintro e w2 ⟨rfl, hb2⟩
       have H2 := Lib.hid (H1.out.go hb2)
       obtain ⟨r1, hr1⟩ : ∃ r, rnd ⟨x.a, x.b, x.c, xorI x.d mm⟩ = r := ⟨_, rfl⟩
       have hr1k : r1.Ok := hr1 ▸ rnd_ok _
       have HR2 := Lib.hid (Round01_at r1 w2 hr1k)
       rw [hr1]
       clear hb2 hr1 hr1k
       go_wp2_with fail
       refine HR2.out.mono ?_
       rintro e w3 ⟨rfl, hb3⟩
       have h3 := H2.out.go hb3
       obtain ⟨r2, hr2⟩ : ∃ r, rnd r1 = r := ⟨_, rfl⟩
       have hr2k : r2.Ok := hr2 ▸ rnd_ok _
       rw [hr2]
       obtain ⟨X4, hX4, h4⟩ := V4At.st (y := r2) h3 HBb.out hr2k
       obtain ⟨e0, e1, e2, e3, g0, g1, g2, g3⟩ := h3.cells
       obtain ⟨i0, i1, i2, i3, k0, -, -, -⟩ := h4.cells
       obtain ⟨X5, hX5, h5⟩ := V4At.set (y := ⟨xorI r2.a mm, r2.b, r2.c, r2.d⟩) h4 HBb.out (i := 0) (v := .int .u64 (xorI r2.a mm)) rfl ⟨u64_bits (.inl rfl), hr2k.2.1, hr2k.2.2.1, hr2k.2.2.2⟩
       have H5 := Lib.hid h5
       clear hb3 h3 hr2 hr2k h4 h5
       go_wp2_with fail
       exact ⟨⟨k + 8, _, by go_num, by omega, H5.out⟩, by simp [intOf]; omega⟩
    ·have hk9 : ¬ (k : Int) + 8 ≤ (N.size : Int) := by omega
     obtain ⟨c0, c1, c2, c3, f0, f1, f2, f3⟩ := HV.out.cells
     obtain ⟨X1, hX1, h1⟩ := V4At.set (y := ⟨x.a, x.b, xorI x.c 255, x.d⟩) HV.out HBb.out (i := 2) (v := .int .u64 (xorI x.c 255)) rfl ⟨HV.out.ok.1, HV.out.ok.2.1, u64_bits (.inl rfl), HV.out.ok.2.2.2⟩
     obtain ⟨d0, d1, d2, d3, -, -, -, -⟩ := h1.cells
     dsimp only at d0 d1 d2 d3
     have HR1 := Lib.hid (Round01_at _ X1 h1.ok)
     have H1 := Lib.hid h1
     clear h1
     go_wp2_with fail
     refine HR1.out.mono ?_
     rintro e w2 ⟨rfl, hb2⟩
     have H2 := Lib.hid (H1.out.go hb2)
     obtain ⟨r1, hr1⟩ : ∃ r, rnd ⟨x.a, x.b, xorI x.c 255, x.d⟩ = r := ⟨_, rfl⟩
     have hr1k : r1.Ok := hr1 ▸ rnd_ok _
     have HR2 := Lib.hid (Round01_at r1 w2 hr1k)
     rw [hr1]
     clear hb2 hr1 hr1k
     go_wp2_with fail
     refine HR2.out.mono ?_
     rintro e w3 ⟨rfl, hb⟩
     have H3 := Lib.hid (H2.out.go hb)
     obtain ⟨r2, hr2⟩ : ∃ r, rnd r1 = r := ⟨_, rfl⟩
     have hr2k : r2.Ok := hr2 ▸ rnd_ok _
     have HR3 := Lib.hid (Round01_at r2 w3 hr2k)
     rw [hr2]
     clear hb hr2 hr2k
     go_wp2_with fail
     refine HR3.out.mono ?_
     rintro e w4 ⟨rfl, hb⟩
     have H4 := Lib.hid (H3.out.go hb)
     obtain ⟨r3, hr3⟩ : ∃ r, rnd r2 = r := ⟨_, rfl⟩
     have hr3k : r3.Ok := hr3 ▸ rnd_ok _
     have HR4 := Lib.hid (Round01_at r3 w4 hr3k)
     rw [hr3]
     clear hb hr3 hr3k
     go_wp2_with fail
     refine HR4.out.mono ?_
     rintro e w5 ⟨rfl, hb⟩
     have h5 := H4.out.go hb
     obtain ⟨r4, hr4⟩ : ∃ r, rnd r3 = r := ⟨_, rfl⟩
     have hr4k : r4.Ok := hr4 ▸ rnd_ok _
     rw [hr4]
     obtain ⟨X6, hX6, h6⟩ := V4At.st (y := r4) h5 HBb.out hr4k
     obtain ⟨e0, e1, e2, e3, g0, g1, g2, g3⟩ := h5.cells
     obtain ⟨i0, i1, i2, i3, -, -, -, -⟩ := h6.cells
     have H6 := Lib.hid h6.below
     clear hb h5 hr4 hr4k h6
     go_wp2_with fail
     go_ret
     exact ⟨_, rfl, H6.out⟩
  ·have q1 : ¬ (T.size : Int) % 8 = 7 := by omega
   have q2 : ((T.size : Int) % 8 == 7) = false := beq_eq_false_iff_ne.2 q1
   have hc : ¬ 9223372036854775807 < T.size + 1 := by omega
   obtain ⟨N, hN⟩ : ∃ N, T ++ (⟨#[0]⟩ : ByteArray) = N := ⟨_, rfl⟩
   have HN : Hid (N.size = T.size + 1) := by rw [Hid, ← hN, ByteArray.size_append]; rfl
   go_wp2_with fail
   refine ⟨⟨trivial, N, rfl, ?_⟩, ?_⟩
   ·have h1 := HT.out
    have h2 := HN.out
    rw [Hid, h2]
    omega
   ·have h2 := HN.out
    show 7 - N.size % 8 < 7 - T.size % 8
    omega
end Go.Proofs.YtpklkhgnjbopnaaGreatDoor

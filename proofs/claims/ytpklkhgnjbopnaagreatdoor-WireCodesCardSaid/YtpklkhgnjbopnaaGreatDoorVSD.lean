/- sip: a round of four numbers, as plain data and as the program does it: printed by wip/tools/gen_sa.py. sip: rounds, take, begin, mixed, number. sip: number, eights, Sum. sip.Sum. -/
import Derived.Test.YtpklkhgnjbopnaaGreatDoorVKQ
namespace Go.Proofs.YtpklkhgnjbopnaaGreatDoor
open Go Go.RowKit Go.Shelf
abbrev xorI (a b : Int) : Int := bits .xor .u64 a b
def rotl (x : Int) (k : Nat) : Int := bits .or .u64 (IntKind.u64.wrap (x * 2 ^ k)) (x / 2 ^ (64 - k))
structure V4 where
 a : Int
 b : Int
 c : Int
 d : Int
def V4.vals (v : V4) : Array Value := #[.int .u64 v.a, .int .u64 v.b, .int .u64 v.c, .int .u64 v.d]
theorem u64_wrap (n : Int) : U64 (IntKind.u64.wrap n) := by rw [IntKind.wrap_u64]; exact ⟨Int.emod_nonneg _ (by decide), by omega⟩
theorem u64_bits {op : BinOp} {a b : Int} (h : op = .xor ∨ op = .or) : U64 (bits op .u64 a b) := by rcases h with rfl | rfl <;> exact u64_wrap _
def V4.Ok (v : V4) : Prop := U64 v.a ∧ U64 v.b ∧ U64 v.c ∧ U64 v.d
def rnd (v : V4) : V4 :=
 let a1 := IntKind.u64.wrap (v.a + v.b)
 let b1 := xorI (rotl v.b 13) a1
 let a2 := rotl a1 32
 let c1 := IntKind.u64.wrap (v.c + v.d)
 let d1 := xorI (rotl v.d 16) c1
 let a3 := IntKind.u64.wrap (a2 + d1)
 let d2 := xorI (rotl d1 21) a3
 let c2 := IntKind.u64.wrap (c1 + b1)
 let b2 := xorI (rotl b1 17) c2
 ⟨a3, b2, rotl c2 32, d2⟩
theorem rnd_ok (v : V4) : (rnd v).Ok := ⟨u64_wrap _, u64_bits (.inl rfl), u64_bits (.inr rfl), u64_bits (.inl rfl)⟩
set_option maxHeartbeats 400000 in
theorem RotateLeft64_any (x : Int) (k : Nat) (w : World) (hx : U64 x) (hk : k = 13 ∨ k = 16 ∨ k = 17 ∨ k = 21 ∨ k = 32) :
  Calls Tryz.prog 203 #[.int .u64 x, .int .i64 k] w fun e w' => e = .returned (.int .u64 (rotl x k)) ∧ w' = w := by
 obtain ⟨h0, h1⟩ := hx
 have e1 : bits .and .u64 13 63 = 13 := by decide +kernel
 have e2 : bits .and .u64 16 63 = 16 := by decide +kernel
 have e3 : bits .and .u64 17 63 = 17 := by decide +kernel
 have e4 : bits .and .u64 21 63 = 21 := by decide +kernel
 have e5 : bits .and .u64 32 63 = 32 := by decide +kernel
 unfold rotl
 rcases hk with rfl | rfl | rfl | rfl | rfl
 all_goals
  go_enter Tryz.func203, Tryz.ntmps203
  go_wp2
  go_ret
  exact ⟨rfl, rfl⟩
structure RndIn (x : V4) (w W : World) : Prop where
 box : W.heap[w.heap.size]? = some (.cells x.vals 264 (0, 0))
 res : W.heap[w.heap.size + 1]? = some (.cells #[.int .u64 0, .int .u64 0, .int .u64 0, .int .u64 0] 264 (0, 0))
 below : Below w.heap.size w W
abbrev st4 (W : World) (B : Nat) (v : V4) : World := (((W.setCell ⟨B, 0, none⟩ (.int .u64 v.a)).setCell ⟨B, 1, none⟩ (.int .u64 v.b)).setCell ⟨B, 2, none⟩ (.int .u64 v.c)).setCell ⟨B, 3, none⟩ (.int .u64 v.d)
theorem st4_heap {W : World} {B : Nat} {x v : V4} {t : TypeId} (h : W.heap[B]? = some (.cells x.vals t (0, 0))) : (st4 W B v).heap[B]? = some (.cells v.vals t (0, 0)) := hSk (hSk (hSk (hSk h _) _) _) _
theorem st4_below {W w : World} {n B : Nat} {v : V4} (h : Below n w W) (hn : n ≤ B) : Below n w (st4 W B v) := (((h.setCell (p := ⟨B, 0, none⟩) hn _).setCell (p := ⟨B, 1, none⟩) hn _).setCell (p := ⟨B, 2, none⟩) hn _).setCell (p := ⟨B, 3, none⟩) hn _
theorem und_arr4 : Tryz.prog.underlying 264 = some (.array 4 22) := by kernel_rfl
theorem size_arr4 : (Tryz.prog.info? 264).map (·.size) = some 4 := by kernel_rfl
theorem RndIn.go {x : V4} {w W W' : World} (h : RndIn x w W) (hb : Below W.heap.size W W') : RndIn x w W' := ⟨known hb (Nat.le_refl _) h.box, known hb (Nat.le_refl _) h.res, h.below.trans (hb.mono h.below.size)⟩
theorem RndIn.cells {x : V4} {w : World} : (∀ X : WIn (RndIn x w), X.world.cell? ⟨w.heap.size, 0, none⟩ = some (.int .u64 x.a)) ∧ (∀ X : WIn (RndIn x w), X.world.cell? ⟨w.heap.size, 1, none⟩ = some (.int .u64 x.b)) ∧ (∀ X : WIn (RndIn x w), X.world.cell? ⟨w.heap.size, 2, none⟩ = some (.int .u64 x.c)) ∧ (∀ X : WIn (RndIn x w), X.world.cell? ⟨w.heap.size, 3, none⟩ = some (.int .u64 x.d)) :=
 ⟨fun X => cCc X.ok.box 0, fun X => cCc X.ok.box 1, fun X => cCc X.ok.box 2, fun X => cCc X.ok.box 3⟩
theorem RndIn.at {x : V4} {w W : World} (h : RndIn x w W) : W.cell? ⟨w.heap.size, 0, none⟩ = some (.int .u64 x.a) ∧ W.cell? ⟨w.heap.size, 1, none⟩ = some (.int .u64 x.b) ∧ W.cell? ⟨w.heap.size, 2, none⟩ = some (.int .u64 x.c) ∧ W.cell? ⟨w.heap.size, 3, none⟩ = some (.int .u64 x.d) ∧ (∀ i, W.frozen? ⟨w.heap.size, i, none⟩ = false) :=
 ⟨cCc h.box 0, cCc h.box 1, cCc h.box 2, cCc h.box 3, fun i => cFz h.box i⟩
theorem RndIn.set {x y : V4} {w W : World} (h : RndIn x w W) {i : Nat} {v : Value} (hc : x.vals.setIfInBounds i v = y.vals) : ∃ V, W.setCell ⟨w.heap.size, i, none⟩ v = V ∧ RndIn y w V :=
 ⟨_, rfl, by rw [← hc]; exact hSk h.box v, (heap_set_other (p := ⟨w.heap.size, i, none⟩) (by show w.heap.size ≠ w.heap.size + 1; omega) v).trans h.res, h.below.setCell (p := ⟨w.heap.size, i, none⟩) (Nat.le_refl _) v⟩
theorem RndIn.call {x : V4} {w : World} (n : Int) (k : Nat) (hn : U64 n) (hk : k = 13 ∨ k = 16 ∨ k = 17 ∨ k = 21 ∨ k = 32) (X : WIn (RndIn x w)) : Calls Tryz.prog 203 #[.int .u64 n, .int .i64 k] X.world fun e w' => e = .returned (.int .u64 (rotl n k)) ∧ ∃ Y : WIn (RndIn x w), w' = Y.world :=
 calls_class_below (fun _ _ h hb => RndIn.go h hb) ((RotateLeft64_any n k X.world hn hk).mono fun _ _ ⟨h1, h2⟩ => ⟨h1, h2 ▸ Below.refl _ _⟩)
set_option maxRecDepth 100000 in
set_option maxHeartbeats 4000000 in
theorem Round_any (v : V4) (w : World) (hv : v.Ok) : CR 168 #[.agg v.vals] w (.agg (rnd v).vals) := by
 have H9 : Hid (∀ V : World, RndIn (rnd v) w V → V.heap[w.heap.size]? = some (.cells (rnd v).vals 264 (0, 0)) ∧ Below w.heap.size w V) := fun V h => ⟨h.box, h.below⟩
 obtain ⟨a, b, c, d⟩ := v
 obtain ⟨ha, hb, hc, hd⟩ := hv
 obtain ⟨r, hr⟩ : ∃ r, rnd ⟨a, b, c, d⟩ = r := ⟨_, rfl⟩
 rw [hr] at H9 ⊢
 have HR := Lib.hid hr
 clear hr
 unfold V4.vals
 dsimp only at *
 obtain ⟨W0, hW0, hX0, hX1, hB0, hs0⟩ := boxes2 w #[.int .u64 a, .int .u64 b, .int .u64 c, .int .u64 d] 264 #[.int .u64 0, .int .u64 0, .int .u64 0, .int .u64 0] 264
 have h0 : RndIn ⟨a, b, c, d⟩ w W0 := ⟨hX0, hX1, hB0⟩
 clear hX0 hX1 hB0 hs0
 go_enter Tryz.func168, Tryz.ntmps168
 obtain ⟨x1, e1⟩ : ∃ z, IntKind.u64.wrap (a + b) = z := ⟨_, rfl⟩
 have g1 : U64 x1 := by rw [← e1]; exact u64_wrap _
 obtain ⟨W1, hW1, h1⟩ := RndIn.set (y := ⟨x1, b, c, d⟩) h0 (i := 0) (v := .int .u64 x1) rfl
 obtain ⟨c0, c1, c2, c3, f0⟩ := RndIn.at h0
 obtain ⟨d0, d1, d2, d3, f1⟩ := RndIn.at h1
 dsimp only at c0 c1 c2 c3 d0 d1 d2 d3
 obtain ⟨y1, e2⟩ : ∃ z, xorI (rotl b 13) x1 = z := ⟨_, rfl⟩
 have g2 : U64 y1 := by rw [← e2]; exact u64_bits (.inl rfl)
 have h1d : RndIn ⟨x1, b, c, d⟩ w W1.drew := RndIn.go h1 (Below.refl _ _).drew
 let Inv : World → Prop := RndIn ⟨x1, b, c, d⟩ w
 obtain ⟨q0, q1, q2, q3⟩ : (∀ X : WIn Inv, X.world.cell? ⟨w.heap.size, 0, none⟩ = some (.int .u64 x1)) ∧ (∀ X : WIn Inv, X.world.cell? ⟨w.heap.size, 1, none⟩ = some (.int .u64 b)) ∧ (∀ X : WIn Inv, X.world.cell? ⟨w.heap.size, 2, none⟩ = some (.int .u64 c)) ∧ (∀ X : WIn Inv, X.world.cell? ⟨w.heap.size, 3, none⟩ = some (.int .u64 d)) := RndIn.cells (x := ⟨x1, b, c, d⟩) (w := w)
 have K1 : Hid (∀ X : WIn Inv, Calls Tryz.prog 203 #[.int .u64 b, .int .i64 13] X.world fun e w' => e = .returned (.int .u64 (rotl b 13)) ∧ ∃ Y : WIn Inv, w' = Y.world) := RndIn.call b 13 (by assumption) (by decide)
 have HF : Hid (∀ X : WIn Inv, RndIn ⟨x1, b, c, d⟩ w X.world) := fun X => X.ok
 have hI1 : Inv W1.drew := h1d
 have hne : Nonempty (WIn Inv) := ⟨⟨_, hI1⟩⟩
 clear h1 h1d
 clear_value Inv
 go_wp2_with fail
 refine wp_region_class_lit Inv (l := [_, _, _, _, _, _, _]) (o := _) rfl (by kernel_rfl) (by kernel_rfl) (by kernel_rfl) hI1 ?_
 repeat (first | go_big_quiet_step ((go_at_call 203; with_reducible exact K1.out _)) | quiet_step ((go_at_call 203; with_reducible exact K1.out _)))
 refine wpQuiet_nil ?_
 rintro _ ⟨X, rfl⟩
 have h1f := HF.out X
 generalize X.world = Y1 at h1f ⊢
 clear X hne q0 q1 q2 q3 K1 HF hI1
 clear Inv
 obtain ⟨W2, hW2, h2⟩ := RndIn.set (y := ⟨x1, y1, c, d⟩) h1f (i := 1) (v := .int .u64 y1) rfl
 obtain ⟨c0, c1, c2, c3, f0⟩ := RndIn.at h1f
 obtain ⟨d0, d1, d2, d3, f1⟩ := RndIn.at h2
 dsimp only at c0 c1 c2 c3 d0 d1 d2 d3
 obtain ⟨z1, e3⟩ : ∃ z, rotl x1 32 = z := ⟨_, rfl⟩
 have g3 : U64 z1 := by rw [← e3]; exact u64_bits (.inr rfl)
 obtain ⟨W3, hW3, h3⟩ := RndIn.set (y := ⟨z1, y1, c, d⟩) h2 (i := 0) (v := .int .u64 z1) rfl
 obtain ⟨c0, c1, c2, c3, f0⟩ := RndIn.at h2
 obtain ⟨d0, d1, d2, d3, f1⟩ := RndIn.at h3
 dsimp only at c0 c1 c2 c3 d0 d1 d2 d3
 go_wp2_with fail
 refine (RotateLeft64_any x1 32 _ (by assumption) (by decide)).mono ?_
 rintro e w1 ⟨rfl, rfl⟩
 obtain ⟨u1, e4⟩ : ∃ z, IntKind.u64.wrap (c + d) = z := ⟨_, rfl⟩
 have g4 : U64 u1 := by rw [← e4]; exact u64_wrap _
 obtain ⟨W4, hW4, h4⟩ := RndIn.set (y := ⟨z1, y1, u1, d⟩) h3 (i := 2) (v := .int .u64 u1) rfl
 obtain ⟨c0, c1, c2, c3, f0⟩ := RndIn.at h3
 obtain ⟨d0, d1, d2, d3, f1⟩ := RndIn.at h4
 dsimp only at c0 c1 c2 c3 d0 d1 d2 d3
 obtain ⟨v1, e5⟩ : ∃ z, xorI (rotl d 16) u1 = z := ⟨_, rfl⟩
 have g5 : U64 v1 := by rw [← e5]; exact u64_bits (.inl rfl)
 have h4d : RndIn ⟨z1, y1, u1, d⟩ w W4.drew := RndIn.go h4 (Below.refl _ _).drew
 let Inv : World → Prop := RndIn ⟨z1, y1, u1, d⟩ w
 obtain ⟨q0, q1, q2, q3⟩ : (∀ X : WIn Inv, X.world.cell? ⟨w.heap.size, 0, none⟩ = some (.int .u64 z1)) ∧ (∀ X : WIn Inv, X.world.cell? ⟨w.heap.size, 1, none⟩ = some (.int .u64 y1)) ∧ (∀ X : WIn Inv, X.world.cell? ⟨w.heap.size, 2, none⟩ = some (.int .u64 u1)) ∧ (∀ X : WIn Inv, X.world.cell? ⟨w.heap.size, 3, none⟩ = some (.int .u64 d)) := RndIn.cells (x := ⟨z1, y1, u1, d⟩) (w := w)
 have K1 : Hid (∀ X : WIn Inv, Calls Tryz.prog 203 #[.int .u64 d, .int .i64 16] X.world fun e w' => e = .returned (.int .u64 (rotl d 16)) ∧ ∃ Y : WIn Inv, w' = Y.world) := RndIn.call d 16 (by assumption) (by decide)
 have HF : Hid (∀ X : WIn Inv, RndIn ⟨z1, y1, u1, d⟩ w X.world) := fun X => X.ok
 have hI4 : Inv W4.drew := h4d
 have hne : Nonempty (WIn Inv) := ⟨⟨_, hI4⟩⟩
 clear h4 h4d
 clear_value Inv
 go_wp2_with fail
 refine wp_region_class_lit Inv (l := [_, _, _, _, _, _, _]) (o := _) rfl (by kernel_rfl) (by kernel_rfl) (by kernel_rfl) hI4 ?_
 repeat (first | go_big_quiet_step ((go_at_call 203; with_reducible exact K1.out _)) | quiet_step ((go_at_call 203; with_reducible exact K1.out _)))
 refine wpQuiet_nil ?_
 rintro _ ⟨X, rfl⟩
 have h4f := HF.out X
 generalize X.world = Y4 at h4f ⊢
 clear X hne q0 q1 q2 q3 K1 HF hI4
 clear Inv
 obtain ⟨W5, hW5, h5⟩ := RndIn.set (y := ⟨z1, y1, u1, v1⟩) h4f (i := 3) (v := .int .u64 v1) rfl
 obtain ⟨c0, c1, c2, c3, f0⟩ := RndIn.at h4f
 obtain ⟨d0, d1, d2, d3, f1⟩ := RndIn.at h5
 dsimp only at c0 c1 c2 c3 d0 d1 d2 d3
 obtain ⟨i1, e6⟩ : ∃ z, IntKind.u64.wrap (z1 + v1) = z := ⟨_, rfl⟩
 have g6 : U64 i1 := by rw [← e6]; exact u64_wrap _
 obtain ⟨W6, hW6, h6⟩ := RndIn.set (y := ⟨i1, y1, u1, v1⟩) h5 (i := 0) (v := .int .u64 i1) rfl
 obtain ⟨c0, c1, c2, c3, f0⟩ := RndIn.at h5
 obtain ⟨d0, d1, d2, d3, f1⟩ := RndIn.at h6
 dsimp only at c0 c1 c2 c3 d0 d1 d2 d3
 obtain ⟨j1, e7⟩ : ∃ z, xorI (rotl v1 21) i1 = z := ⟨_, rfl⟩
 have g7 : U64 j1 := by rw [← e7]; exact u64_bits (.inl rfl)
 have h6d : RndIn ⟨i1, y1, u1, v1⟩ w W6.drew := RndIn.go h6 (Below.refl _ _).drew
 let Inv : World → Prop := RndIn ⟨i1, y1, u1, v1⟩ w
 obtain ⟨q0, q1, q2, q3⟩ : (∀ X : WIn Inv, X.world.cell? ⟨w.heap.size, 0, none⟩ = some (.int .u64 i1)) ∧ (∀ X : WIn Inv, X.world.cell? ⟨w.heap.size, 1, none⟩ = some (.int .u64 y1)) ∧ (∀ X : WIn Inv, X.world.cell? ⟨w.heap.size, 2, none⟩ = some (.int .u64 u1)) ∧ (∀ X : WIn Inv, X.world.cell? ⟨w.heap.size, 3, none⟩ = some (.int .u64 v1)) := RndIn.cells (x := ⟨i1, y1, u1, v1⟩) (w := w)
 have K1 : Hid (∀ X : WIn Inv, Calls Tryz.prog 203 #[.int .u64 v1, .int .i64 21] X.world fun e w' => e = .returned (.int .u64 (rotl v1 21)) ∧ ∃ Y : WIn Inv, w' = Y.world) := RndIn.call v1 21 (by assumption) (by decide)
 have HF : Hid (∀ X : WIn Inv, RndIn ⟨i1, y1, u1, v1⟩ w X.world) := fun X => X.ok
 have hI6 : Inv W6.drew := h6d
 have hne : Nonempty (WIn Inv) := ⟨⟨_, hI6⟩⟩
 clear h6 h6d
 clear_value Inv
 go_wp2_with fail
 refine wp_region_class_lit Inv (l := [_, _, _, _, _, _, _]) (o := _) rfl (by kernel_rfl) (by kernel_rfl) (by kernel_rfl) hI6 ?_
 repeat (first | go_big_quiet_step ((go_at_call 203; with_reducible exact K1.out _)) | quiet_step ((go_at_call 203; with_reducible exact K1.out _)))
 refine wpQuiet_nil ?_
 rintro _ ⟨X, rfl⟩
 have h6f := HF.out X
 generalize X.world = Y6 at h6f ⊢
 clear X hne q0 q1 q2 q3 K1 HF hI6
 clear Inv
 obtain ⟨W7, hW7, h7⟩ := RndIn.set (y := ⟨i1, y1, u1, j1⟩) h6f (i := 3) (v := .int .u64 j1) rfl
 obtain ⟨c0, c1, c2, c3, f0⟩ := RndIn.at h6f
 obtain ⟨d0, d1, d2, d3, f1⟩ := RndIn.at h7
 dsimp only at c0 c1 c2 c3 d0 d1 d2 d3
 obtain ⟨k1, e8⟩ : ∃ z, IntKind.u64.wrap (u1 + y1) = z := ⟨_, rfl⟩
 have g8 : U64 k1 := by rw [← e8]; exact u64_wrap _
 obtain ⟨W8, hW8, h8⟩ := RndIn.set (y := ⟨i1, y1, k1, j1⟩) h7 (i := 2) (v := .int .u64 k1) rfl
 obtain ⟨c0, c1, c2, c3, f0⟩ := RndIn.at h7
 obtain ⟨d0, d1, d2, d3, f1⟩ := RndIn.at h8
 dsimp only at c0 c1 c2 c3 d0 d1 d2 d3
 obtain ⟨m1, e9⟩ : ∃ z, xorI (rotl y1 17) k1 = z := ⟨_, rfl⟩
 have g9 : U64 m1 := by rw [← e9]; exact u64_bits (.inl rfl)
 have h8d : RndIn ⟨i1, y1, k1, j1⟩ w W8.drew := RndIn.go h8 (Below.refl _ _).drew
 let Inv : World → Prop := RndIn ⟨i1, y1, k1, j1⟩ w
 obtain ⟨q0, q1, q2, q3⟩ : (∀ X : WIn Inv, X.world.cell? ⟨w.heap.size, 0, none⟩ = some (.int .u64 i1)) ∧ (∀ X : WIn Inv, X.world.cell? ⟨w.heap.size, 1, none⟩ = some (.int .u64 y1)) ∧ (∀ X : WIn Inv, X.world.cell? ⟨w.heap.size, 2, none⟩ = some (.int .u64 k1)) ∧ (∀ X : WIn Inv, X.world.cell? ⟨w.heap.size, 3, none⟩ = some (.int .u64 j1)) := RndIn.cells (x := ⟨i1, y1, k1, j1⟩) (w := w)
 have K1 : Hid (∀ X : WIn Inv, Calls Tryz.prog 203 #[.int .u64 y1, .int .i64 17] X.world fun e w' => e = .returned (.int .u64 (rotl y1 17)) ∧ ∃ Y : WIn Inv, w' = Y.world) := RndIn.call y1 17 (by assumption) (by decide)
 have HF : Hid (∀ X : WIn Inv, RndIn ⟨i1, y1, k1, j1⟩ w X.world) := fun X => X.ok
 have hI8 : Inv W8.drew := h8d
 have hne : Nonempty (WIn Inv) := ⟨⟨_, hI8⟩⟩
 clear h8 h8d
 clear_value Inv
 go_wp2_with fail
 refine wp_region_class_lit Inv (l := [_, _, _, _, _, _, _]) (o := _) rfl (by kernel_rfl) (by kernel_rfl) (by kernel_rfl) hI8 ?_
 repeat (first | go_big_quiet_step ((go_at_call 203; with_reducible exact K1.out _)) | quiet_step ((go_at_call 203; with_reducible exact K1.out _)))
 refine wpQuiet_nil ?_
 rintro _ ⟨X, rfl⟩
 have h8f := HF.out X
 generalize X.world = Y8 at h8f ⊢
 clear X hne q0 q1 q2 q3 K1 HF hI8
 clear Inv
 obtain ⟨W9, hW9, h9⟩ := RndIn.set (y := ⟨i1, m1, k1, j1⟩) h8f (i := 1) (v := .int .u64 m1) rfl
 obtain ⟨c0, c1, c2, c3, f0⟩ := RndIn.at h8f
 obtain ⟨d0, d1, d2, d3, f1⟩ := RndIn.at h9
 dsimp only at c0 c1 c2 c3 d0 d1 d2 d3
 obtain ⟨n1, e10⟩ : ∃ z, rotl k1 32 = z := ⟨_, rfl⟩
 have g10 : U64 n1 := by rw [← e10]; exact u64_bits (.inr rfl)
 obtain ⟨W10, hW10, h10⟩ := RndIn.set (y := ⟨i1, m1, n1, j1⟩) h9 (i := 2) (v := .int .u64 n1) rfl
 obtain ⟨c0, c1, c2, c3, f0⟩ := RndIn.at h9
 obtain ⟨d0, d1, d2, d3, f1⟩ := RndIn.at h10
 dsimp only at c0 c1 c2 c3 d0 d1 d2 d3
 go_wp2_with fail
 refine (RotateLeft64_any k1 32 _ (by assumption) (by decide)).mono ?_
 rintro e w1 ⟨rfl, rfl⟩
 have hres := h10.res
 obtain ⟨p0, p1, p2, p3⟩ := cl4 hres
 obtain ⟨t0, t1, t2, t3⟩ := cz4 hres
 have H10 : Hid (Below w.heap.size w (st4 W10 (w.heap.size + 1) ⟨i1, m1, n1, j1⟩)) := st4_below h10.below (Nat.le_succ _)
 have H11 : Hid ((st4 W10 (w.heap.size + 1) ⟨i1, m1, n1, j1⟩).heap[w.heap.size + 1]? = some (.cells (V4.vals ⟨i1, m1, n1, j1⟩) 264 (0, 0))) := st4_heap (x := ⟨0, 0, 0, 0⟩) hres
 have H12 : Hid (r = ⟨i1, m1, n1, j1⟩) := by
  rw [Hid, ← HR.out]
  unfold rnd
  dsimp only
  rw [e1, e2, e3, e4, e5, e6, e7, e8, e9, e10]
 clear hres h10
 go_wp2_with fail
 refine bodyPost_ret (results_cell_row rfl _ _ (w.heap.size + 1) 264 (V4.vals ⟨i1, m1, n1, j1⟩) (0, 0) _ rfl H11.out und_arr4 rfl size_arr4) rfl ⟨?_, H10.out⟩
 rw [H12.out]; rfl
end Go.Proofs.YtpklkhgnjbopnaaGreatDoor
namespace Go.Proofs.YtpklkhgnjbopnaaGreatDoor
open Go Go.RowKit Go.Shelf
def rndN : Nat → V4 → V4
 | 0, v => v
 | n + 1, v => rndN n (rnd v)
theorem rndN_snoc : ∀ (n : Nat) (v : V4), rndN (n + 1) v = rnd (rndN n v)
 | 0, _ => rfl
 | n + 1, v => by rw [rndN, rndN_snoc n (rnd v)]; rfl
theorem rndN_ok {v : V4} (h : v.Ok) : ∀ n, (rndN n v).Ok
 | 0 => h
 | n + 1 => by rw [rndN_snoc]; exact rnd_ok _
structure OnlyB (b : Nat) (W W' : World) : Prop where
 below : Below b W W'
 other : ∀ j, j < W.heap.size → j ≠ b → W'.heap[j]? = W.heap[j]?
theorem OnlyB.trans {b : Nat} {X Y Z : World} (h : OnlyB b X Y) (k : OnlyB b Y Z) : OnlyB b X Z := ⟨h.below.trans k.below, fun j hj hn => (k.other j (Nat.lt_of_lt_of_le hj h.below.size) hn).trans (h.other j hj hn)⟩
theorem OnlyB.refl (b : Nat) (X : World) : OnlyB b X X := ⟨Below.refl _ _, fun _ _ _ => rfl⟩
theorem OnlyB.drew (b : Nat) (X : World) : OnlyB b X X.drew := ⟨(Below.refl _ _).drew, fun _ _ _ => rfl⟩
theorem OnlyB.set (b i : Nat) (X : World) (v : Value) : OnlyB b X (X.setCell ⟨b, i, none⟩ v) := ⟨(Below.refl _ _).setCell (p := ⟨b, i, none⟩) (Nat.le_refl _) v, fun _ _ hn => heap_set_other (p := ⟨b, i, none⟩) (fun e => hn e.symm) v⟩
theorem OnlyB.of_below {b : Nat} {X Y : World} (h : Below X.heap.size X Y) (hb : b ≤ X.heap.size) : OnlyB b X Y := ⟨h.mono hb, fun j hj _ => h.block j hj⟩
theorem OnlyB.st4 (b : Nat) (X : World) (v : V4) : OnlyB b X (st4 X b v) := (((OnlyB.set b 0 X _).trans (OnlyB.set b 1 _ _)).trans (OnlyB.set b 2 _ _)).trans (OnlyB.set b 3 _ _)
def NumAt (w : World) (b : Nat) (v : V4) : Prop := w.heap[b]? = some (.cells v.vals 267 (0, 0))
theorem NumAt.lt {w : World} {b : Nat} {v : V4} (h : NumAt w b v) : b < w.heap.size := (Array.getElem?_eq_some_iff.1 h).1
theorem NumAt.cells {w : World} {b : Nat} {v : V4} (h : NumAt w b v) : w.cell? ⟨b, 0, none⟩ = some (.int .u64 v.a) ∧ w.cell? ⟨b, 1, none⟩ = some (.int .u64 v.b) ∧ w.cell? ⟨b, 2, none⟩ = some (.int .u64 v.c) ∧ w.cell? ⟨b, 3, none⟩ = some (.int .u64 v.d) ∧ w.frozen? ⟨b, 0, none⟩ = false ∧ w.frozen? ⟨b, 1, none⟩ = false ∧ w.frozen? ⟨b, 2, none⟩ = false ∧ w.frozen? ⟨b, 3, none⟩ = false :=
 ⟨cCc h 0, cCc h 1, cCc h 2, cCc h 3, cFz h 0, cFz h 1, cFz h 2, cFz h 3⟩
set_option maxHeartbeats 1000000 in
theorem rounds_any (b n : Nat) (v : V4) (w : World) (h : NumAt w b v) (hv : v.Ok) (hn : n ≤ 4) :
  Calls Tryz.prog 139 #[.pointer (some ⟨b, 0, none⟩), .int .i64 n] w fun e w' => e = .returned (.tuple #[]) ∧ NumAt w' b (rndN n v) ∧ OnlyB b w w' := by
 have H := Lib.hid h
 have HV := Lib.hid hv
 clear h hv
 go_enter Tryz.func139, Tryz.ntmps139
 go_wp2_with fail
 go_loopw [5] (fun i wr => ∃ k : Nat, i = .int .i64 k ∧ k ≤ n ∧ NumAt wr b (rndN k v) ∧ Hid (OnlyB b w wr)) (fun i _ => n - (intOf i).toNat)
 case atStart => exact ⟨0, rfl, Nat.zero_le _, H.out, OnlyB.refl _ _⟩
 case round =>
  obtain ⟨k, rfl, hk, hA, HO⟩ := hrel
  by_cases hlt : k < n
  ·have hu : (rndN k v).Ok := rndN_ok HV.out k
   have hsn := Lib.hid (rndN_snoc k v)
   obtain ⟨u, hue⟩ : ∃ u, rndN k v = u := ⟨_, rfl⟩
   rw [hue] at hA hu hsn
   have HU := Lib.hid hu
   have HA := Lib.hid hA
   obtain ⟨c0, c1, c2, c3, -, -, -, -⟩ := hA.cells
   clear hA hu hue
   go_wp2_with fail
   refine (Round_any u _ HU.out).mono ?_
   rintro e w1 ⟨rfl, hb1⟩
   have hA1 : NumAt w1 b u := known hb1 (Nat.le_refl _) HA.out
   obtain ⟨d0, d1, d2, d3, e0, e1, e2, e3⟩ := hA1.cells
   have HA1 := Lib.hid hA1
   unfold V4.vals
   clear hA1
   go_wp2_with fail
   refine ⟨⟨k + 1, by go_num, by omega, ?_, ?_⟩, by simp [intOf]; omega⟩
   ·rw [hsn.out]; exact st4_heap (v := rnd u) (x := u) HA1.out
   ·exact (HO.out.trans (OnlyB.of_below hb1 (Nat.le_of_lt HA.out.lt))).trans (OnlyB.st4 b w1 (rnd u))
  ·obtain rfl : k = n := by omega
   go_wp2_with fail
   go_end0
   exact ⟨rfl, hA, HO.out⟩
def takeV (v : V4) (m : Int) : V4 := let u := rndN 2 { v with d := xorI v.d m }; { u with a := xorI u.a m }
theorem takeV_ok {v : V4} {m : Int} (h : v.Ok) : (takeV v m).Ok := by
 have hu : (rndN 2 { v with d := xorI v.d m }).Ok := rndN_ok (v := { v with d := xorI v.d m }) ⟨h.1, h.2.1, h.2.2.1, u64_bits (.inl rfl)⟩ 2
 unfold takeV
 generalize rndN 2 { v with d := xorI v.d m } = u at hu ⊢
 exact ⟨u64_bits (.inl rfl), hu.2⟩
theorem NumAt.set {w : World} {b i : Nat} {v u : V4} {x : Value} (h : NumAt w b v) (hc : v.vals.setIfInBounds i x = u.vals) : ∃ V, w.setCell ⟨b, i, none⟩ x = V ∧ NumAt V b u ∧ OnlyB b w V :=
 ⟨_, rfl, by unfold NumAt; rw [← hc]; exact hSk h x, OnlyB.set _ _ _ _⟩
set_option maxHeartbeats 1000000 in
theorem take_any (b : Nat) (m : Int) (v : V4) (w : World) (h : NumAt w b v) (hv : v.Ok) :
  Calls Tryz.prog 138 #[.pointer (some ⟨b, 0, none⟩), .int .u64 m] w fun e w' => e = .returned (.tuple #[]) ∧ NumAt w' b (takeV v m) ∧ OnlyB b w w' := by
 obtain ⟨V, hV, hA, hO⟩ := NumAt.set (i := 3) (x := .int .u64 (xorI v.d m)) (u := { v with d := xorI v.d m }) h rfl
 obtain ⟨c0, c1, c2, c3, -, -, -, f3⟩ := h.cells
 have HR := Lib.hid (rounds_any b 2 { v with d := xorI v.d m } V.drew hA ⟨hv.1, hv.2.1, hv.2.2.1, u64_bits (.inl rfl)⟩ (by decide))
 have HO := Lib.hid hO
 have HT : Hid (takeV v m = { rndN 2 { v with d := xorI v.d m } with a := xorI (rndN 2 { v with d := xorI v.d m }).a m }) := rfl
 obtain ⟨u, hu⟩ : ∃ u, rndN 2 { v with d := xorI v.d m } = u := ⟨_, rfl⟩
 rw [hu] at HR HT
 clear h hv hA hO hu
 go_enter Tryz.func138, Tryz.ntmps138
 go_wp2_with fail
 go_region
 go_wp2_with (go_at_call 139; refine HR.out.mono ?_; rintro e w1 ⟨rfl, hA1, hO1⟩; obtain ⟨d0, -, -, -, e0, -, -, -⟩ := hA1.cells)
 go_region
 go_wp2_with fail
 go_end0
 refine ⟨rfl, ?_, (((HO.out.trans (OnlyB.drew _ _)).trans hO1).trans (OnlyB.set b 0 _ _)).trans (OnlyB.drew _ _)⟩
 rw [HT.out]
 exact hSk (W := w1) hA1 _
def mixV (v : V4) : Int := xorI (xorI (xorI (xorI 0 v.a) v.b) v.c) v.d
set_option maxHeartbeats 1000000 in
theorem mixed_any (b c : Nat) (v : V4) (w : World) (h : NumAt w b v) :
  Calls Tryz.prog 140 #[.slice (some ⟨b, 0, none⟩) 4 c] w fun e w' => e = .returned (.int .u64 (mixV v)) ∧ Below w.heap.size w w' := by
 obtain ⟨c0, c1, c2, c3, -, -, -, -⟩ := h.cells
 clear h
 go_enter Tryz.func140, Tryz.ntmps140
 go_wp2_with fail
 refine wp_loop_rounds 5 ?_
 rw [rounds_succ]
 go_wp2_with fail
 rw [rounds_succ]
 go_wp2_with fail
 rw [rounds_succ]
 go_wp2_with fail
 rw [rounds_succ]
 go_wp2_with fail
 rw [rounds_succ]
 go_wp2_with fail
 go_ret
 exact ⟨rfl, Below.refl _ _⟩
theorem und_summer : Tryz.prog.underlying 267 = some (.struct (Tryz.prog.fieldsOf 267)) := by kernel_rfl
theorem size_summer : (Tryz.prog.info? 267).map (·.size) = some 4 := by kernel_rfl
def beginV (A B : Int) : V4 := ⟨xorI A 8317987319222330741, xorI B 7237128888997146477, xorI A 7816392313619706465, xorI B 8387220255154660723⟩
theorem beginV_ok (A B : Int) : (beginV A B).Ok := ⟨u64_bits (.inl rfl), u64_bits (.inl rfl), u64_bits (.inl rfl), u64_bits (.inl rfl)⟩
set_option maxHeartbeats 2000000 in
theorem begin_any (A B : Int) (b : Nat) (w : World) (h : w.heap[b]? = some (.cells #[.int .u64 8317987319222330741, .int .u64 7237128888997146477, .int .u64 7816392313619706465, .int .u64 8387220255154660723] 22 (0, 0))) :
  CR 136 #[.agg #[.int .u64 A, .int .u64 B], .slice (some ⟨b, 0, none⟩) 4 4] w (.agg (beginV A B).vals) := by
 obtain ⟨c0, c1, c2, c3⟩ := cl4 h
 have hbz : b < w.heap.size := (Array.getElem?_eq_some_iff.1 h).1
 obtain ⟨Wa, hWa, hXa, hXb, hXc, hBa, hsa⟩ := boxes3 w #[.int .u64 A, .int .u64 B] 24 #[.int .u64 0, .int .u64 0, .int .u64 0, .int .u64 0] 267 #[.int .u64 0, .int .u64 0, .int .u64 0, .int .u64 0] 267
 obtain ⟨W0, hW0, hXd, hBd, hsd⟩ := boxes1 Wa #[.int .u64 A, .int .u64 B] 320
 rw [hsa] at hXd hBd hsd
 have hB0 := hBa.trans (hBd.mono (by omega))
 replace h := known hB0 (Nat.le_refl _) h
 replace hXc := (hBd.block _ (by omega)).trans hXc
 replace hXb := (hBd.block _ (by omega)).trans hXb
 rw [← hWa] at hW0
 have HXb := Lib.hid hXb
 have HXs := Lib.hid hXc
 obtain ⟨a0, a1⟩ := cl2 hXd
 obtain ⟨d0, d1, d2, d3⟩ := cl4 h
 obtain ⟨s0, s1, s2, s3⟩ := cl4 hXc
 obtain ⟨f0, f1, f2, f3⟩ := cz4 hXc
 have HB0 := Lib.hid hB0
 clear h hXd hXc hXb hXa hBa hBd hsa hsd hB0 hWa
 go_enter Tryz.func136, Tryz.ntmps136
 go_wp2_with fail
 refine wp_loop_rounds 5 ?_
 rw [rounds_succ]
 go_wp2_with fail
 rw [rounds_succ]
 go_wp2_with fail
 rw [rounds_succ]
 go_wp2_with fail
 rw [rounds_succ]
 go_wp2_with fail
 rw [rounds_succ]
 obtain ⟨V, hV⟩ : ∃ V, (((W0.setCell ⟨w.heap.size + 1 + 1, 0, none⟩ (.int .u64 (bits .xor .u64 A 8317987319222330741))).setCell ⟨w.heap.size + 1 + 1, 1, none⟩ (.int .u64 (bits .xor .u64 B 7237128888997146477))).setCell ⟨w.heap.size + 1 + 1, 2, none⟩ (.int .u64 (bits .xor .u64 A 7816392313619706465))).setCell ⟨w.heap.size + 1 + 1, 3, none⟩ (.int .u64 (bits .xor .u64 B 8387220255154660723)) = V := ⟨_, rfl⟩
 rw [hV]
 have hVb : V.heap[w.heap.size + 1]? = some (.cells #[.int .u64 0, .int .u64 0, .int .u64 0, .int .u64 0] 267 (0, 0)) := by
  rw [← hV]
  exact ((OnlyB.st4 (w.heap.size + 1 + 1) W0 (beginV A B)).below.block _ (Nat.lt_succ_self _)).trans HXb.out
 have hVs : V.heap[w.heap.size + 1 + 1]? = some (.cells (beginV A B).vals 267 (0, 0)) := by rw [← hV]; exact st4_heap (x := ⟨0, 0, 0, 0⟩) (v := beginV A B) HXs.out
 have HBV : Hid (Below w.heap.size w V) := by rw [Hid, ← hV]; exact st4_below (v := beginV A B) HB0.out (by omega)
 unfold beginV V4.vals at hVs
 dsimp only at hVs
 obtain ⟨p0, p1, p2, p3⟩ := cl4 hVb
 obtain ⟨t0, t1, t2, t3⟩ := cz4 hVb
 obtain ⟨v0, v1, v2, v3⟩ := cl4 hVs
 have H11 : Hid ((st4 V (w.heap.size + 1) (beginV A B)).heap[w.heap.size + 1]? = some (.cells (beginV A B).vals 267 (0, 0))) := st4_heap (x := ⟨0, 0, 0, 0⟩) hVb
 have H10 : Hid (Below w.heap.size w (st4 V (w.heap.size + 1) (beginV A B))) := st4_below HBV.out (Nat.le_succ _)
 clear hVb hVs hV hW0 a0 a1 c0 c1 c2 c3 d0 d1 d2 d3 s0 s1 s2 s3 f0 f1 f2 f3
 go_wp2_with fail
 exact bodyPost_ret (results_cell_row rfl _ _ (w.heap.size + 1) 267 (beginV A B).vals (0, 0) _ rfl H11.out und_summer rfl size_summer) rfl ⟨rfl, H10.out⟩
end Go.Proofs.YtpklkhgnjbopnaaGreatDoor
namespace Go.Proofs.YtpklkhgnjbopnaaGreatDoor
open Go Go.RowKit Go.Shelf
def byteAt (s : ByteArray) (k : Nat) : Int := ((s.data.getD k 0).toNat : Int)
def numK (s : ByteArray) : Nat → Int
 | 0 => 0
 | k + 1 => bits .or .u64 (numK s k) (IntKind.u64.wrap (IntKind.u64.wrap (byteAt s k) * 2 ^ (8 * k)))
theorem byteAt_eq (s : ByteArray) (k : Nat) (h : k < s.size) : ((s[k]'h).toNat : Int) = byteAt s k := by
 unfold byteAt
 have h2 : k < s.data.size := h
 rw [Array.getD_eq_getD_getElem?, Array.getElem?_eq_getElem h2]
 rfl
set_option maxHeartbeats 1000000 in
theorem number_sip (s : ByteArray) (w : World) (hs : s.size ≤ 8) :
  Calls Tryz.prog 167 #[.string s] w fun e w' => e = .returned (.int .u64 (numK s s.size)) ∧ w' = w := by
 go_enter Tryz.func167, Tryz.ntmps167
 go_wp2_with fail
 go_loopw [3, 7] (fun n i wr => ∃ k : Nat, n = .int .u64 (numK s k) ∧ i = .int .i64 k ∧ k ≤ s.size ∧ wr = w) (fun _ i _ => s.size - (intOf i).toNat)
 case atStart => exact ⟨0, rfl, rfl, Nat.zero_le _, rfl⟩
 case round =>
  obtain ⟨k, rfl, rfl, hk, rfl⟩ := hrel
  by_cases hlt : k < s.size
  ·have hb := byteAt_eq s k hlt
   go_wp2_with fail
   exact ⟨⟨k + 1, rfl, by go_num, by omega, trivial⟩, by simp [intOf]; omega⟩
  ·obtain rfl : k = s.size := by omega
   go_wp2_with fail
   go_ret
   exact ⟨rfl, rfl⟩
def chunkN (s : ByteArray) (j : Nat) : Int := numK (s.extract (8 * j) (8 * j + 8)) 8
def lastN8 (s : ByteArray) : Int := bits .or .u64 (numK (s.extract (8 * (s.size / 8)) s.size) (s.extract (8 * (s.size / 8)) s.size).size) (IntKind.u64.wrap (IntKind.u64.wrap s.size * 72057594037927936))
def eightL (s : ByteArray) : List (Int × Bool) := (List.range (s.size / 8)).map (fun j => (chunkN s j, false)) ++ [(lastN8 s, true)]
theorem eightL_len (s : ByteArray) : (eightL s).length = s.size / 8 + 1 := by simp [eightL]
theorem eightL_at (s : ByteArray) (j : Nat) (h : j < s.size / 8) : (eightL s)[j]? = some (chunkN s j, false) := by
 unfold eightL
 rw [List.getElem?_append_left (by simpa using h)]
 simp [h]
theorem eightL_end (s : ByteArray) : (eightL s)[s.size / 8]? = some (lastN8 s, true) := by
 unfold eightL
 rw [List.getElem?_append_right (by simp)]
 simp
theorem eights_any (s : ByteArray) (w : World) :
  Calls Tryz.prog 137 #[.string s] w fun e w' => e = .returned (.func (.func 166) #[] #[.pointer (some ⟨w.heap.size, 0, none⟩)]) ∧ w' = w.alloc (.cells #[.string s] 9) := by
 go_enter Tryz.func137, Tryz.ntmps137
 go_wp2
 go_ret
 exact ⟨rfl, rfl⟩
set_option maxRecDepth 100000 in
set_option maxHeartbeats 1000000 in
theorem eights1 (l Bs : Nat) (s : ByteArray) (hreach : s.size < 4294967281) (J Jx : List (Int × Bool) → World → Prop)
  (hY : ∀ pre x W, J pre W → pre.length < (eightL s).length → YieldAt Fence.wide 7 Tryz.prog l #[.int .u64 x.1, .bool x.2] W fun e W' =>
   (e = .returned (.bool true) ∧ J (pre ++ [x]) W' ∧ KB Bs W W') ∨ (e = .returned (.bool false) ∧ Jx (pre ++ [x]) W'))
  (W : World) (hJ : AbidesFrom W.heap.size J) (hBs : W.heap[Bs]? = some (.cells #[.string s] 9 (0, 0))) (h0 : J [] W) :
  CallsIn Fence.wide 8 Tryz.prog 166 #[.func (.yield l) #[] #[], .pointer (some ⟨Bs, 0, none⟩)] W fun e W' => (∃ v, e = .returned v) ∧
   ((∃ ys, ys = eightL s ∧ J ys W') ∨ (∃ pre, pre <+: eightL s ∧ Jx pre W')) := by
 have hol := eightL_len s
 refine callsIn_of_wp Tryz.func166 rfl trivial ?_ rfl
 simp only [Tryz.ntmps166, List.size_toArray, List.length_cons, List.length_nil, Nat.reduceAdd, Nat.reduceSub, Array.replicate_succ, Array.replicate_zero, List.push_toArray, List.append_toArray, List.nil_append, List.cons_append]
 have HO := Lib.hid hol
 have c9 : W.cell? ⟨Bs, 0, none⟩ = some (.string s) := cCc hBs 0
 clear hol
 gi_wp2
 gi_loopw [3] (fun i wr => ∃ j : Nat, j ≤ s.size / 8 ∧ i = .int .i64 ((8 * j : Nat) : Int) ∧ J ((eightL s).take j) wr ∧ KB Bs W wr) (fun i _ => s.size - (intOf i).toNat)
 case atStart => exact ⟨0, Nat.zero_le _, rfl, h0, KB.refl _ _⟩
 case round =>
  obtain ⟨j, hj, rfl, hJs, hnx⟩ := hrel
  have c0 : wr.cell? ⟨Bs, 0, none⟩ = some (.string s) := cCc (hnx _ hBs) 0
  by_cases hlt : j < s.size / 8
  ·have hx := eightL_at s j hlt
   have hle : 8 * j + 8 ≤ s.size := by omega
   obtain ⟨fn, tmps, assign, body, hy, hR⟩ := hY _ (chunkN s j, false) _ hJs (by rw [List.length_take, HO.out]; omega)
   have HX := Lib.hid hx
   have e8 : (s.extract (8 * j) (8 * j + 8)).size = 8 := by simp; omega
   have HC := number_sip (s.extract (8 * j) (8 * j + 8)) wr (by omega)
   rw [e8] at HC
   have hge : (8 : Int) ≤ (s.size : Int) - 8 * (j : Int) := by omega
   have HK : Hid (∀ W3, KB Bs wr W3 → KB Bs W W3) := fun W3 h => hnx.trans h
   have HP : Hid ((eightL s).take j ++ [(chunkN s j, false)] <+: eightL s) := by rw [Hid, ← take_snoc' HX.out]; exact List.take_prefix _ _
   unfold chunkN at hy
   dsimp only at hy
   obtain ⟨t, ht⟩ : ∃ t, s.extract (8 * j) (8 * j + 8) = t := ⟨_, rfl⟩
   rw [ht] at HC hy
   clear hx e8
   gi_wp2_with fail
   refine ⟨trivial, (callsIn_wide.2 HC).mono ?_⟩
   rintro e w5 ⟨rfl, rfl⟩
   gi_wp2_with fail
   refine hR.mono ?_
   rintro e W3 (⟨rfl, hJ3, hk3⟩ | ⟨rfl, hJx3⟩)
   ·gi_wp2_with fail
    go_roundw
    case rel => exact ⟨j + 1, by omega, by go_num, by rw [take_snoc' HX.out]; exact hJ3, HK.out _ hk3⟩
    case measure => simp [intOf]; omega
   ·gi_wp2_with fail
    refine bodyPost_ret (results_none rfl _ _ _) rfl ?_
    exact ⟨⟨_, rfl⟩, .inr ⟨_, HP.out, hJx3⟩⟩
  ·obtain rfl : j = s.size / 8 := by omega
   have hx := eightL_end s
   obtain ⟨fn, tmps, assign, body, hy, hR⟩ := hY _ (lastN8 s, true) _ (hJ _ _ _ none hJs (show wr.grownBy wr.drew none from ⟨rfl, rfl, rfl, Nat.le_refl _, fun _ _ _ => rfl⟩) (fun r e => by cases e)) (by rw [List.length_take, HO.out]; omega)
   have HC := Lib.hid (fun W => number_sip (s.extract (8 * (s.size / 8)) s.size) W (by simp; omega))
   have HT : Hid ((eightL s).take (s.size / 8) ++ [(lastN8 s, true)] = eightL s) := by rw [Hid, ← take_snoc' hx, List.take_of_length_le (by rw [HO.out]; exact Nat.le_refl _)]
   rw [HT.out] at hR
   have finT : Hid (∀ W3, J (eightL s) W3 → (∃ v, Ending.returned (Value.tuple #[]) = Ending.returned v) ∧ ((∃ ys, ys = eightL s ∧ J ys W3) ∨ ∃ pre, pre <+: eightL s ∧ Jx pre W3)) := fun W3 h => ⟨⟨_, rfl⟩, .inl ⟨_, rfl, h⟩⟩
   have finF : Hid (∀ W3, Jx (eightL s) W3 → (∃ v, Ending.returned (Value.tuple #[]) = Ending.returned v) ∧ ((∃ ys, ys = eightL s ∧ J ys W3) ∨ ∃ pre, pre <+: eightL s ∧ Jx pre W3)) := fun W3 h => ⟨⟨_, rfl⟩, .inr ⟨_, List.prefix_refl _, h⟩⟩
   unfold lastN8 at hy
   dsimp only at hy
   obtain ⟨t, ht⟩ : ∃ t, s.extract (8 * (s.size / 8)) s.size = t := ⟨_, rfl⟩
   rw [ht] at HC hy
   obtain ⟨q, hq⟩ : ∃ q, s.size / 8 = q := ⟨_, rfl⟩
   have h1 : 8 * q ≤ s.size := by omega
   have hge : ¬ (8 : Int) ≤ (s.size : Int) - 8 * (q : Int) := by omega
   have hz1 : (0 : Int) ≤ 8 * (q : Int) := by omega
   have hz2 : 8 * (q : Int) ≤ (s.size : Int) := by omega
   have hz3 : (8 * (q : Int)).toNat = 8 * q := by omega
   rw [hq] at ht ⊢
   clear hx hJs HT hlt hj hq
   obtain ⟨n, hn⟩ : ∃ n, numK t t.size = n := ⟨_, rfl⟩
   rw [hn] at HC hy
   clear hn
   gi_wp2_with fail
   refine wpIn_region_any (by kernel_rfl) ?_
   change wpAnyIn _ _ _ _ _ _ _ _ _ (World.drew _)
   refine wpAnyIn_take (i := 0) (v := ?_) rfl rfl (by kernel_rfl) (by kernel_rfl) (by kernel_rfl) (fun _ _ _ h => h) ⟨Or.inl ⟨by rfl, ?_⟩, fun _ => rfl⟩ ?_
   rotate_left
   ·intro w; go_simp; with_reducible rfl
   refine wpAnyIn_take (i := 2) (v := ?_) rfl rfl (by kernel_rfl) (by kernel_rfl) (by kernel_rfl) (fun _ _ _ h => h) ⟨Or.inl ⟨by rfl, ?_⟩, fun _ => rfl⟩ ?_
   rotate_left
   ·intro w; go_simp; with_reducible rfl
   refine wpAnyIn_ready (rs := [1, 5]) (by kernel_rfl) (by simp) ?_
   refine AllReadyIn.cons rfl (fun K hK => ?_) ?_
   ·go_simp
    refine hK _ _ ?_
    clear hK K
    refine wpAnyIn_take (i := 3) (v := ?_) rfl rfl (by kernel_rfl) (by kernel_rfl) (by kernel_rfl) (fun _ _ _ h => h) ⟨Or.inl ⟨by rfl, ?_⟩, fun _ => rfl⟩ ?_
    rotate_left
    ·intro w; go_simp; with_reducible rfl
    refine wpAnyIn_ready (rs := [4, 5]) (by kernel_rfl) (by simp) ?_
    refine AllReadyIn.cons rfl (fun K hK => ?_) ?_
    ·go_simp
     refine ⟨trivial, (callsIn_wide.2 (HC.out _)).mono ?_⟩
     rintro e w5 ⟨rfl, rfl⟩
     refine hK _ _ ?_
     clear hK K
     refine wpAnyIn_ready (rs := [5]) (by kernel_rfl) (by simp) ?_
     refine AllReadyIn.cons rfl (fun K hK => ?_) ?_
     ·go_simp
      refine hK _ _ ?_
      clear hK K
      refine wpAnyIn_take (i := 6) (v := ?_) rfl rfl (by kernel_rfl) (by kernel_rfl) (by kernel_rfl) (fun _ _ _ h => h) ⟨Or.inl ⟨by rfl, ?_⟩, fun _ => rfl⟩ ?_
      rotate_left
      ·intro w; go_simp; with_reducible rfl
      refine wpAnyIn_take (i := 7) (v := ?_) rfl rfl (by kernel_rfl) (by kernel_rfl) (by kernel_rfl) (fun _ _ _ h => h) ⟨Or.inl ⟨by rfl, ?_⟩, fun _ => rfl⟩ ?_
      rotate_left
      ·intro w; go_simp; with_reducible rfl
      refine wpAnyIn_take (i := 8) (v := ?_) rfl rfl (by kernel_rfl) (by kernel_rfl) (by kernel_rfl) (fun _ _ _ h => h) ⟨Or.inl ⟨by rfl, ?_⟩, fun _ => rfl⟩ ?_
      rotate_left
      ·intro w; go_simp; with_reducible rfl
      refine wpAnyIn_take (i := 9) (v := ?_) rfl rfl (by kernel_rfl) (by kernel_rfl) (by kernel_rfl) (fun _ _ _ h => h) ⟨Or.inl ⟨by rfl, ?_⟩, fun _ => rfl⟩ ?_
      rotate_left
      ·intro w; go_simp; with_reducible rfl
      refine wpAnyIn_ready (rs := [10]) (by kernel_rfl) (by simp) ?_
      refine AllReadyIn.cons rfl (fun K hK => ?_) ?_
      ·go_simp
       refine hR.mono ?_
       rintro e W3 (⟨rfl, hJ3, hk3⟩ | ⟨rfl, hJx3⟩)
       ·refine hK _ _ ?_
        clear hK K
        refine wpAnyIn_done (by kernel_rfl) ?_ _
        gi_wp2
        go_end0
        exact finT.out W3 hJ3
       ·refine hK _ _ ?_
        clear hK K
        refine wpAnyIn_done (by kernel_rfl) ?_ _
        gi_wp2
        go_end0
        exact finF.out W3 hJx3
      exact AllReadyIn.nil
     exact AllReadyIn.nil
    refine AllReadyIn.cons rfl (fun K hK => ?_) ?_
    ·go_simp
     refine hK _ _ ?_
     clear hK K
     refine wpAnyIn_take (i := 6) (v := ?_) rfl rfl (by kernel_rfl) (by kernel_rfl) (by kernel_rfl) (fun _ _ _ h => h) ⟨Or.inl ⟨by rfl, ?_⟩, fun _ => rfl⟩ ?_
     rotate_left
     ·intro w; go_simp; with_reducible rfl
     refine wpAnyIn_take (i := 7) (v := ?_) rfl rfl (by kernel_rfl) (by kernel_rfl) (by kernel_rfl) (fun _ _ _ h => h) ⟨Or.inl ⟨by rfl, ?_⟩, fun _ => rfl⟩ ?_
     rotate_left
     ·intro w; go_simp; with_reducible rfl
     refine wpAnyIn_take (i := 8) (v := ?_) rfl rfl (by kernel_rfl) (by kernel_rfl) (by kernel_rfl) (fun _ _ _ h => h) ⟨Or.inl ⟨by rfl, ?_⟩, fun _ => rfl⟩ ?_
     rotate_left
     ·intro w; go_simp; with_reducible rfl
     refine wpAnyIn_ready (rs := [4]) (by kernel_rfl) (by simp) ?_
     refine AllReadyIn.cons rfl (fun K hK => ?_) ?_
     ·go_simp
      refine ⟨trivial, (callsIn_wide.2 (HC.out _)).mono ?_⟩
      rintro e w5 ⟨rfl, rfl⟩
      refine hK _ _ ?_
      clear hK K
      refine wpAnyIn_take (i := 9) (v := ?_) rfl rfl (by kernel_rfl) (by kernel_rfl) (by kernel_rfl) (fun _ _ _ h => h) ⟨Or.inl ⟨by rfl, ?_⟩, fun _ => rfl⟩ ?_
      rotate_left
      ·intro w; go_simp; with_reducible rfl
      refine wpAnyIn_ready (rs := [10]) (by kernel_rfl) (by simp) ?_
      refine AllReadyIn.cons rfl (fun K hK => ?_) ?_
      ·go_simp
       refine hR.mono ?_
       rintro e W3 (⟨rfl, hJ3, hk3⟩ | ⟨rfl, hJx3⟩)
       ·refine hK _ _ ?_
        clear hK K
        refine wpAnyIn_done (by kernel_rfl) ?_ _
        gi_wp2
        go_end0
        exact finT.out W3 hJ3
       ·refine hK _ _ ?_
        clear hK K
        refine wpAnyIn_done (by kernel_rfl) ?_ _
        gi_wp2
        go_end0
        exact finF.out W3 hJx3
      exact AllReadyIn.nil
     exact AllReadyIn.nil
    exact AllReadyIn.nil
   refine AllReadyIn.cons rfl (fun K hK => ?_) ?_
   ·go_simp
    refine hK _ _ ?_
    clear hK K
    refine wpAnyIn_take (i := 6) (v := ?_) rfl rfl (by kernel_rfl) (by kernel_rfl) (by kernel_rfl) (fun _ _ _ h => h) ⟨Or.inl ⟨by rfl, ?_⟩, fun _ => rfl⟩ ?_
    rotate_left
    ·intro w; go_simp; with_reducible rfl
    refine wpAnyIn_take (i := 7) (v := ?_) rfl rfl (by kernel_rfl) (by kernel_rfl) (by kernel_rfl) (fun _ _ _ h => h) ⟨Or.inl ⟨by rfl, ?_⟩, fun _ => rfl⟩ ?_
    rotate_left
    ·intro w; go_simp; with_reducible rfl
    refine wpAnyIn_take (i := 8) (v := ?_) rfl rfl (by kernel_rfl) (by kernel_rfl) (by kernel_rfl) (fun _ _ _ h => h) ⟨Or.inl ⟨by rfl, ?_⟩, fun _ => rfl⟩ ?_
    rotate_left
    ·intro w; go_simp; with_reducible rfl
    refine wpAnyIn_ready (rs := [1]) (by kernel_rfl) (by simp) ?_
    refine AllReadyIn.cons rfl (fun K hK => ?_) ?_
    ·go_simp
     refine hK _ _ ?_
     clear hK K
     refine wpAnyIn_take (i := 3) (v := ?_) rfl rfl (by kernel_rfl) (by kernel_rfl) (by kernel_rfl) (fun _ _ _ h => h) ⟨Or.inl ⟨by rfl, ?_⟩, fun _ => rfl⟩ ?_
     rotate_left
     ·intro w; go_simp; with_reducible rfl
     refine wpAnyIn_ready (rs := [4]) (by kernel_rfl) (by simp) ?_
     refine AllReadyIn.cons rfl (fun K hK => ?_) ?_
     ·go_simp
      refine ⟨trivial, (callsIn_wide.2 (HC.out _)).mono ?_⟩
      rintro e w5 ⟨rfl, rfl⟩
      refine hK _ _ ?_
      clear hK K
      refine wpAnyIn_take (i := 9) (v := ?_) rfl rfl (by kernel_rfl) (by kernel_rfl) (by kernel_rfl) (fun _ _ _ h => h) ⟨Or.inl ⟨by rfl, ?_⟩, fun _ => rfl⟩ ?_
      rotate_left
      ·intro w; go_simp; with_reducible rfl
      refine wpAnyIn_ready (rs := [10]) (by kernel_rfl) (by simp) ?_
      refine AllReadyIn.cons rfl (fun K hK => ?_) ?_
      ·go_simp
       refine hR.mono ?_
       rintro e W3 (⟨rfl, hJ3, hk3⟩ | ⟨rfl, hJx3⟩)
       ·refine hK _ _ ?_
        clear hK K
        refine wpAnyIn_done (by kernel_rfl) ?_ _
        gi_wp2
        go_end0
        exact finT.out W3 hJ3
       ·refine hK _ _ ?_
        clear hK K
        refine wpAnyIn_done (by kernel_rfl) ?_ _
        gi_wp2
        go_end0
        exact finF.out W3 hJx3
      exact AllReadyIn.nil
     exact AllReadyIn.nil
    exact AllReadyIn.nil
   exact AllReadyIn.nil
theorem eights_seq (Bs : Nat) (s : ByteArray) (hreach : s.size < 4294967281) (w : World) (hc : w.heap[Bs]? = some (.cells #[.string s] 9 (0, 0))) :
  SeqStopsK Fence.wide 8 Tryz.prog 166 #[.pointer (some ⟨Bs, 0, none⟩)] (fun x : Int × Bool => #[.int .u64 x.1, .bool x.2]) (KB Bs) (fun ys => ys = eightL s) (fun pre => pre <+: eightL s) (eightL s).length w := fun l J Jx W hW hJ _ hY h0 =>
 eights1 l Bs s hreach J Jx hY W hJ (known hW (Nat.le_refl _) hc) h0
end Go.Proofs.YtpklkhgnjbopnaaGreatDoor
namespace Go.Proofs.YtpklkhgnjbopnaaGreatDoor
open Go Go.RowKit Go.Shelf
attribute [local go_sem] Oper.semAt_some
def endV (v : V4) : V4 := rndN 4 { v with c := xorI v.c 255 }
def foldV (A B : Int) (l : List (Int × Bool)) : V4 := (l.map (·.1)).foldl takeV (beginV A B)
def sipS (A B : Int) (s : ByteArray) : Int := mixV (endV (foldV A B (eightL s)))
theorem foldV_snoc (A B : Int) (l : List (Int × Bool)) (x : Int × Bool) : foldV A B (l ++ [x]) = takeV (foldV A B l) x.1 := by unfold foldV; rw [List.map_append, List.foldl_append]; rfl
theorem foldl_takeV_ok : ∀ (l : List Int) (v : V4), v.Ok → (l.foldl takeV v).Ok
 | [], _, h => h
 | _ :: l, _, h => foldl_takeV_ok l _ (takeV_ok h)
theorem foldV_ok (A B : Int) (l : List (Int × Bool)) : (foldV A B l).Ok := foldl_takeV_ok _ _ (beginV_ok A B)
theorem OnlyB.keeps {b B : Nat} {W W' : World} {c : Array Value} {t : TypeId} {fz : Nat × Nat} (h : OnlyB b W W') (hb : W.heap[b]? = some (.cells c t fz)) : KeepsFrom B W W' :=
 ⟨h.below.size, fun k o _ hk ho => by
  refine (h.other k (Array.getElem?_eq_some_iff.1 hk).1 (fun e => ?_)).trans hk
  subst e
  rw [hb] at hk
  injection hk with hk
  subst hk
  cases ho⟩
theorem eightL_true {s : ByteArray} {pr : List (Int × Bool)} {x : Int × Bool} (h : pr ++ [x] <+: eightL s) (hx : x.2 = true) : pr ++ [x] = eightL s := by
 have h1 : (eightL s)[pr.length]? = some x := by
  obtain ⟨r, hr⟩ := h
  rw [← hr, List.append_assoc]; simp
 have h2 := (List.getElem?_eq_some_iff.1 h1).1
 rw [eightL_len] at h2
 by_cases h3 : pr.length < s.size / 8
 ·rw [eightL_at s _ h3] at h1
  injection h1 with h1
  rw [← h1] at hx
  cases hx
 ·exact h.eq_of_length (by rw [eightL_len, List.length_append]; simp; omega)
set_option maxRecDepth 100000 in
set_option maxHeartbeats 2000000 in
theorem sip_Sum_any (A B : Int) (s : ByteArray) (w : World) (hs : s.size < 4294967281) : CR 110 #[.agg #[.int .u64 A, .int .u64 B], .string s] w (.int .u64 (sipS A B s)) := by
 obtain ⟨Wa, hWa, hXa, hBa, hsa⟩ := boxes1 w #[.int .u64 A, .int .u64 B] 24
 obtain ⟨a0, a1⟩ := cl2 hXa
 obtain ⟨Wb, hWb, hXb, hBb, hsb⟩ := boxes1 Wa #[.int .u64 8317987319222330741, .int .u64 7237128888997146477, .int .u64 7816392313619706465, .int .u64 8387220255154660723] 22
 rw [hsa] at hXb hBb hsb
 have hG := begin_any A B (w.heap.size + 1) Wb hXb
 have hVo := beginV_ok A B
 have HF : Hid (beginV A B = foldV A B []) := rfl
 obtain ⟨v0, hv0⟩ : ∃ v, beginV A B = v := ⟨_, rfl⟩
 rw [hv0] at hG hVo HF
 clear hv0
 refine calls_marks Tryz.func110 rfl ?_
 simp only [Tryz.ntmps110, List.size_toArray, List.length_cons, List.length_nil, Nat.reduceAdd, Nat.reduceSub, Array.replicate_succ, Array.replicate_zero, List.push_toArray, List.append_toArray, List.nil_append, List.cons_append]
 go_wp2_with fail
 go_step3
 go_wp2_with fail
 refine hG.mono ?_
 rintro e w1 ⟨rfl, hb1⟩
 obtain ⟨W2, hW2, hX2, hB2, hs2⟩ := boxes1 w1 v0.vals 267
 have hBw1 : Below w.heap.size w w1 := (hBa.trans (hBb.mono (by omega))).trans (hb1.mono (by omega))
 have hz1 := hb1.size
 have hBw2 : Below w.heap.size w W2 := hBw1.trans (hB2.mono (by omega))
 unfold V4.vals at *
 clear hG hb1 hBb hBa hXb hXa a0 a1 hWa hWb
 go_wp2_with fail
 have hX2' := Lib.hid hX2
 apply wp_label
 go_wp2_with (go_at_call 137; refine (eights_any _ _).mono ?_; rintro e w2 ⟨rfl, rfl⟩)
 obtain ⟨W3, hW3, hX3, hB3, hs3⟩ := boxes1 W2 #[.string s] 9
 rw [hs2] at hX3 hB3 hs3
 rw [hW3]
 have hseq := eights_seq (w1.heap.size + 1) s hs W3 hX3
 have hX32 : W3.heap[w1.heap.size]? = some (.cells (foldV A B []).vals 267 (0, 0)) := by rw [← HF.out]; exact (hB3.block _ (by omega)).trans hX2
 have hBw : Below w.heap.size w W3 := hBw2.trans (hB3.mono (by omega))
 have hw1 : w.heap.size ≤ w1.heap.size := hBw1.size
 have HS := Lib.hid hs
 obtain ⟨b, hb⟩ : ∃ b, w1.heap.size = b := ⟨_, rfl⟩
 rw [hb] at hX3 hB3 hs3 hseq hX32 hw1 ⊢
 clear hX2 hX2' hB2 hs2 hBw1 hz1 hBw2 hW2 hW3 hX3 hB3 hsa hsb hb hs hVo
 refine wp_range_brk2 (b + 1) 6 7 (fun x : Int × Bool => .int .u64 x.1) (fun x : Int × Bool => .bool x.2) (gf := 166) (lb := #[.pointer (some ⟨b + 1, 0, none⟩)]) rfl (enters_of Tryz.func166 (by kernel_rfl) rfl)
  hseq (by omega) (Below.refl _ _) (fun _ => rfl)
  (fun pre W => W.heap[b]? = some (.cells (foldV A B pre).vals 267 (0, 0)) ∧ Below w.heap.size w W)
  (fun pre W => (∃ pr x, pre = pr ++ [x] ∧ x.2 = true) ∧ W.heap[b]? = some (.cells (foldV A B pre).vals 267 (0, 0)) ∧ Below w.heap.size w W)
  ((ownCells _ _ (fun pre => (foldV A B pre).vals) _).and (ownFrom_below (Nat.le_refl _) hBw.size))
  ((ownFrom_pure _ _).and ((ownCells _ _ (fun pre => (foldV A B pre).vals) _).and (ownFrom_below (Nat.le_refl _) hBw.size)))
  ⟨hX32, hBw⟩ ?assign ?body ?fin
 case assign =>
  rintro l pre x W K hI hK
  simp only [List.zip_toArray, List.zip_cons_cons, List.zip_nil_right, List.size_toArray, List.foldl_toArray', List.foldl_cons, List.foldl_nil, List.setIfInBounds_toArray, List.set_cons_succ, List.set_cons_zero] at hK ⊢
  gi_wp2
  exact hI
 case body =>
  rintro l pre x W ⟨hx1, hB⟩ hlt
  simp only [List.zip_toArray, List.zip_cons_cons, List.zip_nil_right, List.size_toArray, List.foldl_toArray', List.foldl_cons, List.foldl_nil, List.setIfInBounds_toArray, List.set_cons_succ, List.set_cons_zero]
  have hA : NumAt W b (foldV A B pre) := hx1
  have HT := Lib.hid (take_any b x.1 _ W hA (foldV_ok A B pre))
  have HN : Hid (takeV (foldV A B pre) x.1 = foldV A B (pre ++ [x])) := (foldV_snoc A B pre x).symm
  have HK : Hid (∀ W', OnlyB b W W' → KeepsFrom W3.heap.size W W' ∧ KB (b + 1) W W' ∧ Below w.heap.size w W') := fun W' h => ⟨h.keeps hx1, fun o ho => (h.other _ (Array.getElem?_eq_some_iff.1 ho).1 (by omega)).trans ho, hB.trans (h.below.mono hw1)⟩
  have hbW : b < W.heap.size := hA.lt
  clear hx1 hA
  cases hx : x.2 with
  | true =>
   have HX := Lib.hid hx
   clear hx
   gi_wp2_with fail
   refine ⟨trivial, (callsIn_wide.2 HT.out).mono ?_⟩
   rintro e w4 ⟨rfl, hA4, hO4⟩
   rw [HN.out] at hA4
   obtain ⟨k1, -, k3⟩ := HK.out _ hO4
   gi_wp2_with fail
   exact ⟨k1, rfl, ⟨pre, x, rfl, HX.out⟩, hA4, k3⟩
  | false =>
   clear hx
   gi_wp2_with fail
   refine ⟨trivial, (callsIn_wide.2 HT.out).mono ?_⟩
   rintro e w4 ⟨rfl, hA4, hO4⟩
   rw [HN.out] at hA4
   obtain ⟨k1, k2, k3⟩ := HK.out _ hO4
   gi_wp2_with fail
   exact ⟨k1, k2, hA4, k3⟩
 case fin =>
  intro D W hD hI hK
  have hI2 : W.heap[b]? = some (.cells (foldV A B (eightL s)).vals 267 (0, 0)) ∧ Below w.heap.size w W := by
   rcases hI with h | ⟨pre, hp, ⟨pr, x, rfl, hx⟩, h⟩
   ·exact h
   ·rw [eightL_true hp hx] at h
    exact h
  have hDs : b + 1 < D := by omega
  obtain ⟨hA, hB⟩ := hI2
  have hA : NumAt W b (foldV A B (eightL s)) := hA
  have ho := foldV_ok A B (eightL s)
  have HE : Hid (sipS A B s = mixV (rndN 4 { foldV A B (eightL s) with c := xorI (foldV A B (eightL s)).c 255 })) := rfl
  obtain ⟨u, hu⟩ : ∃ u, foldV A B (eightL s) = u := ⟨_, rfl⟩
  rw [hu] at hA ho HE
  clear hI hu hX32 hseq
  obtain ⟨V, hV, hAV, hOV⟩ := NumAt.set (i := 2) (x := .int .u64 (xorI u.c 255)) (u := { u with c := xorI u.c 255 }) hA rfl
  obtain ⟨c0, c1, c2, c3, -, -, f2, -⟩ := hA.cells
  have hKV : V.heap[D]? = some (.deferred (some [])) := (hOV.other _ (Array.getElem?_eq_some_iff.1 hK).1 (by omega)).trans hK
  have HR := Lib.hid (rounds_any b 4 { u with c := xorI u.c 255 } V hAV ⟨ho.1, ho.2.1, u64_bits (.inl rfl), ho.2.2.2⟩ (by decide))
  have HB := Lib.hid (hB.trans (hOV.below.mono hw1))
  obtain ⟨z, hz⟩ : ∃ z, rndN 4 { u with c := xorI u.c 255 } = z := ⟨_, rfl⟩
  rw [hz] at HR HE
  have hDV : D < V.heap.size := (Array.getElem?_eq_some_iff.1 hKV).1
  clear hz hA ho hAV hOV hB hK
  go_wp2_with (go_at_call 139; refine HR.out.mono ?_; rintro e w5 ⟨rfl, hA5, hO5⟩)
  have HM := Lib.hid (mixed_any b 4 z w5 hA5)
  have hK5 : w5.heap[D]? = some (.deferred (some [])) := (hO5.other _ hDV (by omega)).trans hKV
  have HB5 := Lib.hid (HB.out.trans (hO5.below.mono hw1))
  have hz5 := hO5.below.size
  clear hA5 hO5 hKV
  go_wp2_with (go_at_call 140; refine HM.out.mono ?_; rintro e w6 ⟨rfl, hb6⟩)
  rw [Exit.noGoto_ret]
  have hK6 := (hb6.block _ (by omega)).trans hK5
  refine marks_ret1 hK6 (results_tmp rfl _ _ _) ⟨by rw [HE.out]; rfl, ?_⟩
  exact bPutD (HB5.out.trans (hb6.mono HB5.out.size)) (by omega) hK6
end Go.Proofs.YtpklkhgnjbopnaaGreatDoor

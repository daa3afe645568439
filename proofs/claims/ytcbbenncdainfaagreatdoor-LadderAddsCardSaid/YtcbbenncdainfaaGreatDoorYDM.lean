/- The reference of layer 10: Add, at any sketch. Printed by gen_dm.py. -/
import Derived.Test.YtcbbenncdainfaaGreatDoorYDL
import Derived.Test.YtcbbenncdainfaaGreatDoorYDB
namespace Go.Proofs.YtcbbenncdainfaaGreatDoor
open Go Go.RowKit Go.Shelf
theorem ok_lims {k L : Nat} {B : Bd} (hB : B.Ok k L) : U64s (skOf k L B).e ∧ I64 (skOf k L B).cc ∧ Bins (skOf k L B).gl := by
 have h0 : I64 0 := by unfold I64; omega
 have he : U64s [] := fun _ h => by cases h
 have hg : Bins [] := fun _ h => by cases h
 cases B with
 | num l => exact ⟨hB.2.2.2.2, h0, hg⟩
 | reg b r => exact ⟨he, h0, hg⟩
 | cnt c l =>
  obtain ⟨-, h2, h3, -, -⟩ := hB
  refine ⟨he, ?_, hg⟩
  show I64 (c : Int)
  have : c ≤ 32 := by
   have := Nat.le_mul_of_pos_right c (Nat.two_pow_pos L)
   omega
  unfold I64
  omega
 | bkt f l =>
  obtain ⟨-, h2, h3, h4, h5, h6, h7⟩ := hB
  exact ⟨he, h0, (BkR.mk (by omega) h4 h5 h6 h7 : BkR f l).b⟩
theorem ref10_Right_ok {k L : Nat} {B : Bd} (hB : B.Ok k L) {x : Sk} (hx : x = skOf k L B) {s : SS} {w : World} (hA : s.At w.heap.size w x) :
  Calls Tryz.prog 20 #[.agg #[.int .i64 x.kind, .int .i64 x.level, .slice s.ea s.el s.ec, .int .i64 x.hb, .string x.hr, .int .i64 x.cr, .int .i64 x.cc, .slice s.ca s.cl s.cc, .int .i64 x.gf, .slice s.ga s.gl s.gc]] w fun e w' => e = .returned (.bool true) ∧ Below w.heap.size w w' := by
 subst hx
 obtain ⟨h1, h2, h3⟩ := ok_lims hB
 have := ref10_Right_any _ s w hA h1 h2 h3
 rw [skOf_ok hB] at this
 exact this
set_option maxRecDepth 100000 in
set_option maxHeartbeats 8000000 in
theorem ref10_Add_reg (L b : Nat) (r : List Nat) (h : Nat) (n : Int) (s : SS) (w : World) (hA : s.At w.heap.size w (skReg 1 L b (hlStr r) : Sk)) (hB : Bd.Ok 1 L (.reg b r)) (hh : h < 2 ^ 64) :
  Calls Tryz.prog 16 #[.agg #[.int .i64 1, .int .i64 L, .slice s.ea s.el s.ec, .int .i64 b, .string (hlStr r), .int .i64 0, .int .i64 0, .slice s.ca s.cl s.cc, .int .i64 0, .slice s.ga s.gl s.gc], .agg #[.int .u64 h, .int .u64 n]] w (SkP (skReg 1 L b (hlStr (hlAdd b r h)), 0) w) := by
 obtain ⟨-, hL1, hL4, hb8, hl, hr⟩ := id hB
 obtain ⟨sr, hsr⟩ : ∃ x, hlStr r = x := ⟨_, rfl⟩
 obtain ⟨out, hout⟩ : ∃ x, hlStr (hlAdd b r h) = x := ⟨_, rfl⟩
 rw [hout]
 rw [hsr] at hA ⊢
 obtain ⟨W0, hW0, hX0, hI0, hXr, hB0, hs0⟩ := boxes3 w #[.int .i64 1, .int .i64 L, .slice s.ea s.el s.ec, .int .i64 b, .string sr, .int .i64 0, .int .i64 0, .slice s.ca s.cl s.cc, .int .i64 0, .slice s.ga s.gl s.gc] 33 #[.int .u64 h, .int .u64 n] 45 #[.int .i64 0, .int .i64 0, .slice none 0 0, .int .i64 0, .string ⟨#[]⟩, .int .i64 0, .int .i64 0, .slice none 0 0, .int .i64 0, .slice none 0 0] 33
 have HX : Hid (∀ W, Below W0.heap.size W0 W → W.heap[w.heap.size]? = some (.cells #[.int .i64 1, .int .i64 L, .slice s.ea s.el s.ec, .int .i64 b, .string sr, .int .i64 0, .int .i64 0, .slice s.ca s.cl s.cc, .int .i64 0, .slice s.ga s.gl s.gc] 33 (0, 0)) ∧ W.heap[w.heap.size + 1]? = some (.cells #[.int .u64 h, .int .u64 n] 45 (0, 0)) ∧ W.heap[w.heap.size + 2]? = some (.cells #[.int .i64 0, .int .i64 0, .slice none 0 0, .int .i64 0, .string ⟨#[]⟩, .int .i64 0, .int .i64 0, .slice none 0 0, .int .i64 0, .slice none 0 0] 33 (0, 0))) := fun W hb => ⟨known hb (Nat.le_refl _) hX0, known hb (Nat.le_refl _) hI0, known hb (Nat.le_refl _) hXr⟩
 have hRt : Calls Tryz.prog 20 #[.agg #[.int .i64 1, .int .i64 L, .slice s.ea s.el s.ec, .int .i64 b, .string sr, .int .i64 0, .int .i64 0, .slice s.ca s.cl s.cc, .int .i64 0, .slice s.ga s.gl s.gc]] W0 fun e w' => e = .returned (.bool true) ∧ Below W0.heap.size W0 w' := by rw [← hsr] at hA ⊢; exact ref10_Right_ok (x := skReg 1 L b (hlStr r)) hB rfl (hA.go hB0)
 have HA0 := Lib.hid (hA.go hB0)
 have HO : Hid (∀ W, Calls Tryz.prog 49 #[.agg #[.int .i64 b, .string sr], .int .u64 h] W fun e w' => e = .returned (.tuple #[.agg #[.int .i64 b, .string out], .int .i64 0]) ∧ Below W.heap.size W w') := fun W => by rw [← hsr, ← hout]; exact ref07_Add_any b r h W (by omega) (by omega) hl hr hh
 have t0 : ((L : Int) == 0) = false := by rw [beq_eq_false_iff_ne]; omega
 clear hsr hout hB hl hr
 have HB0 := Lib.hid hB0
 have HS0 : Hid (W0.heap.size = w.heap.size + 3) := hs0
 obtain ⟨c0, c1, c2, c3, c4, c5, c6, c7, c8, c9⟩ := cl10 hX0
 clear hX0 hI0 hXr hB0 hA hs0
 go_enter Tryz.func16, Tryz.ntmps16
 go_wp2_with fail
 refine hRt.mono ?_
 rintro e w1 ⟨rfl, hb1⟩
 obtain ⟨hX1, hI1, hR1⟩ := HX.out w1 hb1
 obtain ⟨d0, d1, d2, d3, d4, d5, d6, d7, d8, d9⟩ := cl10 hX1
 obtain ⟨j0, j1⟩ := cl2 hI1
 have HB1 := Lib.hid hb1
 clear hRt c0 c1 c2 c3 c4 c5 c6 c7 c8 c9 hX1 hI1 hR1 hb1
 go_wp2_with fail
 refine (HO.out _).mono ?_
 rintro e w2 ⟨rfl, hb2⟩
 have hb12 := HB1.out.trans (hb2.mono HB1.out.size)
 obtain ⟨hX2, -, hR2⟩ := HX.out w2 hb12
 have hA2 := ((HA0.out.go HB1.out).go hb2)
 obtain ⟨m0, m1, m2, m3, m4, m5, m6, m7, m8, m9⟩ := cl10 hX2
 obtain ⟨g0, g1, g2, g3, g4, g5, g6, g7, g8, g9⟩ := cz10 hX2
 obtain ⟨V, hV⟩ : ∃ V, ((w2.setCell ⟨w.heap.size, 3, none⟩ (.int .i64 b)).setCell ⟨w.heap.size, 4, none⟩ (.string out)) = V := ⟨_, rfl⟩
 have hXV : V.heap[w.heap.size]? = some (.cells #[.int .i64 1, .int .i64 L, .slice s.ea s.el s.ec, .int .i64 b, .string out, .int .i64 0, .int .i64 0, .slice s.ca s.cl s.cc, .int .i64 0, .slice s.ga s.gl s.gc] 33 (0, 0)) := by rw [← hV]; exact hSk (hSk (hX2) _) _
 have hOV : OnlyAt w.heap.size w2 V := by rw [← hV]; exact ((OnlyAt.refl _ _).set _ _).set _ _
 have hBV : Below w.heap.size w V := by rw [← hV]; exact (((HB0.out.trans (hb12.mono HB0.out.size))).setCell (p := ⟨w.heap.size, 3, none⟩) (Nat.le_refl _) _).setCell (p := ⟨w.heap.size, 4, none⟩) (Nat.le_refl _) _
 have hRV : V.heap[w.heap.size + 2]? = some (.cells #[.int .i64 0, .int .i64 0, .slice none 0 0, .int .i64 0, .string ⟨#[]⟩, .int .i64 0, .int .i64 0, .slice none 0 0, .int .i64 0, .slice none 0 0] 33 (0, 0)) := (hOV.2 _ (by omega)).trans hR2
 have hAV : (s : SS).At V.heap.size V (skReg 1 L b out) := SS.At.apart (⟨hA2.e, hA2.c, hA2.g⟩ : s.At w2.heap.size w2 (skReg 1 L b out)) hX2 (noU10 _ _ _ _ _ _ _ _ _ _ _ _ _ _ _ _) hOV
 obtain ⟨o0, o1, o2, o3, o4, o5, o6, o7, o8, o9⟩ := cl10 hXV
 obtain ⟨r0, r1, r2, r3, r4, r5, r6, r7, r8, r9⟩ := cl10 hRV
 obtain ⟨q0, q1, q2, q3, q4, q5, q6, q7, q8, q9⟩ := cz10 hRV
 obtain ⟨U, hU, hXU, hOU, hBU⟩ := store10 (.int .i64 1) (.int .i64 L) (.slice s.ea s.el s.ec) (.int .i64 b) (.string out) (.int .i64 0) (.int .i64 0) (.slice s.ca s.cl s.cc) (.int .i64 0) (.slice s.ga s.gl s.gc) hRV
 obtain ⟨k0, k1, k2, k3, k4, k5, k6, k7, k8, k9⟩ := cl10 hXU
 have HBU : Hid (Below w.heap.size w U) := hBU _ _ hBV (by omega)
 have HAU : Hid ((s : SS).At U.heap.size U (skReg 1 L b out)) := hAV.apart hRV (noU10 _ _ _ _ _ _ _ _ _ _ _ _ _ _ _ _) hOU
 clear hX2 hR2 hXV hOV hBV hRV hAV hXU hOU hBU
 go_wp2_with fail
 exact bodyPost_ret (v := .tuple #[.agg #[.int .i64 1, .int .i64 L, .slice s.ea s.el s.ec, .int .i64 b, .string out, .int .i64 0, .int .i64 0, .slice s.ca s.cl s.cc, .int .i64 0, .slice s.ga s.gl s.gc], .int .i64 0]) (by simp [results, Tryz.f16, go_sem, k0, k1, k2, k3, k4, k5, k6, k7, k8, k9]) rfl ⟨s, rfl, HAU.out, HBU.out⟩
set_option maxRecDepth 100000 in
set_option maxHeartbeats 8000000 in
theorem ref10_Add_cnt (L c : Nat) (l : List Int) (h : Nat) (n : Int) (s : SS) (w : World) (hA : s.At w.heap.size w (skCnt 2 L 2 c l : Sk)) (hB : Bd.Ok 2 L (.cnt c l)) (hh : h < 2 ^ 64) (hn : U64 n) :
  Calls Tryz.prog 16 #[.agg #[.int .i64 2, .int .i64 L, .slice s.ea s.el s.ec, .int .i64 0, .string ⟨#[]⟩, .int .i64 2, .int .i64 c, .slice s.ca s.cl s.cc, .int .i64 0, .slice s.ga s.gl s.gc], .agg #[.int .u64 h, .int .u64 n]] w (SkP (skCnt 2 L 2 c (cmAdd c l h n), 0) w) := by
 obtain ⟨-, hL3, hc, hl, hu⟩ := id hB
 have hc4 : c = 4 ∨ c = 8 ∨ c = 16 ∨ c = 32 := by rcases (by omega : L = 0 ∨ L = 1 ∨ L = 2 ∨ L = 3) with rfl | rfl | rfl | rfl <;> omega
 obtain ⟨m, hm⟩ : ∃ m, cmAdd c l h n = m := ⟨_, rfl⟩
 obtain ⟨ml, hml⟩ : ∃ n, m.length = n := ⟨_, rfl⟩
 rw [hm]
 obtain ⟨W0, hW0, hX0, hI0, hXr, hB0, hs0⟩ := boxes3 w #[.int .i64 2, .int .i64 L, .slice s.ea s.el s.ec, .int .i64 0, .string ⟨#[]⟩, .int .i64 2, .int .i64 c, .slice s.ca s.cl s.cc, .int .i64 0, .slice s.ga s.gl s.gc] 33 #[.int .u64 h, .int .u64 n] 45 #[.int .i64 0, .int .i64 0, .slice none 0 0, .int .i64 0, .string ⟨#[]⟩, .int .i64 0, .int .i64 0, .slice none 0 0, .int .i64 0, .slice none 0 0] 33
 have HX : Hid (∀ W, Below W0.heap.size W0 W → W.heap[w.heap.size]? = some (.cells #[.int .i64 2, .int .i64 L, .slice s.ea s.el s.ec, .int .i64 0, .string ⟨#[]⟩, .int .i64 2, .int .i64 c, .slice s.ca s.cl s.cc, .int .i64 0, .slice s.ga s.gl s.gc] 33 (0, 0)) ∧ W.heap[w.heap.size + 1]? = some (.cells #[.int .u64 h, .int .u64 n] 45 (0, 0)) ∧ W.heap[w.heap.size + 2]? = some (.cells #[.int .i64 0, .int .i64 0, .slice none 0 0, .int .i64 0, .string ⟨#[]⟩, .int .i64 0, .int .i64 0, .slice none 0 0, .int .i64 0, .slice none 0 0] 33 (0, 0))) := fun W hb => ⟨known hb (Nat.le_refl _) hX0, known hb (Nat.le_refl _) hI0, known hb (Nat.le_refl _) hXr⟩
 have hRt : Calls Tryz.prog 20 #[.agg #[.int .i64 2, .int .i64 L, .slice s.ea s.el s.ec, .int .i64 0, .string ⟨#[]⟩, .int .i64 2, .int .i64 c, .slice s.ca s.cl s.cc, .int .i64 0, .slice s.ga s.gl s.gc]] W0 fun e w' => e = .returned (.bool true) ∧ Below W0.heap.size W0 w' := ref10_Right_ok (x := skCnt 2 L 2 c l) hB rfl (hA.go hB0)
 have HA0 := Lib.hid (hA.go hB0)
 have HO : Hid (∀ W, Below W0.heap.size W0 W → Calls Tryz.prog 50 #[.agg #[.int .i64 2, .int .i64 c, .slice s.ca s.cl s.cc], .int .u64 h, .int .u64 n] W fun e w' => ∃ a cap, e = .returned (.tuple #[.agg #[.int .i64 2, .int .i64 c, .slice a ml cap], .int .i64 0]) ∧ SlC encU 1 w'.heap.size w' a ml cap m ∧ Below W.heap.size W w') := fun W hb => by rw [← hml, ← hm]; exact ref08_Add_any c h n l _ _ _ W hc4 ((hA.go hB0).go hb).c hl hu hh hn
 clear hm hml hB hl hu hc hc4
 have HB0 := Lib.hid hB0
 have HS0 : Hid (W0.heap.size = w.heap.size + 3) := hs0
 obtain ⟨c0, c1, c2, c3, c4, c5, c6, c7, c8, c9⟩ := cl10 hX0
 clear hX0 hI0 hXr hB0 hA hs0
 go_enter Tryz.func16, Tryz.ntmps16
 go_wp2_with fail
 refine hRt.mono ?_
 rintro e w1 ⟨rfl, hb1⟩
 obtain ⟨hX1, hI1, hR1⟩ := HX.out w1 hb1
 obtain ⟨d0, d1, d2, d3, d4, d5, d6, d7, d8, d9⟩ := cl10 hX1
 obtain ⟨j0, j1⟩ := cl2 hI1
 have HB1 := Lib.hid hb1
 clear hRt c0 c1 c2 c3 c4 c5 c6 c7 c8 c9 hX1 hI1 hR1 hb1
 go_wp2_with fail
 refine (HO.out w1 HB1.out).mono ?_
 rintro e w2 ⟨qa, qc, rfl, hS2, hb2⟩
 have hb12 := HB1.out.trans (hb2.mono HB1.out.size)
 obtain ⟨hX2, -, hR2⟩ := HX.out w2 hb12
 have hA2 := ((HA0.out.go HB1.out).go hb2)
 obtain ⟨m0, m1, m2, m3, m4, m5, m6, m7, m8, m9⟩ := cl10 hX2
 obtain ⟨g0, g1, g2, g3, g4, g5, g6, g7, g8, g9⟩ := cz10 hX2
 obtain ⟨V, hV⟩ : ∃ V, (((w2.setCell ⟨w.heap.size, 5, none⟩ (.int .i64 2)).setCell ⟨w.heap.size, 6, none⟩ (.int .i64 c)).setCell ⟨w.heap.size, 7, none⟩ (.slice qa ml qc)) = V := ⟨_, rfl⟩
 have hXV : V.heap[w.heap.size]? = some (.cells #[.int .i64 2, .int .i64 L, .slice s.ea s.el s.ec, .int .i64 0, .string ⟨#[]⟩, .int .i64 2, .int .i64 c, .slice qa ml qc, .int .i64 0, .slice s.ga s.gl s.gc] 33 (0, 0)) := by rw [← hV]; exact hSk (hSk (hSk (hX2) _) _) _
 have hOV : OnlyAt w.heap.size w2 V := by rw [← hV]; exact (((OnlyAt.refl _ _).set _ _).set _ _).set _ _
 have hBV : Below w.heap.size w V := by rw [← hV]; exact ((((HB0.out.trans (hb12.mono HB0.out.size))).setCell (p := ⟨w.heap.size, 5, none⟩) (Nat.le_refl _) _).setCell (p := ⟨w.heap.size, 6, none⟩) (Nat.le_refl _) _).setCell (p := ⟨w.heap.size, 7, none⟩) (Nat.le_refl _) _
 have hRV : V.heap[w.heap.size + 2]? = some (.cells #[.int .i64 0, .int .i64 0, .slice none 0 0, .int .i64 0, .string ⟨#[]⟩, .int .i64 0, .int .i64 0, .slice none 0 0, .int .i64 0, .slice none 0 0] 33 (0, 0)) := (hOV.2 _ (by omega)).trans hR2
 have hAV : (⟨s.ea, s.el, s.ec, qa, ml, qc, s.ga, s.gl, s.gc⟩ : SS).At V.heap.size V (skCnt 2 L 2 c m) := SS.At.apart (⟨hA2.e, hS2, hA2.g⟩ : SS.At ⟨s.ea, s.el, s.ec, qa, ml, qc, s.ga, s.gl, s.gc⟩ w2.heap.size w2 (skCnt 2 L 2 c m)) hX2 (noU10 _ _ _ _ _ _ _ _ _ _ _ _ _ _ _ _) hOV
 obtain ⟨o0, o1, o2, o3, o4, o5, o6, o7, o8, o9⟩ := cl10 hXV
 obtain ⟨r0, r1, r2, r3, r4, r5, r6, r7, r8, r9⟩ := cl10 hRV
 obtain ⟨q0, q1, q2, q3, q4, q5, q6, q7, q8, q9⟩ := cz10 hRV
 obtain ⟨U, hU, hXU, hOU, hBU⟩ := store10 (.int .i64 2) (.int .i64 L) (.slice s.ea s.el s.ec) (.int .i64 0) (.string ⟨#[]⟩) (.int .i64 2) (.int .i64 c) (.slice qa ml qc) (.int .i64 0) (.slice s.ga s.gl s.gc) hRV
 obtain ⟨k0, k1, k2, k3, k4, k5, k6, k7, k8, k9⟩ := cl10 hXU
 have HBU : Hid (Below w.heap.size w U) := hBU _ _ hBV (by omega)
 have HAU : Hid ((⟨s.ea, s.el, s.ec, qa, ml, qc, s.ga, s.gl, s.gc⟩ : SS).At U.heap.size U (skCnt 2 L 2 c m)) := hAV.apart hRV (noU10 _ _ _ _ _ _ _ _ _ _ _ _ _ _ _ _) hOU
 clear hX2 hR2 hXV hOV hBV hRV hAV hXU hOU hBU
 go_wp2_with fail
 exact bodyPost_ret (v := .tuple #[.agg #[.int .i64 2, .int .i64 L, .slice s.ea s.el s.ec, .int .i64 0, .string ⟨#[]⟩, .int .i64 2, .int .i64 c, .slice qa ml qc, .int .i64 0, .slice s.ga s.gl s.gc], .int .i64 0]) (by simp [results, Tryz.f16, go_sem, k0, k1, k2, k3, k4, k5, k6, k7, k8, k9]) rfl ⟨⟨s.ea, s.el, s.ec, qa, ml, qc, s.ga, s.gl, s.gc⟩, rfl, HAU.out, HBU.out⟩
set_option maxRecDepth 100000 in
set_option maxHeartbeats 8000000 in
theorem ref10_Add_bkt (L f : Nat) (l : List (Int × Int)) (h : Nat) (n : Int) (s : SS) (w : World) (hA : s.At w.heap.size w (skBkt 3 L f l : Sk)) (hB : Bd.Ok 3 L (.bkt f l)) (hh : h < 2 ^ 64) (hn : U64 n) :
  Calls Tryz.prog 16 #[.agg #[.int .i64 3, .int .i64 L, .slice s.ea s.el s.ec, .int .i64 0, .string ⟨#[]⟩, .int .i64 0, .int .i64 0, .slice s.ca s.cl s.cc, .int .i64 f, .slice s.ga s.gl s.gc], .agg #[.int .u64 h, .int .u64 n]] w (SkP (skBkt 3 L f (hiAdd f l h n), 0) w) := by
 obtain ⟨-, hL3, hf, h4, h5, h6, h7⟩ := id hB
 have hk : BkR f l := ⟨by omega, h4, h5, h6, h7⟩
 obtain ⟨m, hm⟩ : ∃ m, hiAdd f l h n = m := ⟨_, rfl⟩
 obtain ⟨ml, hml⟩ : ∃ n, m.length = n := ⟨_, rfl⟩
 rw [hm]
 obtain ⟨W0, hW0, hX0, hI0, hXr, hB0, hs0⟩ := boxes3 w #[.int .i64 3, .int .i64 L, .slice s.ea s.el s.ec, .int .i64 0, .string ⟨#[]⟩, .int .i64 0, .int .i64 0, .slice s.ca s.cl s.cc, .int .i64 f, .slice s.ga s.gl s.gc] 33 #[.int .u64 h, .int .u64 n] 45 #[.int .i64 0, .int .i64 0, .slice none 0 0, .int .i64 0, .string ⟨#[]⟩, .int .i64 0, .int .i64 0, .slice none 0 0, .int .i64 0, .slice none 0 0] 33
 have HX : Hid (∀ W, Below W0.heap.size W0 W → W.heap[w.heap.size]? = some (.cells #[.int .i64 3, .int .i64 L, .slice s.ea s.el s.ec, .int .i64 0, .string ⟨#[]⟩, .int .i64 0, .int .i64 0, .slice s.ca s.cl s.cc, .int .i64 f, .slice s.ga s.gl s.gc] 33 (0, 0)) ∧ W.heap[w.heap.size + 1]? = some (.cells #[.int .u64 h, .int .u64 n] 45 (0, 0)) ∧ W.heap[w.heap.size + 2]? = some (.cells #[.int .i64 0, .int .i64 0, .slice none 0 0, .int .i64 0, .string ⟨#[]⟩, .int .i64 0, .int .i64 0, .slice none 0 0, .int .i64 0, .slice none 0 0] 33 (0, 0))) := fun W hb => ⟨known hb (Nat.le_refl _) hX0, known hb (Nat.le_refl _) hI0, known hb (Nat.le_refl _) hXr⟩
 have hRt : Calls Tryz.prog 20 #[.agg #[.int .i64 3, .int .i64 L, .slice s.ea s.el s.ec, .int .i64 0, .string ⟨#[]⟩, .int .i64 0, .int .i64 0, .slice s.ca s.cl s.cc, .int .i64 f, .slice s.ga s.gl s.gc]] W0 fun e w' => e = .returned (.bool true) ∧ Below W0.heap.size W0 w' := ref10_Right_ok (x := skBkt 3 L f l) hB rfl (hA.go hB0)
 have HA0 := Lib.hid (hA.go hB0)
 have HO : Hid (∀ W, Below W0.heap.size W0 W → Calls Tryz.prog 51 #[.agg #[.int .i64 f, .slice s.ga s.gl s.gc], .int .u64 h, .int .u64 n] W fun e w' => ∃ a cap, e = .returned (.tuple #[.agg #[.int .i64 f, .slice a ml cap], .int .i64 0]) ∧ SlC encB 2 w'.heap.size w' a ml cap m ∧ Below W.heap.size W w') := fun W hb => by rw [← hml, ← hm]; exact ref09_Add_any f l h n _ _ _ W hk ((hA.go hB0).go hb).g hh hn
 clear hm hml hB h4 h5 h6 h7 hf hk
 have HB0 := Lib.hid hB0
 have HS0 : Hid (W0.heap.size = w.heap.size + 3) := hs0
 obtain ⟨c0, c1, c2, c3, c4, c5, c6, c7, c8, c9⟩ := cl10 hX0
 clear hX0 hI0 hXr hB0 hA hs0
 go_enter Tryz.func16, Tryz.ntmps16
 go_wp2_with fail
 refine hRt.mono ?_
 rintro e w1 ⟨rfl, hb1⟩
 obtain ⟨hX1, hI1, hR1⟩ := HX.out w1 hb1
 obtain ⟨d0, d1, d2, d3, d4, d5, d6, d7, d8, d9⟩ := cl10 hX1
 obtain ⟨j0, j1⟩ := cl2 hI1
 have HB1 := Lib.hid hb1
 clear hRt c0 c1 c2 c3 c4 c5 c6 c7 c8 c9 hX1 hI1 hR1 hb1
 go_wp2_with fail
 refine (HO.out w1 HB1.out).mono ?_
 rintro e w2 ⟨qa, qc, rfl, hS2, hb2⟩
 have hb12 := HB1.out.trans (hb2.mono HB1.out.size)
 obtain ⟨hX2, -, hR2⟩ := HX.out w2 hb12
 have hA2 := ((HA0.out.go HB1.out).go hb2)
 obtain ⟨m0, m1, m2, m3, m4, m5, m6, m7, m8, m9⟩ := cl10 hX2
 obtain ⟨g0, g1, g2, g3, g4, g5, g6, g7, g8, g9⟩ := cz10 hX2
 obtain ⟨V, hV⟩ : ∃ V, ((w2.setCell ⟨w.heap.size, 8, none⟩ (.int .i64 f)).setCell ⟨w.heap.size, 9, none⟩ (.slice qa ml qc)) = V := ⟨_, rfl⟩
 have hXV : V.heap[w.heap.size]? = some (.cells #[.int .i64 3, .int .i64 L, .slice s.ea s.el s.ec, .int .i64 0, .string ⟨#[]⟩, .int .i64 0, .int .i64 0, .slice s.ca s.cl s.cc, .int .i64 f, .slice qa ml qc] 33 (0, 0)) := by rw [← hV]; exact hSk (hSk (hX2) _) _
 have hOV : OnlyAt w.heap.size w2 V := by rw [← hV]; exact ((OnlyAt.refl _ _).set _ _).set _ _
 have hBV : Below w.heap.size w V := by rw [← hV]; exact (((HB0.out.trans (hb12.mono HB0.out.size))).setCell (p := ⟨w.heap.size, 8, none⟩) (Nat.le_refl _) _).setCell (p := ⟨w.heap.size, 9, none⟩) (Nat.le_refl _) _
 have hRV : V.heap[w.heap.size + 2]? = some (.cells #[.int .i64 0, .int .i64 0, .slice none 0 0, .int .i64 0, .string ⟨#[]⟩, .int .i64 0, .int .i64 0, .slice none 0 0, .int .i64 0, .slice none 0 0] 33 (0, 0)) := (hOV.2 _ (by omega)).trans hR2
 have hAV : (⟨s.ea, s.el, s.ec, s.ca, s.cl, s.cc, qa, ml, qc⟩ : SS).At V.heap.size V (skBkt 3 L f m) := SS.At.apart (⟨hA2.e, hA2.c, hS2⟩ : SS.At ⟨s.ea, s.el, s.ec, s.ca, s.cl, s.cc, qa, ml, qc⟩ w2.heap.size w2 (skBkt 3 L f m)) hX2 (noU10 _ _ _ _ _ _ _ _ _ _ _ _ _ _ _ _) hOV
 obtain ⟨o0, o1, o2, o3, o4, o5, o6, o7, o8, o9⟩ := cl10 hXV
 obtain ⟨r0, r1, r2, r3, r4, r5, r6, r7, r8, r9⟩ := cl10 hRV
 obtain ⟨q0, q1, q2, q3, q4, q5, q6, q7, q8, q9⟩ := cz10 hRV
 obtain ⟨U, hU, hXU, hOU, hBU⟩ := store10 (.int .i64 3) (.int .i64 L) (.slice s.ea s.el s.ec) (.int .i64 0) (.string ⟨#[]⟩) (.int .i64 0) (.int .i64 0) (.slice s.ca s.cl s.cc) (.int .i64 f) (.slice qa ml qc) hRV
 obtain ⟨k0, k1, k2, k3, k4, k5, k6, k7, k8, k9⟩ := cl10 hXU
 have HBU : Hid (Below w.heap.size w U) := hBU _ _ hBV (by omega)
 have HAU : Hid ((⟨s.ea, s.el, s.ec, s.ca, s.cl, s.cc, qa, ml, qc⟩ : SS).At U.heap.size U (skBkt 3 L f m)) := hAV.apart hRV (noU10 _ _ _ _ _ _ _ _ _ _ _ _ _ _ _ _) hOU
 clear hX2 hR2 hXV hOV hBV hRV hAV hXU hOU hBU
 go_wp2_with fail
 exact bodyPost_ret (v := .tuple #[.agg #[.int .i64 3, .int .i64 L, .slice s.ea s.el s.ec, .int .i64 0, .string ⟨#[]⟩, .int .i64 0, .int .i64 0, .slice s.ca s.cl s.cc, .int .i64 f, .slice qa ml qc], .int .i64 0]) (by simp [results, Tryz.f16, go_sem, k0, k1, k2, k3, k4, k5, k6, k7, k8, k9]) rfl ⟨⟨s.ea, s.el, s.ec, s.ca, s.cl, s.cc, qa, ml, qc⟩, rfl, HAU.out, HBU.out⟩
set_option maxRecDepth 100000 in
set_option maxHeartbeats 8000000 in
theorem ref10_Add_num (l : List Int) (q : List Int) (h : Nat) (n : Int) (s : SS) (w : World) (hA : s.At w.heap.size w (skNum 1 0 l : Sk)) (hB : Bd.Ok 1 0 (.num l)) (hq : exGather l [(h : Int)] = some q) :
  Calls Tryz.prog 16 #[.agg #[.int .i64 1, .int .i64 0, .slice s.ea s.el s.ec, .int .i64 0, .string ⟨#[]⟩, .int .i64 0, .int .i64 0, .slice s.ca s.cl s.cc, .int .i64 0, .slice s.ga s.gl s.gc], .agg #[.int .u64 h, .int .u64 n]] w (SkP (skNum 1 0 q, 0) w) := by
 obtain ⟨-, -, hu1, hu2, hu⟩ := id hB
 have hR : exRight l = true := up_right l hu1 hu2
 obtain ⟨W0, hW0, hX0, hI0, hXr, hB0, hs0⟩ := boxes3 w #[.int .i64 1, .int .i64 0, .slice s.ea s.el s.ec, .int .i64 0, .string ⟨#[]⟩, .int .i64 0, .int .i64 0, .slice s.ca s.cl s.cc, .int .i64 0, .slice s.ga s.gl s.gc] 33 #[.int .u64 h, .int .u64 n] 45 #[.int .i64 0, .int .i64 0, .slice none 0 0, .int .i64 0, .string ⟨#[]⟩, .int .i64 0, .int .i64 0, .slice none 0 0, .int .i64 0, .slice none 0 0] 33
 have HX : Hid (∀ W, Below W0.heap.size W0 W → W.heap[w.heap.size]? = some (.cells #[.int .i64 1, .int .i64 0, .slice s.ea s.el s.ec, .int .i64 0, .string ⟨#[]⟩, .int .i64 0, .int .i64 0, .slice s.ca s.cl s.cc, .int .i64 0, .slice s.ga s.gl s.gc] 33 (0, 0)) ∧ W.heap[w.heap.size + 1]? = some (.cells #[.int .u64 h, .int .u64 n] 45 (0, 0)) ∧ W.heap[w.heap.size + 2]? = some (.cells #[.int .i64 0, .int .i64 0, .slice none 0 0, .int .i64 0, .string ⟨#[]⟩, .int .i64 0, .int .i64 0, .slice none 0 0, .int .i64 0, .slice none 0 0] 33 (0, 0))) := fun W hb => ⟨known hb (Nat.le_refl _) hX0, known hb (Nat.le_refl _) hI0, known hb (Nat.le_refl _) hXr⟩
 have hRt : Calls Tryz.prog 20 #[.agg #[.int .i64 1, .int .i64 0, .slice s.ea s.el s.ec, .int .i64 0, .string ⟨#[]⟩, .int .i64 0, .int .i64 0, .slice s.ca s.cl s.cc, .int .i64 0, .slice s.ga s.gl s.gc]] W0 fun e w' => e = .returned (.bool true) ∧ Below W0.heap.size W0 w' := ref10_Right_ok (x := skNum 1 0 l) hB rfl (hA.go hB0)
 have HA0 := Lib.hid (hA.go hB0)
 have HO : Hid (∀ W, Below W0.heap.size W0 W → Calls Tryz.prog 48 #[.agg #[.slice s.ea s.el s.ec], .int .u64 h] W (GatherPost06 (exGather l [(h : Int)]) W)) := fun W hb => ref06_Add_any (h : Int) l _ _ _ W ((hA.go hB0).go hb).e hR hu
 clear hB hu1 hu2 hu hR
 have HB0 := Lib.hid hB0
 have HS0 : Hid (W0.heap.size = w.heap.size + 3) := hs0
 obtain ⟨c0, c1, c2, c3, c4, c5, c6, c7, c8, c9⟩ := cl10 hX0
 clear hX0 hI0 hXr hB0 hA hs0
 go_enter Tryz.func16, Tryz.ntmps16
 go_wp2_with fail
 refine hRt.mono ?_
 rintro e w1 ⟨rfl, hb1⟩
 obtain ⟨hX1, hI1, hR1⟩ := HX.out w1 hb1
 obtain ⟨d0, d1, d2, d3, d4, d5, d6, d7, d8, d9⟩ := cl10 hX1
 obtain ⟨j0, j1⟩ := cl2 hI1
 have HB1 := Lib.hid hb1
 clear hRt c0 c1 c2 c3 c4 c5 c6 c7 c8 c9 hX1 hI1 hR1 hb1
 rw [hq] at HO
 obtain ⟨ql, hql⟩ : ∃ n, q.length = n := ⟨_, rfl⟩
 obtain ⟨W2, hW2, hXw, hB2, hs2⟩ := boxes1 w1 #[.int .i64 1, .int .i64 0, .slice s.ea s.el s.ec, .int .i64 0, .string ⟨#[]⟩, .int .i64 0, .int .i64 0, .slice s.ca s.cl s.cc, .int .i64 0, .slice s.ga s.gl s.gc] 33
 have hz1 := HB1.out.size
 have hwb : w.heap.size + 3 ≤ w1.heap.size := by have := HS0.out; omega
 have hb02 := HB1.out.trans (hB2.mono hz1)
 obtain ⟨hX2', hI2, hR2'⟩ := HX.out W2 hb02
 obtain ⟨u0, u1, u2, u3, u4, u5, u6, u7, u8, u9⟩ := cl10 hXw
 obtain ⟨v0, v1, v2, v3, v4, v5, v6, v7, v8, v9⟩ := cz10 hXw
 have e1 : W2.setCell ⟨w1.heap.size, 1, none⟩ (.int .i64 0) = W2 := set_same hXw rfl
 have e2 : W2.setCell ⟨w1.heap.size, 2, none⟩ (.slice s.ea s.el s.ec) = W2 := set_same hXw rfl
 have e3 : W2.setCell ⟨w1.heap.size, 3, none⟩ (.int .i64 0) = W2 := set_same hXw rfl
 have e4 : W2.setCell ⟨w1.heap.size, 4, none⟩ (.string ⟨#[]⟩) = W2 := set_same hXw rfl
 have e5 : W2.setCell ⟨w1.heap.size, 5, none⟩ (.int .i64 0) = W2 := set_same hXw rfl
 have e6 : W2.setCell ⟨w1.heap.size, 6, none⟩ (.int .i64 0) = W2 := set_same hXw rfl
 have e7 : W2.setCell ⟨w1.heap.size, 7, none⟩ (.slice s.ca s.cl s.cc) = W2 := set_same hXw rfl
 have e8 : W2.setCell ⟨w1.heap.size, 8, none⟩ (.int .i64 0) = W2 := set_same hXw rfl
 have e9 : W2.setCell ⟨w1.heap.size, 9, none⟩ (.slice s.ga s.gl s.gc) = W2 := set_same hXw rfl
 obtain ⟨x0, x1, x2, x3, x4, x5, x6, x7, x8, x9⟩ := cl10 hX2'
 have i0 : W2.cell? ⟨w.heap.size + 1, 0, none⟩ = some (.int .u64 h) := cCc hI2 0
 have HXw := Lib.hid hXw
 have HB2 := Lib.hid hb02
 clear hXw hB2 hs2 hb02 hX2' hI2 hR2' hz1
 go_wp2_with fail
 refine (HO.out W2 HB2.out).mono ?_
 rintro e w2 ⟨⟨qa, qc, rfl, hS2⟩, hb2⟩
 rw [hql] at hS2 ⊢
 have hb12 := HB2.out.trans (hb2.mono HB2.out.size)
 obtain ⟨hX2, -, hR2⟩ := HX.out w2 hb12
 have hA2 := ((HA0.out.go HB2.out).go hb2)
 clear hq hql
 obtain ⟨m0, m1, m2, m3, m4, m5, m6, m7, m8, m9⟩ := cl10 hX2
 obtain ⟨g0, g1, g2, g3, g4, g5, g6, g7, g8, g9⟩ := cz10 hX2
 obtain ⟨V, hV⟩ : ∃ V, (w2.setCell ⟨w.heap.size, 2, none⟩ (.slice qa ql qc)) = V := ⟨_, rfl⟩
 have hXV : V.heap[w.heap.size]? = some (.cells #[.int .i64 1, .int .i64 0, .slice qa ql qc, .int .i64 0, .string ⟨#[]⟩, .int .i64 0, .int .i64 0, .slice s.ca s.cl s.cc, .int .i64 0, .slice s.ga s.gl s.gc] 33 (0, 0)) := by rw [← hV]; exact hSk (hX2) _
 have hOV : OnlyAt w.heap.size w2 V := by rw [← hV]; exact (OnlyAt.refl _ _).set _ _
 have hBV : Below w.heap.size w V := by rw [← hV]; exact ((HB0.out.trans (hb12.mono HB0.out.size))).setCell (p := ⟨w.heap.size, 2, none⟩) (Nat.le_refl _) _
 have hRV : V.heap[w.heap.size + 2]? = some (.cells #[.int .i64 0, .int .i64 0, .slice none 0 0, .int .i64 0, .string ⟨#[]⟩, .int .i64 0, .int .i64 0, .slice none 0 0, .int .i64 0, .slice none 0 0] 33 (0, 0)) := (hOV.2 _ (by omega)).trans hR2
 have hAV : (⟨qa, ql, qc, s.ca, s.cl, s.cc, s.ga, s.gl, s.gc⟩ : SS).At V.heap.size V (skNum 1 0 q) := SS.At.apart (⟨hS2, hA2.c, hA2.g⟩ : SS.At ⟨qa, ql, qc, s.ca, s.cl, s.cc, s.ga, s.gl, s.gc⟩ w2.heap.size w2 (skNum 1 0 q)) hX2 (noU10 _ _ _ _ _ _ _ _ _ _ _ _ _ _ _ _) hOV
 obtain ⟨o0, o1, o2, o3, o4, o5, o6, o7, o8, o9⟩ := cl10 hXV
 obtain ⟨r0, r1, r2, r3, r4, r5, r6, r7, r8, r9⟩ := cl10 hRV
 obtain ⟨q0, q1, q2, q3, q4, q5, q6, q7, q8, q9⟩ := cz10 hRV
 obtain ⟨U, hU, hXU, hOU, hBU⟩ := store10 (.int .i64 1) (.int .i64 0) (.slice qa ql qc) (.int .i64 0) (.string ⟨#[]⟩) (.int .i64 0) (.int .i64 0) (.slice s.ca s.cl s.cc) (.int .i64 0) (.slice s.ga s.gl s.gc) hRV
 obtain ⟨k0, k1, k2, k3, k4, k5, k6, k7, k8, k9⟩ := cl10 hXU
 have HBU : Hid (Below w.heap.size w U) := hBU _ _ hBV (by omega)
 have HAU : Hid ((⟨qa, ql, qc, s.ca, s.cl, s.cc, s.ga, s.gl, s.gc⟩ : SS).At U.heap.size U (skNum 1 0 q)) := hAV.apart hRV (noU10 _ _ _ _ _ _ _ _ _ _ _ _ _ _ _ _) hOU
 clear hX2 hR2 hXV hOV hBV hRV hAV hXU hOU hBU
 go_wp2_with fail
 exact bodyPost_ret (v := .tuple #[.agg #[.int .i64 1, .int .i64 0, .slice qa ql qc, .int .i64 0, .string ⟨#[]⟩, .int .i64 0, .int .i64 0, .slice s.ca s.cl s.cc, .int .i64 0, .slice s.ga s.gl s.gc], .int .i64 0]) (by simp [results, Tryz.f16, go_sem, k0, k1, k2, k3, k4, k5, k6, k7, k8, k9]) rfl ⟨⟨qa, ql, qc, s.ca, s.cl, s.cc, s.ga, s.gl, s.gc⟩, rfl, HAU.out, HBU.out⟩
set_option maxRecDepth 100000 in
set_option maxHeartbeats 8000000 in
theorem ref10_Add_full (l : List Int) (h : Nat) (n : Int) (s : SS) (w : World) (hA : s.At w.heap.size w (skNum 1 0 l : Sk)) (hB : Bd.Ok 1 0 (.num l)) (hh : h < 2 ^ 64) (hq : exGather l [(h : Int)] = none) :
  Calls Tryz.prog 16 #[.agg #[.int .i64 1, .int .i64 0, .slice s.ea s.el s.ec, .int .i64 0, .string ⟨#[]⟩, .int .i64 0, .int .i64 0, .slice s.ca s.cl s.cc, .int .i64 0, .slice s.ga s.gl s.gc], .agg #[.int .u64 h, .int .u64 n]] w (SkP (skReg 1 1 7 (hlStr (hlAdd 7 (hlSum 7 (hlNone 7) (l.map Int.toNat)) h)), 0) w) := by
 obtain ⟨R, hRe⟩ : ∃ R, skReg 1 1 7 (hlStr (hlAdd 7 (hlSum 7 (hlNone 7) (l.map Int.toNat)) h)) = R := ⟨_, rfl⟩
 rw [hRe]
 obtain ⟨-, -, hu1, hu2, hu⟩ := id hB
 have hR : exRight l = true := up_right l hu1 hu2
 obtain ⟨W0, hW0, hX0, hI0, hXr, hB0, hs0⟩ := boxes3 w #[.int .i64 1, .int .i64 0, .slice s.ea s.el s.ec, .int .i64 0, .string ⟨#[]⟩, .int .i64 0, .int .i64 0, .slice s.ca s.cl s.cc, .int .i64 0, .slice s.ga s.gl s.gc] 33 #[.int .u64 h, .int .u64 n] 45 #[.int .i64 0, .int .i64 0, .slice none 0 0, .int .i64 0, .string ⟨#[]⟩, .int .i64 0, .int .i64 0, .slice none 0 0, .int .i64 0, .slice none 0 0] 33
 have HX : Hid (∀ W, Below W0.heap.size W0 W → W.heap[w.heap.size]? = some (.cells #[.int .i64 1, .int .i64 0, .slice s.ea s.el s.ec, .int .i64 0, .string ⟨#[]⟩, .int .i64 0, .int .i64 0, .slice s.ca s.cl s.cc, .int .i64 0, .slice s.ga s.gl s.gc] 33 (0, 0)) ∧ W.heap[w.heap.size + 1]? = some (.cells #[.int .u64 h, .int .u64 n] 45 (0, 0)) ∧ W.heap[w.heap.size + 2]? = some (.cells #[.int .i64 0, .int .i64 0, .slice none 0 0, .int .i64 0, .string ⟨#[]⟩, .int .i64 0, .int .i64 0, .slice none 0 0, .int .i64 0, .slice none 0 0] 33 (0, 0))) := fun W hb => ⟨known hb (Nat.le_refl _) hX0, known hb (Nat.le_refl _) hI0, known hb (Nat.le_refl _) hXr⟩
 have hRt : Calls Tryz.prog 20 #[.agg #[.int .i64 1, .int .i64 0, .slice s.ea s.el s.ec, .int .i64 0, .string ⟨#[]⟩, .int .i64 0, .int .i64 0, .slice s.ca s.cl s.cc, .int .i64 0, .slice s.ga s.gl s.gc]] W0 fun e w' => e = .returned (.bool true) ∧ Below W0.heap.size W0 w' := ref10_Right_ok (x := skNum 1 0 l) hB rfl (hA.go hB0)
 have HA0 := Lib.hid (hA.go hB0)
 have HO : Hid (∀ W, Below W0.heap.size W0 W → Calls Tryz.prog 48 #[.agg #[.slice s.ea s.el s.ec], .int .u64 h] W (GatherPost06 (exGather l [(h : Int)]) W)) := fun W hb => ref06_Add_any (h : Int) l _ _ _ W ((hA.go hB0).go hb).e hR hu
 obtain ⟨y, hy⟩ : ∃ y, y = skOf 1 1 (Bd.num l).low := ⟨_, rfl⟩
 have HL2 : Hid (∀ W, s.At W.heap.size W (skNum 1 0 l) → Calls Tryz.prog 35 #[.agg #[.int .i64 1, .int .i64 0, .slice s.ea s.el s.ec, .int .i64 0, .string ⟨#[]⟩, .int .i64 0, .int .i64 0, .slice s.ca s.cl s.cc, .int .i64 0, .slice s.ga s.gl s.gc]] W (LowP y W)) := fun W h => by rw [hy]; exact ref10_lower_any hB (by decide) (skNum 1 0 l) rfl s W h
 have HRec : Hid (∀ W (p : SS), p.At W.heap.size W y → Calls Tryz.prog 16 #[.agg #[.int .i64 y.kind, .int .i64 y.level, .slice p.ea p.el p.ec, .int .i64 y.hb, .string y.hr, .int .i64 y.cr, .int .i64 y.cc, .slice p.ca p.cl p.cc, .int .i64 y.gf, .slice p.ga p.gl p.gc], .agg #[.int .u64 h, .int .u64 n]] W (SkP (R, 0) W)) := fun W p hp => by
  subst hy
  rw [← hRe]
  exact ref10_Add_reg 1 7 _ h n p W hp (bd_low_ok hB (by decide)) hh
 clear hy hRe
 clear hB hu1 hu2 hu hR
 have HB0 := Lib.hid hB0
 have HS0 : Hid (W0.heap.size = w.heap.size + 3) := hs0
 obtain ⟨c0, c1, c2, c3, c4, c5, c6, c7, c8, c9⟩ := cl10 hX0
 clear hX0 hI0 hXr hB0 hA hs0
 go_enter Tryz.func16, Tryz.ntmps16
 go_wp2_with fail
 refine hRt.mono ?_
 rintro e w1 ⟨rfl, hb1⟩
 obtain ⟨hX1, hI1, hR1⟩ := HX.out w1 hb1
 obtain ⟨d0, d1, d2, d3, d4, d5, d6, d7, d8, d9⟩ := cl10 hX1
 obtain ⟨j0, j1⟩ := cl2 hI1
 have HB1 := Lib.hid hb1
 clear hRt c0 c1 c2 c3 c4 c5 c6 c7 c8 c9 hX1 hI1 hR1 hb1
 rw [hq] at HO
 clear hq
 obtain ⟨W2, hW2, hXw, hB2, hs2⟩ := boxes1 w1 #[.int .i64 1, .int .i64 0, .slice s.ea s.el s.ec, .int .i64 0, .string ⟨#[]⟩, .int .i64 0, .int .i64 0, .slice s.ca s.cl s.cc, .int .i64 0, .slice s.ga s.gl s.gc] 33
 have hz1 := HB1.out.size
 have hwb : w.heap.size + 3 ≤ w1.heap.size := by have := HS0.out; omega
 have hb02 := HB1.out.trans (hB2.mono hz1)
 obtain ⟨hX2', hI2, hR2'⟩ := HX.out W2 hb02
 obtain ⟨u0, u1, u2, u3, u4, u5, u6, u7, u8, u9⟩ := cl10 hXw
 obtain ⟨v0, v1, v2, v3, v4, v5, v6, v7, v8, v9⟩ := cz10 hXw
 have e1 : W2.setCell ⟨w1.heap.size, 1, none⟩ (.int .i64 0) = W2 := set_same hXw rfl
 have e2 : W2.setCell ⟨w1.heap.size, 2, none⟩ (.slice s.ea s.el s.ec) = W2 := set_same hXw rfl
 have e3 : W2.setCell ⟨w1.heap.size, 3, none⟩ (.int .i64 0) = W2 := set_same hXw rfl
 have e4 : W2.setCell ⟨w1.heap.size, 4, none⟩ (.string ⟨#[]⟩) = W2 := set_same hXw rfl
 have e5 : W2.setCell ⟨w1.heap.size, 5, none⟩ (.int .i64 0) = W2 := set_same hXw rfl
 have e6 : W2.setCell ⟨w1.heap.size, 6, none⟩ (.int .i64 0) = W2 := set_same hXw rfl
 have e7 : W2.setCell ⟨w1.heap.size, 7, none⟩ (.slice s.ca s.cl s.cc) = W2 := set_same hXw rfl
 have e8 : W2.setCell ⟨w1.heap.size, 8, none⟩ (.int .i64 0) = W2 := set_same hXw rfl
 have e9 : W2.setCell ⟨w1.heap.size, 9, none⟩ (.slice s.ga s.gl s.gc) = W2 := set_same hXw rfl
 obtain ⟨x0, x1, x2, x3, x4, x5, x6, x7, x8, x9⟩ := cl10 hX2'
 have i0 : W2.cell? ⟨w.heap.size + 1, 0, none⟩ = some (.int .u64 h) := cCc hI2 0
 have HXw := Lib.hid hXw
 have HB2 := Lib.hid hb02
 clear hXw hB2 hs2 hb02 hX2' hI2 hR2' hz1
 go_wp2_with fail
 refine (HO.out W2 HB2.out).mono ?_
 rintro e w2 ⟨rfl, hb2⟩
 have hb12 := HB2.out.trans (hb2.mono HB2.out.size)
 obtain ⟨hX2, hI2, hR2⟩ := HX.out w2 hb12
 obtain ⟨m0, m1, m2, m3, m4, m5, m6, m7, m8, m9⟩ := cl10 hX2
 obtain ⟨g0, g1, g2, g3, g4, g5, g6, g7, g8, g9⟩ := cz10 hX2
 obtain ⟨V, hV⟩ : ∃ V, w2.setCell ⟨w.heap.size, 2, none⟩ (.slice none 0 0) = V := ⟨_, rfl⟩
 have hOV : OnlyAt w.heap.size w2 V := by rw [← hV]; exact (OnlyAt.refl _ _).set _ _
 have hBV : Below w.heap.size w V := by rw [← hV]; exact (HB0.out.trans (hb12.mono HB0.out.size)).setCell (p := ⟨w.heap.size, 2, none⟩) (Nat.le_refl _) _
 have hXwV : V.heap[w1.heap.size]? = some (.cells #[.int .i64 1, .int .i64 0, .slice s.ea s.el s.ec, .int .i64 0, .string ⟨#[]⟩, .int .i64 0, .int .i64 0, .slice s.ca s.cl s.cc, .int .i64 0, .slice s.ga s.gl s.gc] 33 (0, 0)) := (hOV.2 _ (by omega)).trans (known hb2 (Nat.le_refl _) HXw.out)
 have hIV : V.heap[w.heap.size + 1]? = some (.cells #[.int .u64 h, .int .u64 n] 45 (0, 0)) := (hOV.2 _ (by omega)).trans hI2
 have hRV : V.heap[w.heap.size + 2]? = some (.cells #[.int .i64 0, .int .i64 0, .slice none 0 0, .int .i64 0, .string ⟨#[]⟩, .int .i64 0, .int .i64 0, .slice none 0 0, .int .i64 0, .slice none 0 0] 33 (0, 0)) := (hOV.2 _ (by omega)).trans hR2
 have hAV : s.At V.heap.size V (skNum 1 0 l) := SS.At.apart ((HA0.out.go HB2.out).go hb2) hX2 (noU10 _ _ _ _ _ _ _ _ _ _ _ _ _ _ _ _) hOV
 have HLV : Hid (Calls Tryz.prog 35 #[.agg #[.int .i64 1, .int .i64 0, .slice s.ea s.el s.ec, .int .i64 0, .string ⟨#[]⟩, .int .i64 0, .int .i64 0, .slice s.ca s.cl s.cc, .int .i64 0, .slice s.ga s.gl s.gc]] V.drew (LowP y V.drew)) := HL2.out V.drew ⟨hAV.e, hAV.c, hAV.g⟩
 have HIV : Hid (∀ W, Below V.heap.size V W → W.heap[w.heap.size + 1]? = some (.cells #[.int .u64 h, .int .u64 n] 45 (0, 0)) ∧ W.heap[w.heap.size + 2]? = some (.cells #[.int .i64 0, .int .i64 0, .slice none 0 0, .int .i64 0, .string ⟨#[]⟩, .int .i64 0, .int .i64 0, .slice none 0 0, .int .i64 0, .slice none 0 0] 33 (0, 0))) := fun W hb => ⟨known hb (Nat.le_refl _) hIV, known hb (Nat.le_refl _) hRV⟩
 have HBV : Hid (Below w.heap.size w V.drew) := hBV.drew
 have HVV : Hid (Below V.heap.size V V.drew) := (Below.refl _ _).drew
 obtain ⟨o0, o1, o2, o3, o4, o5, o6, o7, o8, o9⟩ := cl10 hXwV
 obtain ⟨j0, j1⟩ := cl2 hIV
 clear hX2 hI2 hR2 hXwV hIV hRV hAV hOV hBV hb12 hb2
 go_wp2_with fail
 refine wp_region_any (by kernel_rfl) ?_
 change wpAny _ _ _ _ _ _ _ (World.drew _)
 refine wpAny_ready (rs := [0, 2]) (by kernel_rfl) (by simp) ?_
 refine AllReady.cons rfl (fun K hK => ?_) ?_
 ·go_simp
  refine hK _ _ ?_
  clear hK K
  refine wpAny_ready (rs := [1, 2]) (by kernel_rfl) (by simp) ?_
  refine AllReady.cons rfl (fun K hK => ?_) ?_
  ·go_simp
   refine HLV.out.mono ?_
   rintro e w3 ⟨p3, rfl, hA3, hb3⟩
   obtain ⟨hI3, -⟩ := HIV.out w3 (HVV.out.trans (hb3.mono HVV.out.size))
   have i3 : w3.cell? ⟨w.heap.size + 1, 0, none⟩ = some (.int .u64 h) := cCc hI3 0
   have i4 : w3.cell? ⟨w.heap.size + 1, 1, none⟩ = some (.int .u64 n) := cCc hI3 1
   have HA3 := Lib.hid hA3
   have HB3 := Lib.hid (HVV.out.trans (hb3.mono HVV.out.size))
   have HBw3 : Hid (Below w.heap.size w w3) := HBV.out.trans (hb3.mono HBV.out.size)
   clear hI3 hA3 hb3
   refine hK _ _ ?_
   clear hK K
   refine wpAny_ready (rs := [2]) (by kernel_rfl) (by simp) ?_
   refine AllReady.cons rfl (fun K hK => ?_) ?_
   ·go_simp
    refine hK _ _ ?_
    clear hK K
    refine wpAny_ready (rs := [3]) (by kernel_rfl) (by simp) ?_
    refine AllReady.cons rfl (fun K hK => ?_) ?_
    ·go_simp
     refine (HRec.out w3 p3 HA3.out).mono ?_
     rintro e w4 ⟨p4, rfl, hA4, hb4⟩
     obtain ⟨-, hR4⟩ := HIV.out w4 (HB3.out.trans (hb4.mono HB3.out.size))
     have HBw4 : Hid (Below w.heap.size w w4) := HBw3.out.trans (hb4.mono HBw3.out.size)
     obtain ⟨r0, r1, r2, r3, r4, r5, r6, r7, r8, r9⟩ := cl10 hR4
     obtain ⟨q0, q1, q2, q3, q4, q5, q6, q7, q8, q9⟩ := cz10 hR4
     obtain ⟨U, hU, hXU, hOU, hBU⟩ := store10 (.int .i64 R.kind) (.int .i64 R.level) (.slice p4.ea p4.el p4.ec) (.int .i64 R.hb) (.string R.hr) (.int .i64 R.cr) (.int .i64 R.cc) (.slice p4.ca p4.cl p4.cc) (.int .i64 R.gf) (.slice p4.ga p4.gl p4.gc) hR4
     obtain ⟨k0, k1, k2, k3, k4, k5, k6, k7, k8, k9⟩ := cl10 hXU
     have HAU := Lib.hid (hA4.apart hR4 (noU10 _ _ _ _ _ _ _ _ _ _ _ _ _ _ _ _) hOU)
     have HBU : Hid (Below w.heap.size w U) := hBU _ _ HBw4.out (by omega)
     clear hA4 hb4 hR4 hXU hOU hBU
     refine hK _ _ ?_
     clear hK K
     refine tk 4 (v := ?_) rfl ?_ ?_
     rotate_left
     ·intro w; go_simp; with_reducible rfl
     refine tk 5 (v := ?_) rfl ?_ ?_
     rotate_left
     ·intro w; go_simp; with_reducible rfl
     refine wpAny_ready (rs := [6]) (by kernel_rfl) (by simp) ?_
     refine AllReady.cons rfl (fun K hK => ?_) ?_
     ·go_simp
      refine hK _ _ ?_
      clear hK K
      refine wpAny_ready (rs := [7]) (by kernel_rfl) (by simp) ?_
      refine AllReady.cons rfl (fun K hK => ?_) ?_
      ·go_simp
       refine hK _ _ ?_
       clear hK K
       refine wpAny_done (by kernel_rfl) ?_ _
       go_wp2_with fail
       exact bodyPost_ret (v := .tuple #[.agg #[.int .i64 R.kind, .int .i64 R.level, .slice p4.ea p4.el p4.ec, .int .i64 R.hb, .string R.hr, .int .i64 R.cr, .int .i64 R.cc, .slice p4.ca p4.cl p4.cc, .int .i64 R.gf, .slice p4.ga p4.gl p4.gc], .int .i64 0]) (by simp [results, Tryz.f16, go_sem, k0, k1, k2, k3, k4, k5, k6, k7, k8, k9]) rfl ⟨p4, rfl, HAU.out, HBU.out⟩
      exact AllReady.nil
     exact AllReady.nil
    exact AllReady.nil
   exact AllReady.nil
  refine AllReady.cons rfl (fun K hK => ?_) ?_
  ·go_simp
   refine hK _ _ ?_
   clear hK K
   refine wpAny_ready (rs := [1]) (by kernel_rfl) (by simp) ?_
   refine AllReady.cons rfl (fun K hK => ?_) ?_
   ·go_simp
    refine HLV.out.mono ?_
    rintro e w3 ⟨p3, rfl, hA3, hb3⟩
    obtain ⟨hI3, -⟩ := HIV.out w3 (HVV.out.trans (hb3.mono HVV.out.size))
    have i3 : w3.cell? ⟨w.heap.size + 1, 0, none⟩ = some (.int .u64 h) := cCc hI3 0
    have i4 : w3.cell? ⟨w.heap.size + 1, 1, none⟩ = some (.int .u64 n) := cCc hI3 1
    have HA3 := Lib.hid hA3
    have HB3 := Lib.hid (HVV.out.trans (hb3.mono HVV.out.size))
    have HBw3 : Hid (Below w.heap.size w w3) := HBV.out.trans (hb3.mono HBV.out.size)
    clear hI3 hA3 hb3
    refine hK _ _ ?_
    clear hK K
    refine wpAny_ready (rs := [3]) (by kernel_rfl) (by simp) ?_
    refine AllReady.cons rfl (fun K hK => ?_) ?_
    ·go_simp
     refine (HRec.out w3 p3 HA3.out).mono ?_
     rintro e w4 ⟨p4, rfl, hA4, hb4⟩
     obtain ⟨-, hR4⟩ := HIV.out w4 (HB3.out.trans (hb4.mono HB3.out.size))
     have HBw4 : Hid (Below w.heap.size w w4) := HBw3.out.trans (hb4.mono HBw3.out.size)
     obtain ⟨r0, r1, r2, r3, r4, r5, r6, r7, r8, r9⟩ := cl10 hR4
     obtain ⟨q0, q1, q2, q3, q4, q5, q6, q7, q8, q9⟩ := cz10 hR4
     obtain ⟨U, hU, hXU, hOU, hBU⟩ := store10 (.int .i64 R.kind) (.int .i64 R.level) (.slice p4.ea p4.el p4.ec) (.int .i64 R.hb) (.string R.hr) (.int .i64 R.cr) (.int .i64 R.cc) (.slice p4.ca p4.cl p4.cc) (.int .i64 R.gf) (.slice p4.ga p4.gl p4.gc) hR4
     obtain ⟨k0, k1, k2, k3, k4, k5, k6, k7, k8, k9⟩ := cl10 hXU
     have HAU := Lib.hid (hA4.apart hR4 (noU10 _ _ _ _ _ _ _ _ _ _ _ _ _ _ _ _) hOU)
     have HBU : Hid (Below w.heap.size w U) := hBU _ _ HBw4.out (by omega)
     clear hA4 hb4 hR4 hXU hOU hBU
     refine hK _ _ ?_
     clear hK K
     refine tk 4 (v := ?_) rfl ?_ ?_
     rotate_left
     ·intro w; go_simp; with_reducible rfl
     refine tk 5 (v := ?_) rfl ?_ ?_
     rotate_left
     ·intro w; go_simp; with_reducible rfl
     refine wpAny_ready (rs := [6]) (by kernel_rfl) (by simp) ?_
     refine AllReady.cons rfl (fun K hK => ?_) ?_
     ·go_simp
      refine hK _ _ ?_
      clear hK K
      refine wpAny_ready (rs := [7]) (by kernel_rfl) (by simp) ?_
      refine AllReady.cons rfl (fun K hK => ?_) ?_
      ·go_simp
       refine hK _ _ ?_
       clear hK K
       refine wpAny_done (by kernel_rfl) ?_ _
       go_wp2_with fail
       exact bodyPost_ret (v := .tuple #[.agg #[.int .i64 R.kind, .int .i64 R.level, .slice p4.ea p4.el p4.ec, .int .i64 R.hb, .string R.hr, .int .i64 R.cr, .int .i64 R.cc, .slice p4.ca p4.cl p4.cc, .int .i64 R.gf, .slice p4.ga p4.gl p4.gc], .int .i64 0]) (by simp [results, Tryz.f16, go_sem, k0, k1, k2, k3, k4, k5, k6, k7, k8, k9]) rfl ⟨p4, rfl, HAU.out, HBU.out⟩
      exact AllReady.nil
     exact AllReady.nil
    exact AllReady.nil
   exact AllReady.nil
  exact AllReady.nil
 refine AllReady.cons rfl (fun K hK => ?_) ?_
 ·go_simp
  refine hK _ _ ?_
  clear hK K
  refine wpAny_ready (rs := [0]) (by kernel_rfl) (by simp) ?_
  refine AllReady.cons rfl (fun K hK => ?_) ?_
  ·go_simp
   refine hK _ _ ?_
   clear hK K
   refine wpAny_ready (rs := [1]) (by kernel_rfl) (by simp) ?_
   refine AllReady.cons rfl (fun K hK => ?_) ?_
   ·go_simp
    refine HLV.out.mono ?_
    rintro e w3 ⟨p3, rfl, hA3, hb3⟩
    obtain ⟨hI3, -⟩ := HIV.out w3 (HVV.out.trans (hb3.mono HVV.out.size))
    have i3 : w3.cell? ⟨w.heap.size + 1, 0, none⟩ = some (.int .u64 h) := cCc hI3 0
    have i4 : w3.cell? ⟨w.heap.size + 1, 1, none⟩ = some (.int .u64 n) := cCc hI3 1
    have HA3 := Lib.hid hA3
    have HB3 := Lib.hid (HVV.out.trans (hb3.mono HVV.out.size))
    have HBw3 : Hid (Below w.heap.size w w3) := HBV.out.trans (hb3.mono HBV.out.size)
    clear hI3 hA3 hb3
    refine hK _ _ ?_
    clear hK K
    refine wpAny_ready (rs := [3]) (by kernel_rfl) (by simp) ?_
    refine AllReady.cons rfl (fun K hK => ?_) ?_
    ·go_simp
     refine (HRec.out w3 p3 HA3.out).mono ?_
     rintro e w4 ⟨p4, rfl, hA4, hb4⟩
     obtain ⟨-, hR4⟩ := HIV.out w4 (HB3.out.trans (hb4.mono HB3.out.size))
     have HBw4 : Hid (Below w.heap.size w w4) := HBw3.out.trans (hb4.mono HBw3.out.size)
     obtain ⟨r0, r1, r2, r3, r4, r5, r6, r7, r8, r9⟩ := cl10 hR4
     obtain ⟨q0, q1, q2, q3, q4, q5, q6, q7, q8, q9⟩ := cz10 hR4
     obtain ⟨U, hU, hXU, hOU, hBU⟩ := store10 (.int .i64 R.kind) (.int .i64 R.level) (.slice p4.ea p4.el p4.ec) (.int .i64 R.hb) (.string R.hr) (.int .i64 R.cr) (.int .i64 R.cc) (.slice p4.ca p4.cl p4.cc) (.int .i64 R.gf) (.slice p4.ga p4.gl p4.gc) hR4
     obtain ⟨k0, k1, k2, k3, k4, k5, k6, k7, k8, k9⟩ := cl10 hXU
     have HAU := Lib.hid (hA4.apart hR4 (noU10 _ _ _ _ _ _ _ _ _ _ _ _ _ _ _ _) hOU)
     have HBU : Hid (Below w.heap.size w U) := hBU _ _ HBw4.out (by omega)
     clear hA4 hb4 hR4 hXU hOU hBU
     refine hK _ _ ?_
     clear hK K
     refine tk 4 (v := ?_) rfl ?_ ?_
     rotate_left
     ·intro w; go_simp; with_reducible rfl
     refine tk 5 (v := ?_) rfl ?_ ?_
     rotate_left
     ·intro w; go_simp; with_reducible rfl
     refine wpAny_ready (rs := [6]) (by kernel_rfl) (by simp) ?_
     refine AllReady.cons rfl (fun K hK => ?_) ?_
     ·go_simp
      refine hK _ _ ?_
      clear hK K
      refine wpAny_ready (rs := [7]) (by kernel_rfl) (by simp) ?_
      refine AllReady.cons rfl (fun K hK => ?_) ?_
      ·go_simp
       refine hK _ _ ?_
       clear hK K
       refine wpAny_done (by kernel_rfl) ?_ _
       go_wp2_with fail
       exact bodyPost_ret (v := .tuple #[.agg #[.int .i64 R.kind, .int .i64 R.level, .slice p4.ea p4.el p4.ec, .int .i64 R.hb, .string R.hr, .int .i64 R.cr, .int .i64 R.cc, .slice p4.ca p4.cl p4.cc, .int .i64 R.gf, .slice p4.ga p4.gl p4.gc], .int .i64 0]) (by simp [results, Tryz.f16, go_sem, k0, k1, k2, k3, k4, k5, k6, k7, k8, k9]) rfl ⟨p4, rfl, HAU.out, HBU.out⟩
      exact AllReady.nil
     exact AllReady.nil
    exact AllReady.nil
   exact AllReady.nil
  exact AllReady.nil
 exact AllReady.nil
set_option maxRecDepth 100000 in
set_option maxHeartbeats 8000000 in
theorem ref10_Add_no {x : Sk} {s : SS} {w : World} (h : Nat) (n : Int) (hx : s.At w.heap.size w x) (hl : x.lim) (ok : skOk x = false) :
  Calls Tryz.prog 16 #[.agg #[.int .i64 x.kind, .int .i64 x.level, .slice s.ea s.el s.ec, .int .i64 x.hb, .string x.hr, .int .i64 x.cr, .int .i64 x.cc, .slice s.ca s.cl s.cc, .int .i64 x.gf, .slice s.ga s.gl s.gc], .agg #[.int .u64 h, .int .u64 n]] w (SkP (zsk, 100) w) := by
 obtain ⟨W0, hW0, hX0, hI0, hXr, hB0, hs0⟩ := boxes3 w #[.int .i64 x.kind, .int .i64 x.level, .slice s.ea s.el s.ec, .int .i64 x.hb, .string x.hr, .int .i64 x.cr, .int .i64 x.cc, .slice s.ca s.cl s.cc, .int .i64 x.gf, .slice s.ga s.gl s.gc] 33 #[.int .u64 h, .int .u64 n] 45 #[.int .i64 0, .int .i64 0, .slice none 0 0, .int .i64 0, .string ⟨#[]⟩, .int .i64 0, .int .i64 0, .slice none 0 0, .int .i64 0, .slice none 0 0] 33
 have hRt := ref10_Right_any x s W0 (hx.go hB0) hl.e hl.cc hl.g
 rw [ok] at hRt
 have HXr := Lib.hid hXr
 have HB0 := Lib.hid hB0
 obtain ⟨c0, c1, c2, c3, c4, c5, c6, c7, c8, c9⟩ := cl10 hX0
 clear hX0 hI0 hXr hB0 hx hl ok hs0
 go_enter Tryz.func16, Tryz.ntmps16
 go_wp2_with fail
 refine hRt.mono ?_
 rintro e w1 ⟨rfl, hb1⟩
 have hR1 := known hb1 (Nat.le_refl _) HXr.out
 have HB1 := Lib.hid hb1
 obtain ⟨r0, r1, r2, r3, r4, r5, r6, r7, r8, r9⟩ := cl10 hR1
 obtain ⟨g0, g1, g2, g3, g4, g5, g6, g7, g8, g9⟩ := cz10 hR1
 have z0 : w1.setCell ⟨w.heap.size + 2, 0, none⟩ (.int .i64 0) = w1 := set_same hR1 rfl
 have z1 : w1.setCell ⟨w.heap.size + 2, 1, none⟩ (.int .i64 0) = w1 := set_same hR1 rfl
 have z2 : w1.setCell ⟨w.heap.size + 2, 2, none⟩ (.slice none 0 0) = w1 := set_same hR1 rfl
 have z3 : w1.setCell ⟨w.heap.size + 2, 3, none⟩ (.int .i64 0) = w1 := set_same hR1 rfl
 have z4 : w1.setCell ⟨w.heap.size + 2, 4, none⟩ (.string ⟨#[]⟩) = w1 := set_same hR1 rfl
 have z5 : w1.setCell ⟨w.heap.size + 2, 5, none⟩ (.int .i64 0) = w1 := set_same hR1 rfl
 have z6 : w1.setCell ⟨w.heap.size + 2, 6, none⟩ (.int .i64 0) = w1 := set_same hR1 rfl
 have z7 : w1.setCell ⟨w.heap.size + 2, 7, none⟩ (.slice none 0 0) = w1 := set_same hR1 rfl
 have z8 : w1.setCell ⟨w.heap.size + 2, 8, none⟩ (.int .i64 0) = w1 := set_same hR1 rfl
 have z9 : w1.setCell ⟨w.heap.size + 2, 9, none⟩ (.slice none 0 0) = w1 := set_same hR1 rfl
 clear hRt hR1 hb1 c0 c1 c2 c3 c4 c5 c6 c7 c8 c9
 go_wp2_with fail
 exact bodyPost_ret (v := .tuple #[.agg #[.int .i64 0, .int .i64 0, .slice none 0 0, .int .i64 0, .string ⟨#[]⟩, .int .i64 0, .int .i64 0, .slice none 0 0, .int .i64 0, .slice none 0 0], .int .i64 100]) (by simp [results, Tryz.f16, go_sem, r0, r1, r2, r3, r4, r5, r6, r7, r8, r9]) rfl (.zero ⟨rfl, HB0.out.trans (HB1.out.mono HB0.out.size)⟩)
theorem ref10_Add_S {x : Sk} {s : SS} {w : World} (h : Nat) (n : Int) (hx : s.At w.heap.size w x) (hl : x.lim) (hh : h < 2 ^ 64) (hn : U64 n) :
  Calls Tryz.prog 16 #[.agg #[.int .i64 x.kind, .int .i64 x.level, .slice s.ea s.el s.ec, .int .i64 x.hb, .string x.hr, .int .i64 x.cr, .int .i64 x.cc, .slice s.ca s.cl s.cc, .int .i64 x.gf, .slice s.ga s.gl s.gc], .agg #[.int .u64 h, .int .u64 n]] w (SkP (addS x (h, n)) w) := by
 cases ok : skOk x with
 | false =>
  unfold addS
  rw [ok]
  exact ref10_Add_no h n hx hl ok
 | true =>
  obtain ⟨k, L, B, rfl, hB⟩ := hl.bd ok
  rw [addS_sk hB]
  cases B with
  | num l =>
   obtain ⟨rfl, rfl, -⟩ := id hB
   cases hq : exGather l [(h : Int)] with
   | some q =>
    have e : wkAdd (0, .num l) (h, n) = (0, .num q) := by simp [wkAdd, Bd.add, hq]
    rw [e]
    exact ref10_Add_num l q h n s w hx hB hq
   | none =>
    have e : wkAdd (0, .num l) (h, n) = (1, .reg 7 (hlAdd 7 (hlSum 7 (hlNone 7) (l.map Int.toNat)) h)) := by simp [wkAdd, Bd.add, Bd.low, hq]
    rw [e]
    exact ref10_Add_full l h n s w hx hB hh hq
  | reg b r =>
   obtain ⟨rfl, -⟩ := id hB
   exact ref10_Add_reg L b r h n s w hx hB hh
  | cnt c l =>
   obtain ⟨rfl, -⟩ := id hB
   exact ref10_Add_cnt L c l h n s w hx hB hh hn
  | bkt f l =>
   obtain ⟨rfl, -⟩ := id hB
   exact ref10_Add_bkt L f l h n s w hx hB hh hn
end Go.Proofs.YtcbbenncdainfaaGreatDoor

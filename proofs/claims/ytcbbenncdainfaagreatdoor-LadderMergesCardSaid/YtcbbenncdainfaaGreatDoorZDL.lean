/- The reference of layer 10: New, Lower, To, at any sketch. Printed by gen_dl.py. -/
import Derived.Test.YtcbbenncdainfaaGreatDoorZDG
import Derived.Test.YtcbbenncdainfaaGreatDoorZRT
namespace Go.Proofs.YtcbbenncdainfaaGreatDoor
open Go Go.RowKit Go.Shelf
theorem ref10_low_S {x : Sk} {s : SS} {w : World} (hx : s.At w.heap.size w x) (hl : x.lim) (ok : skOk x = true) (hb : x.level ≠ bottomB x.kind) :
  Calls Tryz.prog 35 #[.agg #[.int .i64 x.kind, .int .i64 x.level, .slice s.ea s.el s.ec, .int .i64 x.hb, .string x.hr, .int .i64 x.cr, .int .i64 x.cc, .slice s.ca s.cl s.cc, .int .i64 x.gf, .slice s.ga s.gl s.gc]] w (LowP (skLow x) w) := by
 obtain ⟨k, L, B, rfl, hB⟩ := hl.bd ok
 rw [skLow_sk hB]
 refine ref10_lower_any hB ?_ _ rfl s w hx
 have h1 := ok_bot hB
 have h2 := bot_sk hB
 rw [(skOf_kind k L B).2, h2] at hb
 omega
set_option maxRecDepth 100000 in
set_option maxHeartbeats 4000000 in
theorem ref10_Lower_no {x : Sk} {s : SS} {w : World} (hx : s.At w.heap.size w x) (hl : x.lim) (ok : skOk x = false) :
  Calls Tryz.prog 10 #[.agg #[.int .i64 x.kind, .int .i64 x.level, .slice s.ea s.el s.ec, .int .i64 x.hb, .string x.hr, .int .i64 x.cr, .int .i64 x.cc, .slice s.ca s.cl s.cc, .int .i64 x.gf, .slice s.ga s.gl s.gc]] w (SkP (zsk, 100) w) := by
 obtain ⟨W0, hW0, hX0, hXr, hB0, hs0⟩ := boxes2 w #[.int .i64 x.kind, .int .i64 x.level, .slice s.ea s.el s.ec, .int .i64 x.hb, .string x.hr, .int .i64 x.cr, .int .i64 x.cc, .slice s.ca s.cl s.cc, .int .i64 x.gf, .slice s.ga s.gl s.gc] 33 #[.int .i64 0, .int .i64 0, .slice none 0 0, .int .i64 0, .string ⟨#[]⟩, .int .i64 0, .int .i64 0, .slice none 0 0, .int .i64 0, .slice none 0 0] 33
 have HX : Hid (∀ W, Below W0.heap.size W0 W → W.heap[w.heap.size]? = some (.cells #[.int .i64 x.kind, .int .i64 x.level, .slice s.ea s.el s.ec, .int .i64 x.hb, .string x.hr, .int .i64 x.cr, .int .i64 x.cc, .slice s.ca s.cl s.cc, .int .i64 x.gf, .slice s.ga s.gl s.gc] 33 (0, 0)) ∧ W.heap[w.heap.size + 1]? = some (.cells #[.int .i64 0, .int .i64 0, .slice none 0 0, .int .i64 0, .string ⟨#[]⟩, .int .i64 0, .int .i64 0, .slice none 0 0, .int .i64 0, .slice none 0 0] 33 (0, 0))) := fun W hb => ⟨known hb (Nat.le_refl _) hX0, known hb (Nat.le_refl _) hXr⟩
 have hRt := ref10_Right_any x s W0 (hx.go hB0) hl.e hl.cc hl.g
 rw [ok] at hRt
 have HB0 := Lib.hid hB0
 have HS0 : Hid (W0.heap.size = w.heap.size + 2) := hs0
 obtain ⟨c0, c1, c2, c3, c4, c5, c6, c7, c8, c9⟩ := cl10 hX0
 clear hX0 hXr hB0 hx hl ok hs0
 go_enter Tryz.func10, Tryz.ntmps10
 go_wp2_with fail
 refine hRt.mono ?_
 rintro e w1 ⟨rfl, hb1⟩
 obtain ⟨hX1, hR1⟩ := HX.out w1 hb1
 obtain ⟨d0, d1, d2, d3, d4, d5, d6, d7, d8, d9⟩ := cl10 hX1
 have HB1 := Lib.hid hb1
 clear hRt c0 c1 c2 c3 c4 c5 c6 c7 c8 c9
 obtain ⟨r0, r1, r2, r3, r4, r5, r6, r7, r8, r9⟩ := cl10 hR1
 obtain ⟨g0, g1, g2, g3, g4, g5, g6, g7, g8, g9⟩ := cz10 hR1
 have z0 : w1.setCell ⟨w.heap.size + 1, 0, none⟩ (.int .i64 0) = w1 := set_same hR1 rfl
 have z1 : w1.setCell ⟨w.heap.size + 1, 1, none⟩ (.int .i64 0) = w1 := set_same hR1 rfl
 have z2 : w1.setCell ⟨w.heap.size + 1, 2, none⟩ (.slice none 0 0) = w1 := set_same hR1 rfl
 have z3 : w1.setCell ⟨w.heap.size + 1, 3, none⟩ (.int .i64 0) = w1 := set_same hR1 rfl
 have z4 : w1.setCell ⟨w.heap.size + 1, 4, none⟩ (.string ⟨#[]⟩) = w1 := set_same hR1 rfl
 have z5 : w1.setCell ⟨w.heap.size + 1, 5, none⟩ (.int .i64 0) = w1 := set_same hR1 rfl
 have z6 : w1.setCell ⟨w.heap.size + 1, 6, none⟩ (.int .i64 0) = w1 := set_same hR1 rfl
 have z7 : w1.setCell ⟨w.heap.size + 1, 7, none⟩ (.slice none 0 0) = w1 := set_same hR1 rfl
 have z8 : w1.setCell ⟨w.heap.size + 1, 8, none⟩ (.int .i64 0) = w1 := set_same hR1 rfl
 have z9 : w1.setCell ⟨w.heap.size + 1, 9, none⟩ (.slice none 0 0) = w1 := set_same hR1 rfl
 clear hX1 hR1 hb1
 go_wp2_with fail
 exact bodyPost_ret (v := .tuple #[.agg #[.int .i64 0, .int .i64 0, .slice none 0 0, .int .i64 0, .string ⟨#[]⟩, .int .i64 0, .int .i64 0, .slice none 0 0, .int .i64 0, .slice none 0 0], .int .i64 100]) (by simp [results, Tryz.f10, go_sem, r0, r1, r2, r3, r4, r5, r6, r7, r8, r9]) rfl (.zero ⟨rfl, HB0.out.trans (HB1.out.mono HB0.out.size)⟩)
set_option maxRecDepth 100000 in
set_option maxHeartbeats 4000000 in
theorem ref10_Lower_bot {x : Sk} {s : SS} {w : World} (hx : s.At w.heap.size w x) (hl : x.lim) (ok : skOk x = true) (hb : x.level = bottomB x.kind) :
  Calls Tryz.prog 10 #[.agg #[.int .i64 x.kind, .int .i64 x.level, .slice s.ea s.el s.ec, .int .i64 x.hb, .string x.hr, .int .i64 x.cr, .int .i64 x.cc, .slice s.ca s.cl s.cc, .int .i64 x.gf, .slice s.ga s.gl s.gc]] w (SkP (zsk, 102) w) := by
 have HBT : Hid (∀ W, Calls Tryz.prog 22 #[.int .i64 x.kind] W fun e w' => e = .returned (.int .i64 (bottomB x.kind)) ∧ w' = W) := fun W => (ref10_Bottom_any x.kind W).mono fun e w' ⟨h1, h2⟩ => ⟨h1, h2.symm⟩
 have hbb : (x.level == bottomB x.kind) = true := by rw [beq_iff_eq]; exact hb
 generalize bottomB x.kind = bt at HBT hbb hb
 obtain ⟨W0, hW0, hX0, hXr, hB0, hs0⟩ := boxes2 w #[.int .i64 x.kind, .int .i64 x.level, .slice s.ea s.el s.ec, .int .i64 x.hb, .string x.hr, .int .i64 x.cr, .int .i64 x.cc, .slice s.ca s.cl s.cc, .int .i64 x.gf, .slice s.ga s.gl s.gc] 33 #[.int .i64 0, .int .i64 0, .slice none 0 0, .int .i64 0, .string ⟨#[]⟩, .int .i64 0, .int .i64 0, .slice none 0 0, .int .i64 0, .slice none 0 0] 33
 have HX : Hid (∀ W, Below W0.heap.size W0 W → W.heap[w.heap.size]? = some (.cells #[.int .i64 x.kind, .int .i64 x.level, .slice s.ea s.el s.ec, .int .i64 x.hb, .string x.hr, .int .i64 x.cr, .int .i64 x.cc, .slice s.ca s.cl s.cc, .int .i64 x.gf, .slice s.ga s.gl s.gc] 33 (0, 0)) ∧ W.heap[w.heap.size + 1]? = some (.cells #[.int .i64 0, .int .i64 0, .slice none 0 0, .int .i64 0, .string ⟨#[]⟩, .int .i64 0, .int .i64 0, .slice none 0 0, .int .i64 0, .slice none 0 0] 33 (0, 0))) := fun W hb => ⟨known hb (Nat.le_refl _) hX0, known hb (Nat.le_refl _) hXr⟩
 have hRt := ref10_Right_any x s W0 (hx.go hB0) hl.e hl.cc hl.g
 rw [ok] at hRt
 clear hb
 have HB0 := Lib.hid hB0
 have HS0 : Hid (W0.heap.size = w.heap.size + 2) := hs0
 obtain ⟨c0, c1, c2, c3, c4, c5, c6, c7, c8, c9⟩ := cl10 hX0
 clear hX0 hXr hB0 hx hl ok hs0
 go_enter Tryz.func10, Tryz.ntmps10
 go_wp2_with fail
 refine hRt.mono ?_
 rintro e w1 ⟨rfl, hb1⟩
 obtain ⟨hX1, hR1⟩ := HX.out w1 hb1
 obtain ⟨d0, d1, d2, d3, d4, d5, d6, d7, d8, d9⟩ := cl10 hX1
 have HB1 := Lib.hid hb1
 clear hRt c0 c1 c2 c3 c4 c5 c6 c7 c8 c9
 clear hX1 hR1 hb1
 go_wp2_with fail
 go_quiet ((go_at_call 22; exact Calls.quiet_of_same (HBT.out _)))
 obtain ⟨Wd, hWd⟩ : ∃ Wd, w1.drewN nq = Wd := ⟨_, rfl⟩
 have HBd : Hid (Below W0.heap.size W0 Wd) := by rw [← hWd]; exact bDr HB1.out _
 rw [hWd]
 obtain ⟨-, hR2⟩ := HX.out Wd HBd.out
 obtain ⟨r0, r1, r2, r3, r4, r5, r6, r7, r8, r9⟩ := cl10 hR2
 obtain ⟨g0, g1, g2, g3, g4, g5, g6, g7, g8, g9⟩ := cz10 hR2
 have z0 : Wd.setCell ⟨w.heap.size + 1, 0, none⟩ (.int .i64 0) = Wd := set_same hR2 rfl
 have z1 : Wd.setCell ⟨w.heap.size + 1, 1, none⟩ (.int .i64 0) = Wd := set_same hR2 rfl
 have z2 : Wd.setCell ⟨w.heap.size + 1, 2, none⟩ (.slice none 0 0) = Wd := set_same hR2 rfl
 have z3 : Wd.setCell ⟨w.heap.size + 1, 3, none⟩ (.int .i64 0) = Wd := set_same hR2 rfl
 have z4 : Wd.setCell ⟨w.heap.size + 1, 4, none⟩ (.string ⟨#[]⟩) = Wd := set_same hR2 rfl
 have z5 : Wd.setCell ⟨w.heap.size + 1, 5, none⟩ (.int .i64 0) = Wd := set_same hR2 rfl
 have z6 : Wd.setCell ⟨w.heap.size + 1, 6, none⟩ (.int .i64 0) = Wd := set_same hR2 rfl
 have z7 : Wd.setCell ⟨w.heap.size + 1, 7, none⟩ (.slice none 0 0) = Wd := set_same hR2 rfl
 have z8 : Wd.setCell ⟨w.heap.size + 1, 8, none⟩ (.int .i64 0) = Wd := set_same hR2 rfl
 have z9 : Wd.setCell ⟨w.heap.size + 1, 9, none⟩ (.slice none 0 0) = Wd := set_same hR2 rfl
 clear hR2 hWd
 go_wp2_with fail
 exact bodyPost_ret (v := .tuple #[.agg #[.int .i64 0, .int .i64 0, .slice none 0 0, .int .i64 0, .string ⟨#[]⟩, .int .i64 0, .int .i64 0, .slice none 0 0, .int .i64 0, .slice none 0 0], .int .i64 102]) (by simp [results, Tryz.f10, go_sem, r0, r1, r2, r3, r4, r5, r6, r7, r8, r9]) rfl (.zero ⟨rfl, HB0.out.trans (HBd.out.mono HB0.out.size)⟩)
set_option maxRecDepth 100000 in
set_option maxHeartbeats 4000000 in
theorem ref10_Lower_ok {x : Sk} {s : SS} {w : World} (hx : s.At w.heap.size w x) (hl : x.lim) (ok : skOk x = true) (hb : x.level ≠ bottomB x.kind) :
  Calls Tryz.prog 10 #[.agg #[.int .i64 x.kind, .int .i64 x.level, .slice s.ea s.el s.ec, .int .i64 x.hb, .string x.hr, .int .i64 x.cr, .int .i64 x.cc, .slice s.ca s.cl s.cc, .int .i64 x.gf, .slice s.ga s.gl s.gc]] w (SkP (skLow x, 0) w) := by
 have HL : Hid (∀ W, Below w.heap.size w W → Calls Tryz.prog 35 #[.agg #[.int .i64 x.kind, .int .i64 x.level, .slice s.ea s.el s.ec, .int .i64 x.hb, .string x.hr, .int .i64 x.cr, .int .i64 x.cc, .slice s.ca s.cl s.cc, .int .i64 x.gf, .slice s.ga s.gl s.gc]] W (LowP (skLow x) W)) := fun W h => ref10_low_S (hx.go h) hl ok hb
 have HBT : Hid (∀ W, Calls Tryz.prog 22 #[.int .i64 x.kind] W fun e w' => e = .returned (.int .i64 (bottomB x.kind)) ∧ w' = W) := fun W => (ref10_Bottom_any x.kind W).mono fun e w' ⟨h1, h2⟩ => ⟨h1, h2.symm⟩
 have hbb : (x.level == bottomB x.kind) = false := by rw [beq_eq_false_iff_ne]; exact hb
 generalize bottomB x.kind = bt at HBT hbb hb
 generalize skLow x = y at HL ⊢
 obtain ⟨W0, hW0, hX0, hXr, hB0, hs0⟩ := boxes2 w #[.int .i64 x.kind, .int .i64 x.level, .slice s.ea s.el s.ec, .int .i64 x.hb, .string x.hr, .int .i64 x.cr, .int .i64 x.cc, .slice s.ca s.cl s.cc, .int .i64 x.gf, .slice s.ga s.gl s.gc] 33 #[.int .i64 0, .int .i64 0, .slice none 0 0, .int .i64 0, .string ⟨#[]⟩, .int .i64 0, .int .i64 0, .slice none 0 0, .int .i64 0, .slice none 0 0] 33
 have HX : Hid (∀ W, Below W0.heap.size W0 W → W.heap[w.heap.size]? = some (.cells #[.int .i64 x.kind, .int .i64 x.level, .slice s.ea s.el s.ec, .int .i64 x.hb, .string x.hr, .int .i64 x.cr, .int .i64 x.cc, .slice s.ca s.cl s.cc, .int .i64 x.gf, .slice s.ga s.gl s.gc] 33 (0, 0)) ∧ W.heap[w.heap.size + 1]? = some (.cells #[.int .i64 0, .int .i64 0, .slice none 0 0, .int .i64 0, .string ⟨#[]⟩, .int .i64 0, .int .i64 0, .slice none 0 0, .int .i64 0, .slice none 0 0] 33 (0, 0))) := fun W hb => ⟨known hb (Nat.le_refl _) hX0, known hb (Nat.le_refl _) hXr⟩
 have hRt := ref10_Right_any x s W0 (hx.go hB0) hl.e hl.cc hl.g
 rw [ok] at hRt
 clear hb
 have HB0 := Lib.hid hB0
 have HS0 : Hid (W0.heap.size = w.heap.size + 2) := hs0
 obtain ⟨c0, c1, c2, c3, c4, c5, c6, c7, c8, c9⟩ := cl10 hX0
 clear hX0 hXr hB0 hx hl ok hs0
 go_enter Tryz.func10, Tryz.ntmps10
 go_wp2_with fail
 refine hRt.mono ?_
 rintro e w1 ⟨rfl, hb1⟩
 obtain ⟨hX1, hR1⟩ := HX.out w1 hb1
 obtain ⟨d0, d1, d2, d3, d4, d5, d6, d7, d8, d9⟩ := cl10 hX1
 have HB1 := Lib.hid hb1
 clear hRt c0 c1 c2 c3 c4 c5 c6 c7 c8 c9
 clear hX1 hR1 hb1
 go_wp2_with fail
 go_quiet ((go_at_call 22; exact Calls.quiet_of_same (HBT.out _)))
 obtain ⟨Wd, hWd⟩ : ∃ Wd, w1.drewN nq = Wd := ⟨_, rfl⟩
 have HBd : Hid (Below W0.heap.size W0 Wd) := by rw [← hWd]; exact bDr HB1.out _
 rw [hWd]
 obtain ⟨hX2, -⟩ := HX.out Wd HBd.out
 obtain ⟨e0, e1, e2, e3, e4, e5, e6, e7, e8, e9⟩ := cl10 hX2
 clear hX2 hWd d0 d1 d2 d3 d4 d5 d6 d7 d8 d9
 go_wp2_with fail
 refine (HL.out Wd (HB0.out.trans (HBd.out.mono HB0.out.size))).mono ?_
 rintro e w3 ⟨p, rfl, hA3, hb3⟩
 have hb03 := HBd.out.trans (hb3.mono HBd.out.size)
 obtain ⟨-, hR3⟩ := HX.out w3 hb03
 obtain ⟨r0, r1, r2, r3, r4, r5, r6, r7, r8, r9⟩ := cl10 hR3
 obtain ⟨g0, g1, g2, g3, g4, g5, g6, g7, g8, g9⟩ := cz10 hR3
 obtain ⟨U, hU, hUX, hUO, hUB⟩ := store10 (.int .i64 y.kind) (.int .i64 y.level) (.slice p.ea p.el p.ec) (.int .i64 y.hb) (.string y.hr) (.int .i64 y.cr) (.int .i64 y.cc) (.slice p.ca p.cl p.cc) (.int .i64 y.gf) (.slice p.ga p.gl p.gc) hR3
 obtain ⟨k0, k1, k2, k3, k4, k5, k6, k7, k8, k9⟩ := cl10 hUX
 have HAU := Lib.hid (hA3.apart hR3 (fun i u => noU_zero u) hUO)
 have HBU : Hid (Below w.heap.size w U) := hUB _ _ (HB0.out.trans (hb03.mono HB0.out.size)) (Nat.le_succ _)
 clear hA3 hb3 hb03 hR3 hUX hUO hUB
 go_wp2_with fail
 exact bodyPost_ret (v := .tuple #[.agg #[.int .i64 y.kind, .int .i64 y.level, .slice p.ea p.el p.ec, .int .i64 y.hb, .string y.hr, .int .i64 y.cr, .int .i64 y.cc, .slice p.ca p.cl p.cc, .int .i64 y.gf, .slice p.ga p.gl p.gc], .int .i64 0]) (by simp [results, Tryz.f10, go_sem, k0, k1, k2, k3, k4, k5, k6, k7, k8, k9]) rfl ⟨p, rfl, HAU.out, HBU.out⟩
theorem ref10_Lower_S {x : Sk} {s : SS} {w : World} (hx : s.At w.heap.size w x) (hl : x.lim) :
  Calls Tryz.prog 10 #[.agg #[.int .i64 x.kind, .int .i64 x.level, .slice s.ea s.el s.ec, .int .i64 x.hb, .string x.hr, .int .i64 x.cr, .int .i64 x.cc, .slice s.ca s.cl s.cc, .int .i64 x.gf, .slice s.ga s.gl s.gc]] w (SkP (lowS x) w) := by
 unfold lowS
 cases ok : skOk x with
 | false => exact ref10_Lower_no hx hl ok
 | true =>
  simp only [if_true]
  by_cases hb : x.level = bottomB x.kind
  ·rw [if_pos hb]; exact ref10_Lower_bot hx hl ok hb
  ·rw [if_neg hb]; exact ref10_Lower_ok hx hl ok hb
set_option maxRecDepth 100000 in
set_option maxHeartbeats 4000000 in
theorem ref10_To_no {x : Sk} {s : SS} {w : World} (t : Int) (hx : s.At w.heap.size w x) (hl : x.lim) (ok : skOk x = false) :
  Calls Tryz.prog 12 #[.agg #[.int .i64 x.kind, .int .i64 x.level, .slice s.ea s.el s.ec, .int .i64 x.hb, .string x.hr, .int .i64 x.cr, .int .i64 x.cc, .slice s.ca s.cl s.cc, .int .i64 x.gf, .slice s.ga s.gl s.gc], .int .i64 t] w (SkP (zsk, 100) w) := by
 obtain ⟨W0, hW0, hX0, hXr, hB0, hs0⟩ := boxes2 w #[.int .i64 x.kind, .int .i64 x.level, .slice s.ea s.el s.ec, .int .i64 x.hb, .string x.hr, .int .i64 x.cr, .int .i64 x.cc, .slice s.ca s.cl s.cc, .int .i64 x.gf, .slice s.ga s.gl s.gc] 33 #[.int .i64 0, .int .i64 0, .slice none 0 0, .int .i64 0, .string ⟨#[]⟩, .int .i64 0, .int .i64 0, .slice none 0 0, .int .i64 0, .slice none 0 0] 33
 have HX : Hid (∀ W, Below W0.heap.size W0 W → W.heap[w.heap.size]? = some (.cells #[.int .i64 x.kind, .int .i64 x.level, .slice s.ea s.el s.ec, .int .i64 x.hb, .string x.hr, .int .i64 x.cr, .int .i64 x.cc, .slice s.ca s.cl s.cc, .int .i64 x.gf, .slice s.ga s.gl s.gc] 33 (0, 0)) ∧ W.heap[w.heap.size + 1]? = some (.cells #[.int .i64 0, .int .i64 0, .slice none 0 0, .int .i64 0, .string ⟨#[]⟩, .int .i64 0, .int .i64 0, .slice none 0 0, .int .i64 0, .slice none 0 0] 33 (0, 0))) := fun W hb => ⟨known hb (Nat.le_refl _) hX0, known hb (Nat.le_refl _) hXr⟩
 have hRt := ref10_Right_any x s W0 (hx.go hB0) hl.e hl.cc hl.g
 rw [ok] at hRt
 have HB0 := Lib.hid hB0
 have HS0 : Hid (W0.heap.size = w.heap.size + 2) := hs0
 obtain ⟨c0, c1, c2, c3, c4, c5, c6, c7, c8, c9⟩ := cl10 hX0
 clear hX0 hXr hB0 hx hl ok hs0
 go_enter Tryz.func12, Tryz.ntmps12
 go_wp2_with fail
 refine hRt.mono ?_
 rintro e w1 ⟨rfl, hb1⟩
 obtain ⟨hX1, hR1⟩ := HX.out w1 hb1
 obtain ⟨d0, d1, d2, d3, d4, d5, d6, d7, d8, d9⟩ := cl10 hX1
 have HB1 := Lib.hid hb1
 clear hRt c0 c1 c2 c3 c4 c5 c6 c7 c8 c9
 obtain ⟨r0, r1, r2, r3, r4, r5, r6, r7, r8, r9⟩ := cl10 hR1
 obtain ⟨g0, g1, g2, g3, g4, g5, g6, g7, g8, g9⟩ := cz10 hR1
 have z0 : w1.setCell ⟨w.heap.size + 1, 0, none⟩ (.int .i64 0) = w1 := set_same hR1 rfl
 have z1 : w1.setCell ⟨w.heap.size + 1, 1, none⟩ (.int .i64 0) = w1 := set_same hR1 rfl
 have z2 : w1.setCell ⟨w.heap.size + 1, 2, none⟩ (.slice none 0 0) = w1 := set_same hR1 rfl
 have z3 : w1.setCell ⟨w.heap.size + 1, 3, none⟩ (.int .i64 0) = w1 := set_same hR1 rfl
 have z4 : w1.setCell ⟨w.heap.size + 1, 4, none⟩ (.string ⟨#[]⟩) = w1 := set_same hR1 rfl
 have z5 : w1.setCell ⟨w.heap.size + 1, 5, none⟩ (.int .i64 0) = w1 := set_same hR1 rfl
 have z6 : w1.setCell ⟨w.heap.size + 1, 6, none⟩ (.int .i64 0) = w1 := set_same hR1 rfl
 have z7 : w1.setCell ⟨w.heap.size + 1, 7, none⟩ (.slice none 0 0) = w1 := set_same hR1 rfl
 have z8 : w1.setCell ⟨w.heap.size + 1, 8, none⟩ (.int .i64 0) = w1 := set_same hR1 rfl
 have z9 : w1.setCell ⟨w.heap.size + 1, 9, none⟩ (.slice none 0 0) = w1 := set_same hR1 rfl
 clear hX1 hR1 hb1
 go_wp2_with fail
 exact bodyPost_ret (v := .tuple #[.agg #[.int .i64 0, .int .i64 0, .slice none 0 0, .int .i64 0, .string ⟨#[]⟩, .int .i64 0, .int .i64 0, .slice none 0 0, .int .i64 0, .slice none 0 0], .int .i64 100]) (by simp [results, Tryz.f12, go_sem, r0, r1, r2, r3, r4, r5, r6, r7, r8, r9]) rfl (.zero ⟨rfl, HB0.out.trans (HB1.out.mono HB0.out.size)⟩)
set_option maxRecDepth 100000 in
set_option maxHeartbeats 4000000 in
theorem ref10_To_above {x : Sk} {s : SS} {w : World} (t : Int) (hx : s.At w.heap.size w x) (hl : x.lim) (ok : skOk x = true) (hb : bottomB x.kind < t) :
  Calls Tryz.prog 12 #[.agg #[.int .i64 x.kind, .int .i64 x.level, .slice s.ea s.el s.ec, .int .i64 x.hb, .string x.hr, .int .i64 x.cr, .int .i64 x.cc, .slice s.ca s.cl s.cc, .int .i64 x.gf, .slice s.ga s.gl s.gc], .int .i64 t] w (SkP (zsk, 102) w) := by
 have HBT : Hid (∀ W, Calls Tryz.prog 22 #[.int .i64 x.kind] W fun e w' => e = .returned (.int .i64 (bottomB x.kind)) ∧ w' = W) := fun W => (ref10_Bottom_any x.kind W).mono fun e w' ⟨h1, h2⟩ => ⟨h1, h2.symm⟩
 generalize bottomB x.kind = bt at HBT hb
 obtain ⟨W0, hW0, hX0, hXr, hB0, hs0⟩ := boxes2 w #[.int .i64 x.kind, .int .i64 x.level, .slice s.ea s.el s.ec, .int .i64 x.hb, .string x.hr, .int .i64 x.cr, .int .i64 x.cc, .slice s.ca s.cl s.cc, .int .i64 x.gf, .slice s.ga s.gl s.gc] 33 #[.int .i64 0, .int .i64 0, .slice none 0 0, .int .i64 0, .string ⟨#[]⟩, .int .i64 0, .int .i64 0, .slice none 0 0, .int .i64 0, .slice none 0 0] 33
 have HX : Hid (∀ W, Below W0.heap.size W0 W → W.heap[w.heap.size]? = some (.cells #[.int .i64 x.kind, .int .i64 x.level, .slice s.ea s.el s.ec, .int .i64 x.hb, .string x.hr, .int .i64 x.cr, .int .i64 x.cc, .slice s.ca s.cl s.cc, .int .i64 x.gf, .slice s.ga s.gl s.gc] 33 (0, 0)) ∧ W.heap[w.heap.size + 1]? = some (.cells #[.int .i64 0, .int .i64 0, .slice none 0 0, .int .i64 0, .string ⟨#[]⟩, .int .i64 0, .int .i64 0, .slice none 0 0, .int .i64 0, .slice none 0 0] 33 (0, 0))) := fun W hb => ⟨known hb (Nat.le_refl _) hX0, known hb (Nat.le_refl _) hXr⟩
 have hRt := ref10_Right_any x s W0 (hx.go hB0) hl.e hl.cc hl.g
 rw [ok] at hRt
 have HB0 := Lib.hid hB0
 have HS0 : Hid (W0.heap.size = w.heap.size + 2) := hs0
 obtain ⟨c0, c1, c2, c3, c4, c5, c6, c7, c8, c9⟩ := cl10 hX0
 clear hX0 hXr hB0 hx hl ok hs0
 go_enter Tryz.func12, Tryz.ntmps12
 go_wp2_with fail
 refine hRt.mono ?_
 rintro e w1 ⟨rfl, hb1⟩
 obtain ⟨hX1, hR1⟩ := HX.out w1 hb1
 obtain ⟨d0, d1, d2, d3, d4, d5, d6, d7, d8, d9⟩ := cl10 hX1
 have HB1 := Lib.hid hb1
 clear hRt c0 c1 c2 c3 c4 c5 c6 c7 c8 c9
 obtain ⟨r0, r1, r2, r3, r4, r5, r6, r7, r8, r9⟩ := cl10 hR1
 obtain ⟨g0, g1, g2, g3, g4, g5, g6, g7, g8, g9⟩ := cz10 hR1
 have z0 : w1.setCell ⟨w.heap.size + 1, 0, none⟩ (.int .i64 0) = w1 := set_same hR1 rfl
 have z1 : w1.setCell ⟨w.heap.size + 1, 1, none⟩ (.int .i64 0) = w1 := set_same hR1 rfl
 have z2 : w1.setCell ⟨w.heap.size + 1, 2, none⟩ (.slice none 0 0) = w1 := set_same hR1 rfl
 have z3 : w1.setCell ⟨w.heap.size + 1, 3, none⟩ (.int .i64 0) = w1 := set_same hR1 rfl
 have z4 : w1.setCell ⟨w.heap.size + 1, 4, none⟩ (.string ⟨#[]⟩) = w1 := set_same hR1 rfl
 have z5 : w1.setCell ⟨w.heap.size + 1, 5, none⟩ (.int .i64 0) = w1 := set_same hR1 rfl
 have z6 : w1.setCell ⟨w.heap.size + 1, 6, none⟩ (.int .i64 0) = w1 := set_same hR1 rfl
 have z7 : w1.setCell ⟨w.heap.size + 1, 7, none⟩ (.slice none 0 0) = w1 := set_same hR1 rfl
 have z8 : w1.setCell ⟨w.heap.size + 1, 8, none⟩ (.int .i64 0) = w1 := set_same hR1 rfl
 have z9 : w1.setCell ⟨w.heap.size + 1, 9, none⟩ (.slice none 0 0) = w1 := set_same hR1 rfl
 clear hX1 hR1 hb1
 go_wp2_with (go_at_call 22; refine (HBT.out _).mono ?_; rintro e w' ⟨rfl, h9⟩; subst w')
 exact bodyPost_ret (v := .tuple #[.agg #[.int .i64 0, .int .i64 0, .slice none 0 0, .int .i64 0, .string ⟨#[]⟩, .int .i64 0, .int .i64 0, .slice none 0 0, .int .i64 0, .slice none 0 0], .int .i64 102]) (by simp [results, Tryz.f12, go_sem, r0, r1, r2, r3, r4, r5, r6, r7, r8, r9]) rfl (.zero ⟨rfl, HB0.out.trans (HB1.out.mono HB0.out.size)⟩)
def lvAt (b : Nat) (w : World) : Int := match w.cell? ⟨b, 1, none⟩ with
 | some (.int _ n) => n
 | _ => 0
theorem wkTo_more {L t : Nat} {B : Bd} (h : L < t) : wkTo (L, B) t = wkTo (L + 1, B.low) t := by
 unfold wkTo
 obtain ⟨n, hn⟩ : ∃ n, t - L = n + 1 := ⟨t - L - 1, by omega⟩
 show wkDown (t - L) (L, B) = wkDown (t - (L + 1)) (L + 1, B.low)
 rw [hn, show t - (L + 1) = n by omega]
 rfl
theorem wkTo_none {L t : Nat} {B : Bd} (h : t ≤ L) : wkTo (L, B) t = (L, B) := by
 unfold wkTo
 show wkDown (t - L) (L, B) = (L, B)
 rw [show t - L = 0 by omega]
 rfl
set_option maxRecDepth 100000 in
set_option maxHeartbeats 4000000 in
theorem ref10_To_ok {x : Sk} {s : SS} {w : World} (t : Int) (hx : s.At w.heap.size w x) (hl : x.lim) (ok : skOk x = true) (hb : ¬ bottomB x.kind < t) :
  Calls Tryz.prog 12 #[.agg #[.int .i64 x.kind, .int .i64 x.level, .slice s.ea s.el s.ec, .int .i64 x.hb, .string x.hr, .int .i64 x.cr, .int .i64 x.cc, .slice s.ca s.cl s.cc, .int .i64 x.gf, .slice s.ga s.gl s.gc], .int .i64 t] w (SkP (skTo x t.toNat, 0) w) := by
 obtain ⟨k0', L0, B0, hxe, hB0'⟩ := hl.bd ok
 have HR : Hid (skTo x t.toNat = skOf k0' (wkTo (L0, B0) t.toNat).1 (wkTo (L0, B0) t.toNat).2) := by rw [hxe]; exact skTo_sk hB0' _
 have hbt : t ≤ (botN k0' : Int) := by rw [hxe, bot_sk hB0'] at hb; omega
 have hbt4 : botN k0' ≤ 4 := by unfold botN; split <;> omega
 generalize skTo x t.toNat = R at HR ⊢
 have HST : Hid (∀ (L : Nat) (B : Bd) (y y3 : Sk) (p : SS) W, y = skOf k0' L B → y3 = skOf k0' (L + 1) B.low → B.Ok k0' L → (L : Int) < t → p.At W.heap.size W y → Calls Tryz.prog 35 #[.agg #[.int .i64 y.kind, .int .i64 y.level, .slice p.ea p.el p.ec, .int .i64 y.hb, .string y.hr, .int .i64 y.cr, .int .i64 y.cc, .slice p.ca p.cl p.cc, .int .i64 y.gf, .slice p.ga p.gl p.gc]] W (LowP y3 W)) := fun L B y y3 p W hy hy3 hB hlt hA => by rw [hy3]; exact ref10_lower_any hB (by omega) y hy p W hA
 have HBdl : Hid (∀ (L : Nat) (B : Bd), B.Ok k0' L → (L : Int) < t → B.low.Ok k0' (L + 1)) := fun L B hB hlt => bd_low_ok hB (by omega)
 have HBT : Hid (∀ W, Calls Tryz.prog 22 #[.int .i64 x.kind] W fun e w' => e = .returned (.int .i64 (bottomB x.kind)) ∧ w' = W) := fun W => (ref10_Bottom_any x.kind W).mono fun e w' ⟨h1, h2⟩ => ⟨h1, h2.symm⟩
 generalize bottomB x.kind = bt at HBT hb
 obtain ⟨W0, hW0, hX0, hXr, hB0, hs0⟩ := boxes2 w #[.int .i64 x.kind, .int .i64 x.level, .slice s.ea s.el s.ec, .int .i64 x.hb, .string x.hr, .int .i64 x.cr, .int .i64 x.cc, .slice s.ca s.cl s.cc, .int .i64 x.gf, .slice s.ga s.gl s.gc] 33 #[.int .i64 0, .int .i64 0, .slice none 0 0, .int .i64 0, .string ⟨#[]⟩, .int .i64 0, .int .i64 0, .slice none 0 0, .int .i64 0, .slice none 0 0] 33
 have HX : Hid (∀ W, Below W0.heap.size W0 W → W.heap[w.heap.size]? = some (.cells #[.int .i64 x.kind, .int .i64 x.level, .slice s.ea s.el s.ec, .int .i64 x.hb, .string x.hr, .int .i64 x.cr, .int .i64 x.cc, .slice s.ca s.cl s.cc, .int .i64 x.gf, .slice s.ga s.gl s.gc] 33 (0, 0)) ∧ W.heap[w.heap.size + 1]? = some (.cells #[.int .i64 0, .int .i64 0, .slice none 0 0, .int .i64 0, .string ⟨#[]⟩, .int .i64 0, .int .i64 0, .slice none 0 0, .int .i64 0, .slice none 0 0] 33 (0, 0))) := fun W hb => ⟨known hb (Nat.le_refl _) hX0, known hb (Nat.le_refl _) hXr⟩
 have hRt := ref10_Right_any x s W0 (hx.go hB0) hl.e hl.cc hl.g
 rw [ok] at hRt
 have hA0 := hx.go hB0
 have HOk : Hid (Bd.Ok k0' L0 B0) := hB0'
 have HXE := Lib.hid hxe
 have HBT2 := Lib.hid hbt
 have HAW := Lib.hid hA0
 have HB0 := Lib.hid hB0
 have HS0 : Hid (W0.heap.size = w.heap.size + 2) := hs0
 obtain ⟨c0, c1, c2, c3, c4, c5, c6, c7, c8, c9⟩ := cl10 hX0
 clear hX0 hXr hB0 hx hl ok hs0 hA0 hB0' hxe
 go_enter Tryz.func12, Tryz.ntmps12
 go_wp2_with fail
 refine hRt.mono ?_
 rintro e w1 ⟨rfl, hb1⟩
 obtain ⟨hX1, hR1⟩ := HX.out w1 hb1
 obtain ⟨d0, d1, d2, d3, d4, d5, d6, d7, d8, d9⟩ := cl10 hX1
 have HB1 := Lib.hid hb1
 clear hRt c0 c1 c2 c3 c4 c5 c6 c7 c8 c9
 clear hX1 hR1 hb1
 go_wp2_with (go_at_call 22; refine (HBT.out _).mono ?_; rintro e w' ⟨rfl, h9⟩; subst w')
 go_loopw [] (fun wr => ∃ (L : Nat) (B : Bd) (y : Sk) (p : SS), Hid (y = skOf k0' L B) ∧ Hid (B.Ok k0' L) ∧ Hid (wkTo (L, B) t.toNat = wkTo (L0, B0) t.toNat) ∧ y.level = (L : Int) ∧ L ≤ 4 ∧ Hid (wr.heap[w.heap.size]? = some (.cells #[.int .i64 y.kind, .int .i64 y.level, .slice p.ea p.el p.ec, .int .i64 y.hb, .string y.hr, .int .i64 y.cr, .int .i64 y.cc, .slice p.ca p.cl p.cc, .int .i64 y.gf, .slice p.ga p.gl p.gc] 33 (0, 0))) ∧ Hid (p.At wr.heap.size wr y) ∧ Hid (wr.heap[w.heap.size + 1]? = some (.cells #[.int .i64 0, .int .i64 0, .slice none 0 0, .int .i64 0, .string ⟨#[]⟩, .int .i64 0, .int .i64 0, .slice none 0 0, .int .i64 0, .slice none 0 0] 33 (0, 0))) ∧ Hid (Below w.heap.size w wr)) (fun wr => (t - lvAt w.heap.size wr).toNat)
 case atStart =>
  obtain ⟨h1, h2⟩ := HX.out w1 HB1.out
  have h3 := HXE.out
  exact ⟨L0, B0, x, s, h3, HOk.out, rfl, by rw [h3]; exact (skOf_kind _ _ _).2, by have := ok_bot HOk.out; omega, h1, HAW.out.go HB1.out, h2, HB0.out.trans (HB1.out.mono HB0.out.size)⟩
 case round =>
  obtain ⟨L, B, y, p, HY, HBk, HW, hlv, hL4, HXb, HA, HRb, HBw⟩ := hrel
  have hXb := HXb.out
  obtain ⟨u0, u1, u2, u3, u4, u5, u6, u7, u8, u9⟩ := cl10 hXb
  have hlev : lvAt w.heap.size wr = (L : Int) := by unfold lvAt; rw [u1]; exact hlv
  have HLev := Lib.hid hlev
  have HLv := Lib.hid hlv
  by_cases hlt : (L : Int) < t
  ·have hlt2 : y.level < t := by rw [hlv]; exact hlt
   obtain ⟨y3, hy3⟩ : ∃ y3, y3 = skOf k0' (L + 1) B.low := ⟨_, rfl⟩
   have HY3 := Lib.hid hy3
   have HLt := Lib.hid hlt
   clear hlev hlv hy3 hXb hlt
   go_wp2_with fail
   refine (HST.out L B y y3 p _ HY.out HY3.out HBk.out HLt.out HA.out).mono ?_
   rintro e w3 ⟨p3, rfl, hA3, hb3⟩
   have hX3 := known hb3 (Nat.le_refl _) HXb.out
   have hR3 := known hb3 (Nat.le_refl _) HRb.out
   obtain ⟨v0, v1, v2, v3, v4, v5, v6, v7, v8, v9⟩ := cl10 hX3
   obtain ⟨g0, g1, g2, g3, g4, g5, g6, g7, g8, g9⟩ := cz10 hX3
   obtain ⟨V, hV, hVX, hVO, hVB⟩ := store10 (.int .i64 y3.kind) (.int .i64 y3.level) (.slice p3.ea p3.el p3.ec) (.int .i64 y3.hb) (.string y3.hr) (.int .i64 y3.cr) (.int .i64 y3.cc) (.slice p3.ca p3.cl p3.cc) (.int .i64 y3.gf) (.slice p3.ga p3.gl p3.gc) hX3
   have HVX := Lib.hid hVX
   have HA3 := Lib.hid (hA3.apart hX3 (noU10 _ _ _ _ _ _ _ _ _ _ _ _ _ _ _ _) hVO)
   have HR3 := Lib.hid ((hVO.2 (w.heap.size + 1) (by omega)).trans hR3)
   have HBV : Hid (Below w.heap.size w V) := hVB _ _ (HBw.out.trans (hb3.mono HBw.out.size)) (Nat.le_refl _)
   clear hX3 hR3 hVX hVO hVB hA3 hb3
   go_wp2_with fail
   go_roundw
   case rel => exact ⟨L + 1, B.low, y3, p3, HY3.out, HBdl.out L B HBk.out HLt.out, by rw [← HW.out]; exact (wkTo_more (by have := HLt.out; omega)).symm, by rw [HY3.out]; exact (skOf_kind _ _ _).2, by have := HLt.out; have := HBT2.out; omega, HVX.out, HA3.out, HR3.out, HBV.out⟩
   case measure =>
    have h1 : lvAt w.heap.size V = (L : Int) + 1 := by
     unfold lvAt
     rw [cCc HVX.out 1]
     show y3.level = _
     rw [HY3.out]
     exact (skOf_kind _ _ _).2
    have h2 := HLt.out
    rw [h1, HLev.out]
    omega
  ·have hlt2 : ¬ y.level < t := by rw [hlv]; exact hlt
   have hRy : R = y := by rw [HR.out, ← HW.out, wkTo_none (by omega), HY.out]
   have HRy := Lib.hid hRy
   have hRb := HRb.out
   obtain ⟨r0, r1, r2, r3, r4, r5, r6, r7, r8, r9⟩ := cl10 hRb
   obtain ⟨g0, g1, g2, g3, g4, g5, g6, g7, g8, g9⟩ := cz10 hRb
   obtain ⟨U, hU, hUX, hUO, hUB⟩ := store10 (.int .i64 y.kind) (.int .i64 y.level) (.slice p.ea p.el p.ec) (.int .i64 y.hb) (.string y.hr) (.int .i64 y.cr) (.int .i64 y.cc) (.slice p.ca p.cl p.cc) (.int .i64 y.gf) (.slice p.ga p.gl p.gc) hRb
   obtain ⟨k0, k1, k2, k3, k4, k5, k6, k7, k8, k9⟩ := cl10 hUX
   have HAU := Lib.hid (HA.out.apart hRb (fun i u => noU_zero u) hUO)
   have HBU : Hid (Below w.heap.size w U) := hUB _ _ HBw.out (Nat.le_succ _)
   clear hlev hlv hXb hlt hRy hRb hUX hUO hUB
   go_wp2_with fail
   exact bodyPost_ret (v := .tuple #[.agg #[.int .i64 y.kind, .int .i64 y.level, .slice p.ea p.el p.ec, .int .i64 y.hb, .string y.hr, .int .i64 y.cr, .int .i64 y.cc, .slice p.ca p.cl p.cc, .int .i64 y.gf, .slice p.ga p.gl p.gc], .int .i64 0]) (by simp [results, Tryz.f12, go_sem, k0, k1, k2, k3, k4, k5, k6, k7, k8, k9]) rfl ⟨p, by rw [HRy.out], by rw [HRy.out]; exact HAU.out, HBU.out⟩
theorem ref10_To_S {x : Sk} {s : SS} {w : World} (t : Int) (hx : s.At w.heap.size w x) (hl : x.lim) :
  Calls Tryz.prog 12 #[.agg #[.int .i64 x.kind, .int .i64 x.level, .slice s.ea s.el s.ec, .int .i64 x.hb, .string x.hr, .int .i64 x.cr, .int .i64 x.cc, .slice s.ca s.cl s.cc, .int .i64 x.gf, .slice s.ga s.gl s.gc], .int .i64 t] w (SkP (toS x t) w) := by
 unfold toS
 cases ok : skOk x with
 | false => exact ref10_To_no t hx hl ok
 | true =>
  simp only [if_true]
  by_cases hb : bottomB x.kind < t
  ·rw [if_pos hb]; exact ref10_To_above t hx hl ok hb
  ·rw [if_neg hb]; exact ref10_To_ok t hx hl ok hb
end Go.Proofs.YtcbbenncdainfaaGreatDoor

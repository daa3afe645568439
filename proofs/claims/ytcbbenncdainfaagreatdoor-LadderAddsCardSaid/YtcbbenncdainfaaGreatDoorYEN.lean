/- The reference of layer 10: Cost, Ask, at any sketch. Printed by gen_ep.py. Laws of layer 10: shown. aviarylaw10.LadderAdds answers true. Printed by gen_en.py. -/
import Derived.Test.YtcbbenncdainfaaGreatDoorYDM
namespace Go.Proofs.YtcbbenncdainfaaGreatDoor
open Go Go.RowKit Go.Shelf
set_option maxRecDepth 100000 in
set_option maxHeartbeats 8000000 in
theorem ref10_Cost_no {x : Sk} {s : SS} {w : World} (hx : s.At w.heap.size w x) (hl : x.lim) (ok : skOk x = false) :
  Calls Tryz.prog 24 #[.agg #[.int .i64 x.kind, .int .i64 x.level, .slice s.ea s.el s.ec, .int .i64 x.hb, .string x.hr, .int .i64 x.cr, .int .i64 x.cc, .slice s.ca s.cl s.cc, .int .i64 x.gf, .slice s.ga s.gl s.gc]] w fun e w' => e = .returned (.int .i64 0) ∧ Below w.heap.size w w' := by
 obtain ⟨W0, hW0, hX0, hB0, hs0⟩ := boxes1 w #[.int .i64 x.kind, .int .i64 x.level, .slice s.ea s.el s.ec, .int .i64 x.hb, .string x.hr, .int .i64 x.cr, .int .i64 x.cc, .slice s.ca s.cl s.cc, .int .i64 x.gf, .slice s.ga s.gl s.gc] 33
 have hRt := ref10_Right_any x s W0 (hx.go hB0) hl.e hl.cc hl.g
 rw [ok] at hRt
 have HB0 := Lib.hid hB0
 obtain ⟨c0, c1, c2, c3, c4, c5, c6, c7, c8, c9⟩ := cl10 hX0
 clear hX0 hB0 hx hl ok hs0
 go_enter Tryz.func24, Tryz.ntmps24
 go_wp2_with fail
 refine hRt.mono ?_
 rintro e w1 ⟨rfl, hb1⟩
 have HB1 := Lib.hid hb1
 clear hRt hb1
 go_wp2_with fail
 go_ret
 exact ⟨rfl, HB0.out.trans (HB1.out.mono HB0.out.size)⟩
set_option maxRecDepth 100000 in
set_option maxHeartbeats 8000000 in
theorem ref10_Cost_ok {x : Sk} {s : SS} {w : World} (hx : s.At w.heap.size w x) (hl : x.lim) (ok : skOk x = true) (b1 : s.el ≤ 1000) (b2 : x.hr.size ≤ 1000) (b3 : s.cl ≤ 1000) (b4 : s.gl ≤ 1000) :
  Calls Tryz.prog 24 #[.agg #[.int .i64 x.kind, .int .i64 x.level, .slice s.ea s.el s.ec, .int .i64 x.hb, .string x.hr, .int .i64 x.cr, .int .i64 x.cc, .slice s.ca s.cl s.cc, .int .i64 x.gf, .slice s.ga s.gl s.gc]] w fun e w' => e = .returned (.int .i64 (16 + 8 * (s.el : Int) + (x.hr.size : Int) + 8 * (s.cl : Int) + 16 * (s.gl : Int))) ∧ Below w.heap.size w w' := by
 obtain ⟨W0, hW0, hX0, hB0, hs0⟩ := boxes1 w #[.int .i64 x.kind, .int .i64 x.level, .slice s.ea s.el s.ec, .int .i64 x.hb, .string x.hr, .int .i64 x.cr, .int .i64 x.cc, .slice s.ca s.cl s.cc, .int .i64 x.gf, .slice s.ga s.gl s.gc] 33
 have hRt := ref10_Right_any x s W0 (hx.go hB0) hl.e hl.cc hl.g
 rw [ok] at hRt
 have HX0 := Lib.hid hX0
 have HB0 := Lib.hid hB0
 obtain ⟨c0, c1, c2, c3, c4, c5, c6, c7, c8, c9⟩ := cl10 hX0
 clear hX0 hB0 hx hl ok hs0
 go_enter Tryz.func24, Tryz.ntmps24
 go_wp2_with fail
 refine hRt.mono ?_
 rintro e w1 ⟨rfl, hb1⟩
 have hX1 := known hb1 (Nat.le_refl _) HX0.out
 obtain ⟨d0, d1, d2, d3, d4, d5, d6, d7, d8, d9⟩ := cl10 hX1
 have HB1 := Lib.hid hb1
 clear hRt hb1 hX1 c0 c1 c2 c3 c4 c5 c6 c7 c8 c9
 go_wp2_with fail
 go_ret
 refine ⟨?_, HB0.out.trans (HB1.out.mono HB0.out.size)⟩
 show Ending.returned (Value.int .i64 _) = Ending.returned (Value.int .i64 _)
 congr 2
theorem costs_sk {k L : Nat} {B : Bd} (hB : B.Ok k L) : 16 + 8 * ((skOf k L B).e.length : Int) + ((skOf k L B).hr.size : Int) + 8 * ((skOf k L B).cl.length : Int) + 16 * ((skOf k L B).gl.length : Int) = (bdCost B : Int) + 16 := by
 cases B with
 | num l => show 16 + 8 * (l.length : Int) + 0 + 8 * 0 + 16 * 0 = ((8 * l.length : Nat) : Int) + 16; omega
 | reg b r => show 16 + 8 * 0 + ((hlStr r).size : Int) + 8 * 0 + 16 * 0 = (r.length : Int) + 16; rw [hlStr_size]; omega
 | cnt c l => show 16 + 8 * 0 + 0 + 8 * (l.length : Int) + 16 * 0 = ((8 * l.length : Nat) : Int) + 16; omega
 | bkt f l => show 16 + 8 * 0 + 0 + 8 * 0 + 16 * (l.length : Int) = ((16 * l.length : Nat) : Int) + 16; omega
theorem sizes_sk {k L : Nat} {B : Bd} (hB : B.Ok k L) : (skOf k L B).e.length ≤ 1000 ∧ (skOf k L B).hr.size ≤ 1000 ∧ (skOf k L B).cl.length ≤ 1000 ∧ (skOf k L B).gl.length ≤ 1000 := by
 cases B with
 | num l => exact ⟨by have := hB.2.2.2.1; show l.length ≤ _; omega, Nat.zero_le _, Nat.zero_le _, Nat.zero_le _⟩
 | reg b r =>
  obtain ⟨-, g2, g3, g4, g5, -⟩ := hB
  have : 2 ^ b ≤ 2 ^ 8 := Nat.pow_le_pow_right (by omega) (by omega)
  exact ⟨Nat.zero_le _, by show (hlStr r).size ≤ _; rw [hlStr_size]; omega, Nat.zero_le _, Nat.zero_le _⟩
 | cnt c l =>
  obtain ⟨-, g2, g3, g4, -⟩ := hB
  have : c ≤ 32 := by
   have := Nat.le_mul_of_pos_right c (Nat.two_pow_pos L)
   omega
  exact ⟨Nat.zero_le _, Nat.zero_le _, by show l.length ≤ _; omega, Nat.zero_le _⟩
 | bkt f l =>
  obtain ⟨-, g2, g3, g4, g5, g6, g7⟩ := hB
  have := (BkR.mk (by omega) g4 g5 g6 g7 : BkR f l).len
  exact ⟨Nat.zero_le _, Nat.zero_le _, Nat.zero_le _, by show l.length ≤ _; omega⟩
theorem ref10_Cost_S {x : Sk} {s : SS} {w : World} (hx : s.At w.heap.size w x) (hl : x.lim) :
  Calls Tryz.prog 24 #[.agg #[.int .i64 x.kind, .int .i64 x.level, .slice s.ea s.el s.ec, .int .i64 x.hb, .string x.hr, .int .i64 x.cr, .int .i64 x.cc, .slice s.ca s.cl s.cc, .int .i64 x.gf, .slice s.ga s.gl s.gc]] w fun e w' => e = .returned (.int .i64 (costOf x)) ∧ Below w.heap.size w w' := by
 cases ok : skOk x with
 | false =>
  have : costOf x = 0 := by unfold costOf; rw [ok]; rfl
  rw [this]
  exact ref10_Cost_no hx hl ok
 | true =>
  obtain ⟨k, L, B, hxe, hB⟩ := hl.bd ok
  have h1 := hx.e.1.1
  have h2 := hx.c.1.1
  have h3 := hx.g.1.1
  obtain ⟨z1, z2, z3, z4⟩ := sizes_sk hB
  rw [← hxe] at z1 z2 z3 z4
  have h := ref10_Cost_ok hx hl ok (by omega) z2 (by omega) (by omega)
  have hc := costs_sk hB
  rw [← hxe, ← h1, ← h2, ← h3] at hc
  rw [hc] at h
  rw [hxe, costOf_sk hB, ← hxe]
  exact h
set_option maxRecDepth 100000 in
set_option maxHeartbeats 8000000 in
theorem ref10_Ask_num (l : List Int) (n : Nat) (s : SS) (w : World) (hA : s.At w.heap.size w (skNum 1 0 l : Sk)) (hB : Bd.Ok 1 0 (.num l)) (_ : n < 2 ^ 64) :
  Calls Tryz.prog 26 #[.agg #[.int .i64 1, .int .i64 0, .slice s.ea s.el s.ec, .int .i64 0, .string ⟨#[]⟩, .int .i64 0, .int .i64 0, .slice s.ca s.cl s.cc, .int .i64 0, .slice s.ga s.gl s.gc], .int .u64 n] w fun e w' => e = .returned (.int .u64 (l.length : Int)) ∧ Below w.heap.size w w' := by
 obtain ⟨W0, hW0, hX0, hB0, hs0⟩ := boxes1 w #[.int .i64 1, .int .i64 0, .slice s.ea s.el s.ec, .int .i64 0, .string ⟨#[]⟩, .int .i64 0, .int .i64 0, .slice s.ca s.cl s.cc, .int .i64 0, .slice s.ga s.gl s.gc] 33
 have hRt : Calls Tryz.prog 20 #[.agg #[.int .i64 1, .int .i64 0, .slice s.ea s.el s.ec, .int .i64 0, .string ⟨#[]⟩, .int .i64 0, .int .i64 0, .slice s.ca s.cl s.cc, .int .i64 0, .slice s.ga s.gl s.gc]] W0 fun e w' => e = .returned (.bool true) ∧ Below W0.heap.size W0 w' := ref10_Right_ok (x := skNum 1 0 l) hB rfl (hA.go hB0)
 obtain ⟨-, -, hu1, hu2, hu⟩ := id hB
 have HO : Hid (∀ W, Below W0.heap.size W0 W → Calls Tryz.prog 58 #[.agg #[.slice s.ea s.el s.ec]] W fun e w' => e = .returned (.int .u64 l.length) ∧ Below W.heap.size W w') := fun W hb => ref06_Count_any l _ _ _ W ((hA.go hB0).go hb).e (up_right l hu1 hu2) hu
 clear hu1 hu2 hu
 have HX0 := Lib.hid hX0
 have HB0 := Lib.hid hB0
 obtain ⟨c0, c1, c2, c3, c4, c5, c6, c7, c8, c9⟩ := cl10 hX0
 clear hX0 hB0 hA hs0 hB
 go_enter Tryz.func26, Tryz.ntmps26
 go_wp2_with fail
 refine hRt.mono ?_
 rintro e w1 ⟨rfl, hb1⟩
 have hX1 := known hb1 (Nat.le_refl _) HX0.out
 obtain ⟨d0, d1, d2, d3, d4, d5, d6, d7, d8, d9⟩ := cl10 hX1
 have HB1 := Lib.hid hb1
 clear hRt hb1 hX1 c0 c1 c2 c3 c4 c5 c6 c7 c8 c9
 go_wp2_with fail
 refine (HO.out w1 HB1.out).mono ?_
 rintro e w2 ⟨rfl, hb2⟩
 have HB2 : Hid (Below w.heap.size w w2) := HB0.out.trans ((HB1.out.trans (hb2.mono HB1.out.size)).mono HB0.out.size)
 clear hb2
 go_wp2_with fail
 go_ret
 exact ⟨rfl, HB2.out⟩
set_option maxRecDepth 100000 in
set_option maxHeartbeats 8000000 in
theorem ref10_Ask_reg (L b : Nat) (r : List Nat) (n : Nat) (s : SS) (w : World) (hA : s.At w.heap.size w (skReg 1 L b (hlStr r) : Sk)) (hB : Bd.Ok 1 L (.reg b r)) (_ : n < 2 ^ 64) :
  Calls Tryz.prog 26 #[.agg #[.int .i64 1, .int .i64 L, .slice s.ea s.el s.ec, .int .i64 b, .string (hlStr r), .int .i64 0, .int .i64 0, .slice s.ca s.cl s.cc, .int .i64 0, .slice s.ga s.gl s.gc], .int .u64 n] w fun e w' => e = .returned (.int .u64 ((hlCount b (hlStr r) : Nat) : Int)) ∧ Below w.heap.size w w' := by
 obtain ⟨W0, hW0, hX0, hB0, hs0⟩ := boxes1 w #[.int .i64 1, .int .i64 L, .slice s.ea s.el s.ec, .int .i64 b, .string (hlStr r), .int .i64 0, .int .i64 0, .slice s.ca s.cl s.cc, .int .i64 0, .slice s.ga s.gl s.gc] 33
 have hRt : Calls Tryz.prog 20 #[.agg #[.int .i64 1, .int .i64 L, .slice s.ea s.el s.ec, .int .i64 b, .string (hlStr r), .int .i64 0, .int .i64 0, .slice s.ca s.cl s.cc, .int .i64 0, .slice s.ga s.gl s.gc]] W0 fun e w' => e = .returned (.bool true) ∧ Below W0.heap.size W0 w' := ref10_Right_ok (x := skReg 1 L b (hlStr r)) hB rfl (hA.go hB0)
 obtain ⟨-, hL1, hL4, hb8, hl, hr⟩ := id hB
 have HO : Hid (∀ W, Below W0.heap.size W0 W → Calls Tryz.prog 59 #[.agg #[.int .i64 b, .string (hlStr r)]] W fun e w' => e = .returned (.int .u64 (hlCount b (hlStr r) : Nat)) ∧ Below W.heap.size W w') := fun W hb => ref07_Count_any b r W (by omega) (by omega) hl hr
 have t0 : ((L : Int) == 0) = false := by rw [beq_eq_false_iff_ne]; omega
 clear hl hr
 have HX0 := Lib.hid hX0
 have HB0 := Lib.hid hB0
 obtain ⟨c0, c1, c2, c3, c4, c5, c6, c7, c8, c9⟩ := cl10 hX0
 clear hX0 hB0 hA hs0 hB
 go_enter Tryz.func26, Tryz.ntmps26
 go_wp2_with fail
 refine hRt.mono ?_
 rintro e w1 ⟨rfl, hb1⟩
 have hX1 := known hb1 (Nat.le_refl _) HX0.out
 obtain ⟨d0, d1, d2, d3, d4, d5, d6, d7, d8, d9⟩ := cl10 hX1
 have HB1 := Lib.hid hb1
 clear hRt hb1 hX1 c0 c1 c2 c3 c4 c5 c6 c7 c8 c9
 go_wp2_with fail
 refine (HO.out w1 HB1.out).mono ?_
 rintro e w2 ⟨rfl, hb2⟩
 have HB2 : Hid (Below w.heap.size w w2) := HB0.out.trans ((HB1.out.trans (hb2.mono HB1.out.size)).mono HB0.out.size)
 clear hb2
 go_wp2_with fail
 go_ret
 exact ⟨rfl, HB2.out⟩
set_option maxRecDepth 100000 in
set_option maxHeartbeats 8000000 in
theorem ref10_Ask_cnt (L c : Nat) (l : List Int) (n : Nat) (s : SS) (w : World) (hA : s.At w.heap.size w (skCnt 2 L 2 c l : Sk)) (hB : Bd.Ok 2 L (.cnt c l)) (hn : n < 2 ^ 64) :
  Calls Tryz.prog 26 #[.agg #[.int .i64 2, .int .i64 L, .slice s.ea s.el s.ec, .int .i64 0, .string ⟨#[]⟩, .int .i64 2, .int .i64 c, .slice s.ca s.cl s.cc, .int .i64 0, .slice s.ga s.gl s.gc], .int .u64 n] w fun e w' => e = .returned (.int .u64 (cmCount c l n)) ∧ Below w.heap.size w w' := by
 obtain ⟨W0, hW0, hX0, hB0, hs0⟩ := boxes1 w #[.int .i64 2, .int .i64 L, .slice s.ea s.el s.ec, .int .i64 0, .string ⟨#[]⟩, .int .i64 2, .int .i64 c, .slice s.ca s.cl s.cc, .int .i64 0, .slice s.ga s.gl s.gc] 33
 have hRt : Calls Tryz.prog 20 #[.agg #[.int .i64 2, .int .i64 L, .slice s.ea s.el s.ec, .int .i64 0, .string ⟨#[]⟩, .int .i64 2, .int .i64 c, .slice s.ca s.cl s.cc, .int .i64 0, .slice s.ga s.gl s.gc]] W0 fun e w' => e = .returned (.bool true) ∧ Below W0.heap.size W0 w' := ref10_Right_ok (x := skCnt 2 L 2 c l) hB rfl (hA.go hB0)
 obtain ⟨-, hL3, hc, hl, hu⟩ := id hB
 have hc4 : c = 4 ∨ c = 8 ∨ c = 16 ∨ c = 32 := by rcases (by omega : L = 0 ∨ L = 1 ∨ L = 2 ∨ L = 3) with rfl | rfl | rfl | rfl <;> omega
 have HO : Hid (∀ W, Below W0.heap.size W0 W → Calls Tryz.prog 60 #[.agg #[.int .i64 2, .int .i64 c, .slice s.ca s.cl s.cc], .int .u64 n] W fun e w' => e = .returned (.int .u64 (cmCount c l n)) ∧ Below W.heap.size W w') := fun W hb => ref08_Count_any c n l _ _ _ W hc4 ((hA.go hB0).go hb).c hl hu hn
 clear hl hu hc hc4
 have HX0 := Lib.hid hX0
 have HB0 := Lib.hid hB0
 obtain ⟨c0, c1, c2, c3, c4, c5, c6, c7, c8, c9⟩ := cl10 hX0
 clear hX0 hB0 hA hs0 hB
 go_enter Tryz.func26, Tryz.ntmps26
 go_wp2_with fail
 refine hRt.mono ?_
 rintro e w1 ⟨rfl, hb1⟩
 have hX1 := known hb1 (Nat.le_refl _) HX0.out
 obtain ⟨d0, d1, d2, d3, d4, d5, d6, d7, d8, d9⟩ := cl10 hX1
 have HB1 := Lib.hid hb1
 clear hRt hb1 hX1 c0 c1 c2 c3 c4 c5 c6 c7 c8 c9
 go_wp2_with fail
 refine (HO.out w1 HB1.out).mono ?_
 rintro e w2 ⟨rfl, hb2⟩
 have HB2 : Hid (Below w.heap.size w w2) := HB0.out.trans ((HB1.out.trans (hb2.mono HB1.out.size)).mono HB0.out.size)
 clear hb2
 go_wp2_with fail
 go_ret
 exact ⟨rfl, HB2.out⟩
set_option maxRecDepth 100000 in
set_option maxHeartbeats 8000000 in
theorem ref10_Ask_bkt (L f : Nat) (l : List (Int × Int)) (n : Nat) (s : SS) (w : World) (hA : s.At w.heap.size w (skBkt 3 L f l : Sk)) (hB : Bd.Ok 3 L (.bkt f l)) (hn : n < 2 ^ 64) :
  Calls Tryz.prog 26 #[.agg #[.int .i64 3, .int .i64 L, .slice s.ea s.el s.ec, .int .i64 0, .string ⟨#[]⟩, .int .i64 0, .int .i64 0, .slice s.ca s.cl s.cc, .int .i64 f, .slice s.ga s.gl s.gc], .int .u64 n] w fun e w' => e = .returned (.int .u64 (hiRank f l n)) ∧ Below w.heap.size w w' := by
 obtain ⟨W0, hW0, hX0, hB0, hs0⟩ := boxes1 w #[.int .i64 3, .int .i64 L, .slice s.ea s.el s.ec, .int .i64 0, .string ⟨#[]⟩, .int .i64 0, .int .i64 0, .slice s.ca s.cl s.cc, .int .i64 f, .slice s.ga s.gl s.gc] 33
 have hRt : Calls Tryz.prog 20 #[.agg #[.int .i64 3, .int .i64 L, .slice s.ea s.el s.ec, .int .i64 0, .string ⟨#[]⟩, .int .i64 0, .int .i64 0, .slice s.ca s.cl s.cc, .int .i64 f, .slice s.ga s.gl s.gc]] W0 fun e w' => e = .returned (.bool true) ∧ Below W0.heap.size W0 w' := ref10_Right_ok (x := skBkt 3 L f l) hB rfl (hA.go hB0)
 obtain ⟨-, hL3, hf, h4, h5, h6, h7⟩ := id hB
 have hk : BkR f l := ⟨by omega, h4, h5, h6, h7⟩
 have HO : Hid (∀ W, Below W0.heap.size W0 W → Calls Tryz.prog 61 #[.agg #[.int .i64 f, .slice s.ga s.gl s.gc], .int .u64 n] W fun e w' => e = .returned (.int .u64 (hiRank f l n)) ∧ Below W.heap.size W w') := fun W hb => ref09_Rank_any f l n _ _ _ W hk ((hA.go hB0).go hb).g hn
 clear h4 h5 h6 h7 hf hk
 have HX0 := Lib.hid hX0
 have HB0 := Lib.hid hB0
 obtain ⟨c0, c1, c2, c3, c4, c5, c6, c7, c8, c9⟩ := cl10 hX0
 clear hX0 hB0 hA hs0 hB
 go_enter Tryz.func26, Tryz.ntmps26
 go_wp2_with fail
 refine hRt.mono ?_
 rintro e w1 ⟨rfl, hb1⟩
 have hX1 := known hb1 (Nat.le_refl _) HX0.out
 obtain ⟨d0, d1, d2, d3, d4, d5, d6, d7, d8, d9⟩ := cl10 hX1
 have HB1 := Lib.hid hb1
 clear hRt hb1 hX1 c0 c1 c2 c3 c4 c5 c6 c7 c8 c9
 go_wp2_with fail
 refine (HO.out w1 HB1.out).mono ?_
 rintro e w2 ⟨rfl, hb2⟩
 have HB2 : Hid (Below w.heap.size w w2) := HB0.out.trans ((HB1.out.trans (hb2.mono HB1.out.size)).mono HB0.out.size)
 clear hb2
 go_wp2_with fail
 go_ret
 exact ⟨rfl, HB2.out⟩
set_option maxRecDepth 100000 in
set_option maxHeartbeats 8000000 in
theorem ref10_Ask_no {x : Sk} {s : SS} {w : World} (n : Nat) (hx : s.At w.heap.size w x) (hl : x.lim) (ok : skOk x = false) :
  Calls Tryz.prog 26 #[.agg #[.int .i64 x.kind, .int .i64 x.level, .slice s.ea s.el s.ec, .int .i64 x.hb, .string x.hr, .int .i64 x.cr, .int .i64 x.cc, .slice s.ca s.cl s.cc, .int .i64 x.gf, .slice s.ga s.gl s.gc], .int .u64 n] w fun e w' => e = .returned (.int .u64 0) ∧ Below w.heap.size w w' := by
 obtain ⟨W0, hW0, hX0, hB0, hs0⟩ := boxes1 w #[.int .i64 x.kind, .int .i64 x.level, .slice s.ea s.el s.ec, .int .i64 x.hb, .string x.hr, .int .i64 x.cr, .int .i64 x.cc, .slice s.ca s.cl s.cc, .int .i64 x.gf, .slice s.ga s.gl s.gc] 33
 have hRt := ref10_Right_any x s W0 (hx.go hB0) hl.e hl.cc hl.g
 rw [ok] at hRt
 have HB0 := Lib.hid hB0
 obtain ⟨c0, c1, c2, c3, c4, c5, c6, c7, c8, c9⟩ := cl10 hX0
 clear hX0 hB0 hx hl ok hs0
 go_enter Tryz.func26, Tryz.ntmps26
 go_wp2_with fail
 refine hRt.mono ?_
 rintro e w1 ⟨rfl, hb1⟩
 have HB1 := Lib.hid hb1
 clear hRt hb1
 go_wp2_with fail
 go_ret
 exact ⟨rfl, HB0.out.trans (HB1.out.mono HB0.out.size)⟩
theorem ref10_Ask_S {x : Sk} {s : SS} {w : World} (n : Nat) (hx : s.At w.heap.size w x) (hl : x.lim) (hn : n < 2 ^ 64) :
  Calls Tryz.prog 26 #[.agg #[.int .i64 x.kind, .int .i64 x.level, .slice s.ea s.el s.ec, .int .i64 x.hb, .string x.hr, .int .i64 x.cr, .int .i64 x.cc, .slice s.ca s.cl s.cc, .int .i64 x.gf, .slice s.ga s.gl s.gc], .int .u64 n] w fun e w' => e = .returned (.int .u64 (askS x n)) ∧ Below w.heap.size w w' := by
 cases ok : skOk x with
 | false =>
  unfold askS
  rw [ok]
  exact ref10_Ask_no n hx hl ok
 | true =>
  obtain ⟨k, L, B, rfl, hB⟩ := hl.bd ok
  rw [askS_sk hB]
  cases B with
  | num l =>
   obtain ⟨rfl, rfl, -⟩ := id hB
   exact ref10_Ask_num l n s w hx hB hn
  | reg b r =>
   obtain ⟨rfl, -⟩ := id hB
   exact ref10_Ask_reg L b r n s w hx hB hn
  | cnt c l =>
   obtain ⟨rfl, -⟩ := id hB
   exact ref10_Ask_cnt L c l n s w hx hB hn
  | bkt f l =>
   obtain ⟨rfl, -⟩ := id hB
   exact ref10_Ask_bkt L f l n s w hx hB hn
end Go.Proofs.YtcbbenncdainfaaGreatDoor
namespace Go.Proofs.YtcbbenncdainfaaGreatDoor
open Go Go.RowKit Go.Shelf
theorem cost_new (k : Nat) (hk : k = 1 ∨ k = 2 ∨ k = 3) : (bdCost (bdNew k) : Int) + 16 = if k = 2 then 528 else 16 := by
 rcases hk with rfl | rfl | rfl
 ·rfl
 ·show ((8 * (cmNone 32).length : Nat) : Int) + 16 = 528
  simp [cmNone]
 ·rfl
set_option maxRecDepth 100000 in
set_option maxHeartbeats 2000000 in
theorem shown10_any (w : World) : Calls Tryz.prog 5 #[] w fun e w' => e = .returned (.bool true) ∧ Below w.heap.size w w' := by
 have HN1 := Lib.hid (fun W => New_any 1 (by omega) W)
 have HN2 := Lib.hid (fun W => New_any 2 (by omega) W)
 have HN3 := Lib.hid (fun W => New_any 3 (by omega) W)
 have HN4 := Lib.hid (fun W => New_no 4 rfl rfl rfl W)
 have HC1 : Hid (∀ v W, SkB W v 1 0 (bdNew 1) → Calls Tryz.prog 23 #[v] W fun e w' => e = .returned (.int .i64 16) ∧ Below W.heap.size W w') := fun v W h => by
  have h1 := Cost_sk (bdNew_ok 1 (by omega)) h
  rw [cost_new 1 (by omega)] at h1
  exact h1
 have HC2 : Hid (∀ v W, SkB W v 2 0 (bdNew 2) → Calls Tryz.prog 23 #[v] W fun e w' => e = .returned (.int .i64 528) ∧ Below W.heap.size W w') := fun v W h => by
  have h1 := Cost_sk (bdNew_ok 2 (by omega)) h
  rw [cost_new 2 (by omega)] at h1
  exact h1
 have HC3 : Hid (∀ v W, SkB W v 3 0 (bdNew 3) → Calls Tryz.prog 23 #[v] W fun e w' => e = .returned (.int .i64 16) ∧ Below W.heap.size W w') := fun v W h => by
  have h1 := Cost_sk (bdNew_ok 3 (by omega)) h
  rw [cost_new 3 (by omega)] at h1
  exact h1
 go_enter Tryz.func5, Tryz.ntmps5
 go_wp2_with fail
 refine (HN1.out _).mono ?_
 rintro e w1 ⟨x1, rfl, ⟨y1, s1, hy1, rfl, hA1⟩, hb1⟩
 obtain ⟨W1, hW1, hX1, hB1, hs1⟩ := boxes1 w1 #[.int .i64 y1.kind, .int .i64 y1.level, .slice s1.ea s1.el s1.ec, .int .i64 y1.hb, .string y1.hr, .int .i64 y1.cr, .int .i64 y1.cc, .slice s1.ca s1.cl s1.cc, .int .i64 y1.gf, .slice s1.ga s1.gl s1.gc] 33
 have hK1 : SkB W1 (.agg #[.int .i64 y1.kind, .int .i64 y1.level, .slice s1.ea s1.el s1.ec, .int .i64 y1.hb, .string y1.hr, .int .i64 y1.cr, .int .i64 y1.cc, .slice s1.ca s1.cl s1.cc, .int .i64 y1.gf, .slice s1.ga s1.gl s1.gc]) 1 0 (bdNew 1) := ⟨y1, s1, hy1, rfl, hA1.go hB1⟩
 have HB1 : Hid (Below w.heap.size w W1) := hb1.trans (hB1.mono hb1.size)
 have HX1 := Lib.hid hX1
 have HK1 := Lib.hid hK1
 clear hX1 hB1 hs1 hK1 hb1 hy1 hA1
 go_wp2_with fail
 refine (HN2.out _).mono ?_
 rintro e w2 ⟨x2, rfl, ⟨y2, s2, hy2, rfl, hA2⟩, hb2⟩
 obtain ⟨W2, hW2, hX2, hB2, hs2⟩ := boxes1 w2 #[.int .i64 y2.kind, .int .i64 y2.level, .slice s2.ea s2.el s2.ec, .int .i64 y2.hb, .string y2.hr, .int .i64 y2.cr, .int .i64 y2.cc, .slice s2.ca s2.cl s2.cc, .int .i64 y2.gf, .slice s2.ga s2.gl s2.gc] 33
 have hK2 : SkB W2 (.agg #[.int .i64 y2.kind, .int .i64 y2.level, .slice s2.ea s2.el s2.ec, .int .i64 y2.hb, .string y2.hr, .int .i64 y2.cr, .int .i64 y2.cc, .slice s2.ca s2.cl s2.cc, .int .i64 y2.gf, .slice s2.ga s2.gl s2.gc]) 2 0 (bdNew 2) := ⟨y2, s2, hy2, rfl, hA2.go hB2⟩
 have HB2 : Hid (Below W1.heap.size W1 W2) := hb2.trans (hB2.mono hb2.size)
 have HX2 := Lib.hid hX2
 have HK2 := Lib.hid hK2
 clear hX2 hB2 hs2 hK2 hb2 hy2 hA2
 go_wp2_with fail
 refine (HN3.out _).mono ?_
 rintro e w3 ⟨x3, rfl, ⟨y3, s3, hy3, rfl, hA3⟩, hb3⟩
 obtain ⟨W3, hW3, hX3, hB3, hs3⟩ := boxes1 w3 #[.int .i64 y3.kind, .int .i64 y3.level, .slice s3.ea s3.el s3.ec, .int .i64 y3.hb, .string y3.hr, .int .i64 y3.cr, .int .i64 y3.cc, .slice s3.ca s3.cl s3.cc, .int .i64 y3.gf, .slice s3.ga s3.gl s3.gc] 33
 have hK3 : SkB W3 (.agg #[.int .i64 y3.kind, .int .i64 y3.level, .slice s3.ea s3.el s3.ec, .int .i64 y3.hb, .string y3.hr, .int .i64 y3.cr, .int .i64 y3.cc, .slice s3.ca s3.cl s3.cc, .int .i64 y3.gf, .slice s3.ga s3.gl s3.gc]) 3 0 (bdNew 3) := ⟨y3, s3, hy3, rfl, hA3.go hB3⟩
 have HB3 : Hid (Below W2.heap.size W2 W3) := hb3.trans (hB3.mono hb3.size)
 have HX3 := Lib.hid hX3
 have HK3 := Lib.hid hK3
 clear hX3 hB3 hs3 hK3 hb3 hy3 hA3
 go_wp2_with fail
 refine (HN4.out _).mono ?_
 rintro e w4 ⟨rfl, hb4⟩
 obtain ⟨W4, hW4, hX4, hB4, hs4⟩ := boxes1 w4 #[.int .i64 0, .int .i64 0, .slice none 0 0, .int .i64 0, .string ⟨#[]⟩, .int .i64 0, .int .i64 0, .slice none 0 0, .int .i64 0, .slice none 0 0] 33
 have hb34 : Below W3.heap.size W3 W4 := hb4.trans (hB4.mono hb4.size)
 have hb24 : Below W2.heap.size W2 W4 := HB3.out.trans (hb34.mono HB3.out.size)
 have hb14 : Below W1.heap.size W1 W4 := HB2.out.trans (hb24.mono HB2.out.size)
 have hX14 := known hb14 (Nat.le_refl _) HX1.out
 have HC1 := Lib.hid (HC1.out _ W4 (HK1.out.go hb14))
 have Hb14 := Lib.hid hb14
 have Hb24 := Lib.hid hb24
 have Hb34 := Lib.hid hb34
 obtain ⟨a0, a1, a2, a3, a4, a5, a6, a7, a8, a9⟩ := cl10 hX14
 obtain ⟨f0, f1, f2, f3, f4, f5, f6, f7, f8, f9⟩ := cz10 hX4
 have z0 : W4.setCell ⟨w4.heap.size, 0, none⟩ (.int .i64 0) = W4 := set_same hX4 rfl
 have z1 : W4.setCell ⟨w4.heap.size, 1, none⟩ (.int .i64 0) = W4 := set_same hX4 rfl
 have z2 : W4.setCell ⟨w4.heap.size, 2, none⟩ (.slice none 0 0) = W4 := set_same hX4 rfl
 have z3 : W4.setCell ⟨w4.heap.size, 3, none⟩ (.int .i64 0) = W4 := set_same hX4 rfl
 have z4 : W4.setCell ⟨w4.heap.size, 4, none⟩ (.string ⟨#[]⟩) = W4 := set_same hX4 rfl
 have z5 : W4.setCell ⟨w4.heap.size, 5, none⟩ (.int .i64 0) = W4 := set_same hX4 rfl
 have z6 : W4.setCell ⟨w4.heap.size, 6, none⟩ (.int .i64 0) = W4 := set_same hX4 rfl
 have z7 : W4.setCell ⟨w4.heap.size, 7, none⟩ (.slice none 0 0) = W4 := set_same hX4 rfl
 have z8 : W4.setCell ⟨w4.heap.size, 8, none⟩ (.int .i64 0) = W4 := set_same hX4 rfl
 have z9 : W4.setCell ⟨w4.heap.size, 9, none⟩ (.slice none 0 0) = W4 := set_same hX4 rfl
 obtain ⟨b0, b1, b2, b3, b4, b5, b6, b7, b8, b9⟩ := cl10 hX4
 clear hX4 hB4 hs4 hb4 hb14 hb24 hb34 hX14
 go_wp2_with fail
 refine HC1.out.mono ?_
 rintro e w5 ⟨rfl, hb5⟩
 have hX25 := known (Hb24.out.trans (hb5.mono Hb24.out.size)) (Nat.le_refl _) HX2.out
 have HC2 := Lib.hid (HC2.out _ w5 (HK2.out.go (Hb24.out.trans (hb5.mono Hb24.out.size))))
 have Hb5 := Lib.hid hb5
 obtain ⟨c0, c1, c2, c3, c4, c5, c6, c7, c8, c9⟩ := cl10 hX25
 clear hX25 hb5
 go_wp2_with fail
 refine HC2.out.mono ?_
 rintro e w6 ⟨rfl, hb6⟩
 have hb46 := Hb5.out.trans (hb6.mono Hb5.out.size)
 have hX36 := known (Hb34.out.trans (hb46.mono Hb34.out.size)) (Nat.le_refl _) HX3.out
 have HC3 := Lib.hid (HC3.out _ w6 (HK3.out.go (Hb34.out.trans (hb46.mono Hb34.out.size))))
 have Hb46 := Lib.hid hb46
 obtain ⟨d0, d1, d2, d3, d4, d5, d6, d7, d8, d9⟩ := cl10 hX36
 clear hX36 hb6 hb46
 go_wp2_with fail
 refine HC3.out.mono ?_
 rintro e w7 ⟨rfl, hb7⟩
 go_wp2_with fail
 go_ret
 exact ⟨rfl, HB1.out.trans ((Hb14.out.trans ((Hb46.out.trans (hb7.mono Hb46.out.size)).mono Hb14.out.size)).mono HB1.out.size)⟩
end Go.Proofs.YtcbbenncdainfaaGreatDoor
namespace Go.Proofs.YtcbbenncdainfaaGreatDoor
open Go Go.RowKit Go.Shelf
set_option maxRecDepth 100000 in
set_option maxHeartbeats 8000000 in
theorem ladderAdds_any (x : Sk) (s : SS) (it : Nat × Int) (hn' : Int) (kd : Int) (w : World) (hx : s.At w.heap.size w x) (hux : x.arg ∧ I64 x.cc) (hit : Item.ok it) (hnu : U64 hn') (_ : I64 kd) (hg : GT w) :
  Calls Tryz.prog 4 #[.agg #[.int .i64 x.kind, .int .i64 x.level, .slice s.ea s.el s.ec, .int .i64 x.hb, .string x.hr, .int .i64 x.cr, .int .i64 x.cc, .slice s.ca s.cl s.cc, .int .i64 x.gf, .slice s.ga s.gl s.gc], .agg #[.int .u64 it.1, .int .u64 it.2], .int .u64 hn', .int .i64 kd] w fun e w' => e = .returned (.bool true) ∧ Below w.heap.size w w' := by
 obtain ⟨hN, rfl⟩ := Int.eq_ofNat_of_zero_le hnu.1
 have hn64 : hN < 2 ^ 64 := by have := hnu.2; omega
 obtain ⟨h, n⟩ := it
 obtain ⟨hh, hn⟩ := hit
 dsimp only at hh hn ⊢
 obtain ⟨X, hXe⟩ : ∃ X, x.cut = X := ⟨_, rfl⟩
 obtain ⟨S, hSe⟩ : ∃ S, s.cut = S := ⟨_, rfl⟩
 have HFx : Hid (∀ W, s.At W.heap.size W x → Calls Tryz.prog 6 #[.agg #[.int .i64 x.kind, .int .i64 x.level, .slice s.ea s.el s.ec, .int .i64 x.hb, .string x.hr, .int .i64 x.cr, .int .i64 x.cc, .slice s.ca s.cl s.cc, .int .i64 x.gf, .slice s.ga s.gl s.gc]] W fun e w' => e = .returned (.agg #[.int .i64 X.kind, .int .i64 X.level, .slice S.ea S.el S.ec, .int .i64 X.hb, .string X.hr, .int .i64 X.cr, .int .i64 X.cc, .slice S.ca S.cl S.cc, .int .i64 X.gf, .slice S.ga S.gl S.gc]) ∧ Below W.heap.size W w') := fun W h => by rw [← hXe, ← hSe]; exact few10_any x s W h
 have hLX : X.lim := by rw [← hXe]; exact lim_cut hux.1 hux.2
 have hhr : X.hr.size < 2147483648 := by rw [← hXe]; show (cutN ((260 : Nat) : Int) x.hr).size < _; rw [cutN_size]; omega
 have hAX : S.At w.heap.size w X := by rw [← hXe, ← hSe]; exact hx.cut
 obtain ⟨⟨A1, E1⟩, hr1⟩ : ∃ r, addS X (h, n) = r := ⟨_, rfl⟩
 obtain ⟨⟨A2, E2⟩, hr2⟩ : ∃ r, newS kd = r := ⟨_, rfl⟩
 have H1 : Hid (∀ W, S.At W.heap.size W X → GT W → Calls Tryz.prog 15 #[.agg #[.int .i64 X.kind, .int .i64 X.level, .slice S.ea S.el S.ec, .int .i64 X.hb, .string X.hr, .int .i64 X.cr, .int .i64 X.cc, .slice S.ca S.cl S.cc, .int .i64 X.gf, .slice S.ga S.gl S.gc], .agg #[.int .u64 h, .int .u64 n]] W fun e w' => ∃ p : SS, e = .returned (.tuple #[.agg #[.int .i64 A1.kind, .int .i64 A1.level, .slice p.ea p.el p.ec, .int .i64 A1.hb, .string A1.hr, .int .i64 A1.cr, .int .i64 A1.cc, .slice p.ca p.cl p.cc, .int .i64 A1.gf, .slice p.ga p.gl p.gc], .int .i64 E1]) ∧ p.At w'.heap.size w' A1 ∧ Below W.heap.size W w') := fun W h1 h3 => by
  have h9 := ladder_Add_S h n h1 hLX hh hn h3
  rw [hr1] at h9
  exact h9
 have H2 : Hid (∀ W, S.At W.heap.size W X → GT W → Calls Tryz.prog 16 #[.agg #[.int .i64 X.kind, .int .i64 X.level, .slice S.ea S.el S.ec, .int .i64 X.hb, .string X.hr, .int .i64 X.cr, .int .i64 X.cc, .slice S.ca S.cl S.cc, .int .i64 X.gf, .slice S.ga S.gl S.gc], .agg #[.int .u64 h, .int .u64 n]] W fun e w' => ∃ p : SS, e = .returned (.tuple #[.agg #[.int .i64 A1.kind, .int .i64 A1.level, .slice p.ea p.el p.ec, .int .i64 A1.hb, .string A1.hr, .int .i64 A1.cr, .int .i64 A1.cc, .slice p.ca p.cl p.cc, .int .i64 A1.gf, .slice p.ga p.gl p.gc], .int .i64 E1]) ∧ p.At w'.heap.size w' A1 ∧ Below W.heap.size W w') := fun W h1 h3 => by
  have h9 := ref10_Add_S h n h1 hLX hh hn
  rw [hr1] at h9
  exact h9
 have H3 : Hid (∀ W, S.At W.heap.size W X → GT W → Calls Tryz.prog 17 #[.int .i64 kd] W fun e w' => ∃ p : SS, e = .returned (.tuple #[.agg #[.int .i64 A2.kind, .int .i64 A2.level, .slice p.ea p.el p.ec, .int .i64 A2.hb, .string A2.hr, .int .i64 A2.cr, .int .i64 A2.cc, .slice p.ca p.cl p.cc, .int .i64 A2.gf, .slice p.ga p.gl p.gc], .int .i64 E2]) ∧ p.At w'.heap.size w' A2 ∧ Below W.heap.size W w') := fun W h1 h3 => by
  have h9 := ladder_New_S kd W
  rw [hr2] at h9
  exact h9
 have H4 : Hid (∀ W, S.At W.heap.size W X → GT W → Calls Tryz.prog 18 #[.int .i64 kd] W fun e w' => ∃ p : SS, e = .returned (.tuple #[.agg #[.int .i64 A2.kind, .int .i64 A2.level, .slice p.ea p.el p.ec, .int .i64 A2.hb, .string A2.hr, .int .i64 A2.cr, .int .i64 A2.cc, .slice p.ca p.cl p.cc, .int .i64 A2.gf, .slice p.ga p.gl p.gc], .int .i64 E2]) ∧ p.At w'.heap.size w' A2 ∧ Below W.heap.size W w') := fun W h1 h3 => by
  have h9 := ref10_New_S kd W
  rw [hr2] at h9
  exact h9
 obtain ⟨r1, hqr1⟩ : ∃ r, skOk X = r := ⟨_, rfl⟩
 obtain ⟨r2, hqr2⟩ : ∃ r, costOf X = r := ⟨_, rfl⟩
 obtain ⟨r3, hqr3⟩ : ∃ r, askS X hN = r := ⟨_, rfl⟩
 obtain ⟨r4, hqr4⟩ : ∃ r, bottomB kd = r := ⟨_, rfl⟩
 have Q1 : Hid (∀ W, S.At W.heap.size W X → Calls Tryz.prog 19 #[.agg #[.int .i64 X.kind, .int .i64 X.level, .slice S.ea S.el S.ec, .int .i64 X.hb, .string X.hr, .int .i64 X.cr, .int .i64 X.cc, .slice S.ca S.cl S.cc, .int .i64 X.gf, .slice S.ga S.gl S.gc]] W fun e w' => e = .returned (.bool r1) ∧ Below W.heap.size W w') := fun W h1 => by rw [← hqr1]; exact ladder_Right_any X S W h1 (hLX.short h1) hLX.fit
 have Q2 : Hid (∀ W, S.At W.heap.size W X → Calls Tryz.prog 20 #[.agg #[.int .i64 X.kind, .int .i64 X.level, .slice S.ea S.el S.ec, .int .i64 X.hb, .string X.hr, .int .i64 X.cr, .int .i64 X.cc, .slice S.ca S.cl S.cc, .int .i64 X.gf, .slice S.ga S.gl S.gc]] W fun e w' => e = .returned (.bool r1) ∧ Below W.heap.size W w') := fun W h1 => by rw [← hqr1]; exact ref10_Right_any X S W h1 hLX.e hLX.cc hLX.g
 have Q3 : Hid (∀ W, S.At W.heap.size W X → Calls Tryz.prog 23 #[.agg #[.int .i64 X.kind, .int .i64 X.level, .slice S.ea S.el S.ec, .int .i64 X.hb, .string X.hr, .int .i64 X.cr, .int .i64 X.cc, .slice S.ca S.cl S.cc, .int .i64 X.gf, .slice S.ga S.gl S.gc]] W fun e w' => e = .returned (.int .i64 r2) ∧ Below W.heap.size W w') := fun W h1 => by rw [← hqr2]; exact ladder_Cost_any X S W h1 (hLX.short h1) hLX.fit hhr
 have Q4 : Hid (∀ W, S.At W.heap.size W X → Calls Tryz.prog 24 #[.agg #[.int .i64 X.kind, .int .i64 X.level, .slice S.ea S.el S.ec, .int .i64 X.hb, .string X.hr, .int .i64 X.cr, .int .i64 X.cc, .slice S.ca S.cl S.cc, .int .i64 X.gf, .slice S.ga S.gl S.gc]] W fun e w' => e = .returned (.int .i64 r2) ∧ Below W.heap.size W w') := fun W h1 => by rw [← hqr2]; exact ref10_Cost_S h1 hLX
 have Q5 : Hid (∀ W, S.At W.heap.size W X → Calls Tryz.prog 25 #[.agg #[.int .i64 X.kind, .int .i64 X.level, .slice S.ea S.el S.ec, .int .i64 X.hb, .string X.hr, .int .i64 X.cr, .int .i64 X.cc, .slice S.ca S.cl S.cc, .int .i64 X.gf, .slice S.ga S.gl S.gc], .int .u64 hN] W fun e w' => e = .returned (.int .u64 r3) ∧ Below W.heap.size W w') := fun W h1 => by rw [← hqr3]; exact ladder_Ask_S hN h1 hLX hn64
 have Q6 : Hid (∀ W, S.At W.heap.size W X → Calls Tryz.prog 26 #[.agg #[.int .i64 X.kind, .int .i64 X.level, .slice S.ea S.el S.ec, .int .i64 X.hb, .string X.hr, .int .i64 X.cr, .int .i64 X.cc, .slice S.ca S.cl S.cc, .int .i64 X.gf, .slice S.ga S.gl S.gc], .int .u64 hN] W fun e w' => e = .returned (.int .u64 r3) ∧ Below W.heap.size W w') := fun W h1 => by rw [← hqr3]; exact ref10_Ask_S hN h1 hLX hn64
 have Q7 : Hid (∀ W, S.At W.heap.size W X → Calls Tryz.prog 21 #[.int .i64 kd] W fun e w' => e = .returned (.int .i64 r4) ∧ Below W.heap.size W w') := fun W h1 => by rw [← hqr4]; exact (Bottom_any kd W).mono fun e w' ⟨g1, g2⟩ => ⟨g1, by subst g2; exact Below.refl _ _⟩
 have Q8 : Hid (∀ W, S.At W.heap.size W X → Calls Tryz.prog 22 #[.int .i64 kd] W fun e w' => e = .returned (.int .i64 r4) ∧ Below W.heap.size W w') := fun W h1 => by rw [← hqr4]; exact (ref10_Bottom_any kd W).mono fun e w' ⟨g1, g2⟩ => ⟨g1, by subst g2; exact Below.refl _ _⟩
 have HG : Hid (∀ W, Below w.heap.size w W → GT W) := fun W hb => hg.go hb
 obtain ⟨W0, hW0, hX0, hI0, hB0, hs0⟩ := boxes2 w #[.int .i64 x.kind, .int .i64 x.level, .slice s.ea s.el s.ec, .int .i64 x.hb, .string x.hr, .int .i64 x.cr, .int .i64 x.cc, .slice s.ca s.cl s.cc, .int .i64 x.gf, .slice s.ga s.gl s.gc] 33 #[.int .u64 h, .int .u64 n] 45
 have HX0 := Lib.hid hX0
 have HI0 := Lib.hid hI0
 have HA0 := Lib.hid (And.intro (hx.go hB0) (hAX.go hB0))
 have HB0 := Lib.hid hB0
 clear hX0 hI0 hB0 hx hAX hux hg hXe hSe hLX hr1 hr2 hs0 hh hn hn64 hnu hhr hqr1 hqr2 hqr3 hqr4
 go_enter Tryz.func4, Tryz.ntmps4
 go_wp2_with fail
 refine (shown10_any _).mono ?_
 rintro e w1 ⟨rfl, hb1⟩
 have hX1 := known hb1 (Nat.le_refl _) HX0.out
 obtain ⟨d0, d1, d2, d3, d4, d5, d6, d7, d8, d9⟩ := cl10 hX1
 have HB1 := Lib.hid hb1
 clear hX1 hb1
 go_wp2_with fail
 refine (HFx.out _ (HA0.out.1.go HB1.out)).mono ?_
 rintro e w2 ⟨rfl, hb2⟩
 have hb02 := HB1.out.trans (hb2.mono HB1.out.size)
 have hX2 := known hb02 (Nat.le_refl _) HX0.out
 have hI2 := known hb02 (Nat.le_refl _) HI0.out
 obtain ⟨f0, f1, f2, f3, f4, f5, f6, f7, f8, f9⟩ := cl10 hX2
 obtain ⟨g0, g1, g2, g3, g4, g5, g6, g7, g8, g9⟩ := cz10 hX2
 obtain ⟨V3, hV3, hXV3, hOV3, hBV3⟩ := store10 (.int .i64 X.kind) (.int .i64 X.level) (.slice S.ea S.el S.ec) (.int .i64 X.hb) (.string X.hr) (.int .i64 X.cr) (.int .i64 X.cc) (.slice S.ca S.cl S.cc) (.int .i64 X.gf) (.slice S.ga S.gl S.gc) hX2
 have hIV3 := (hOV3.2 (w.heap.size + 1) (by omega)).trans hI2
 have hA3 : S.At V3.heap.size V3 X := (HA0.out.2.go hb02).apart hX2 (noU10 _ _ _ _ _ _ _ _ _ _ _ _ _ _ _ _) hOV3
 have hbw3 : Below w.heap.size w V3 := hBV3 _ _ (HB0.out.trans (hb02.mono HB0.out.size)) (Nat.le_refl _)
 have HXY : Hid (∀ W, Below V3.heap.size V3 W → W.heap[w.heap.size]? = some (.cells #[.int .i64 X.kind, .int .i64 X.level, .slice S.ea S.el S.ec, .int .i64 X.hb, .string X.hr, .int .i64 X.cr, .int .i64 X.cc, .slice S.ca S.cl S.cc, .int .i64 X.gf, .slice S.ga S.gl S.gc] 33 (0, 0)) ∧ W.heap[w.heap.size + 1]? = some (.cells #[.int .u64 h, .int .u64 n] 45 (0, 0)) ∧ S.At W.heap.size W X ∧ GT W) := fun W hb => ⟨known hb (Nat.le_refl _) hXV3, known hb (Nat.le_refl _) hIV3, hA3.go hb, HG.out W (hbw3.trans (hb.mono hbw3.size))⟩
 have HBw3 := Lib.hid hbw3
 obtain ⟨m0, m1, m2, m3, m4, m5, m6, m7, m8, m9⟩ := cl10 hXV3
 obtain ⟨n0, n1⟩ := cl2 hIV3
 have HD0 : Hid (Below V3.heap.size V3 V3) := Below.refl _ _
 clear d0 d1 d2 d3 d4 d5 d6 d7 d8 d9 hX2 hI2 hXV3 hIV3 hOV3 hBV3 hA3 hbw3 hb2 hb02
 go_wp2_with fail
 obtain ⟨-, -, hx1, hg1⟩ := HXY.out V3 HD0.out
 refine (H1.out _ hx1 hg1).mono ?_
 rintro e u1 ⟨p1, rfl, hA1, hb1⟩
 obtain ⟨W1, hW1, hX1, hB1, hs1⟩ := boxes1 u1 #[.int .i64 A1.kind, .int .i64 A1.level, .slice p1.ea p1.el p1.ec, .int .i64 A1.hb, .string A1.hr, .int .i64 A1.cr, .int .i64 A1.cc, .slice p1.ca p1.cl p1.cc, .int .i64 A1.gf, .slice p1.ga p1.gl p1.gc] 33
 have e1_1 : W1.setCell ⟨u1.heap.size, 1, none⟩ (.int .i64 A1.level) = W1 := set_same hX1 rfl
 have e1_2 : W1.setCell ⟨u1.heap.size, 2, none⟩ (.slice p1.ea p1.el p1.ec) = W1 := set_same hX1 rfl
 have e1_3 : W1.setCell ⟨u1.heap.size, 3, none⟩ (.int .i64 A1.hb) = W1 := set_same hX1 rfl
 have e1_4 : W1.setCell ⟨u1.heap.size, 4, none⟩ (.string A1.hr) = W1 := set_same hX1 rfl
 have e1_5 : W1.setCell ⟨u1.heap.size, 5, none⟩ (.int .i64 A1.cr) = W1 := set_same hX1 rfl
 have e1_6 : W1.setCell ⟨u1.heap.size, 6, none⟩ (.int .i64 A1.cc) = W1 := set_same hX1 rfl
 have e1_7 : W1.setCell ⟨u1.heap.size, 7, none⟩ (.slice p1.ca p1.cl p1.cc) = W1 := set_same hX1 rfl
 have e1_8 : W1.setCell ⟨u1.heap.size, 8, none⟩ (.int .i64 A1.gf) = W1 := set_same hX1 rfl
 have e1_9 : W1.setCell ⟨u1.heap.size, 9, none⟩ (.slice p1.ga p1.gl p1.gc) = W1 := set_same hX1 rfl
 obtain ⟨z1_0, z1_1, z1_2, z1_3, z1_4, z1_5, z1_6, z1_7, z1_8, z1_9⟩ := cz10 hX1
 have HR1 : Hid (∀ W, Below W1.heap.size W1 W → W.heap[u1.heap.size]? = some (.cells #[.int .i64 A1.kind, .int .i64 A1.level, .slice p1.ea p1.el p1.ec, .int .i64 A1.hb, .string A1.hr, .int .i64 A1.cr, .int .i64 A1.cc, .slice p1.ca p1.cl p1.cc, .int .i64 A1.gf, .slice p1.ga p1.gl p1.gc] 33 (0, 0)) ∧ p1.At W.heap.size W A1) := fun W hb => ⟨known hb (Nat.le_refl _) hX1, (hA1.go hB1).go hb⟩
 have HC1 : Hid (Below V3.heap.size V3 W1) := hb1.trans (hB1.mono hb1.size)
 have HD1 : Hid (Below V3.heap.size V3 W1) := HD0.out.trans (HC1.out.mono HD0.out.size)
 obtain ⟨hxb, hib, -⟩ := HXY.out W1 HD1.out
 obtain ⟨m1_0, m1_1, m1_2, m1_3, m1_4, m1_5, m1_6, m1_7, m1_8, m1_9⟩ := cl10 hxb
 obtain ⟨n1_0, n1_1⟩ := cl2 hib
 clear hX1 hB1 hs1 hA1 hb1 hx1 hg1 hxb hib f0 f1 f2 f3 f4 f5 f6 f7 f8 f9 g0 g1 g2 g3 g4 g5 g6 g7 g8 g9 m0 m1 m2 m3 m4 m5 m6 m7 m8 m9 n0 n1
 go_wp2_with fail
 obtain ⟨-, -, hx2, hg2⟩ := HXY.out W1 HD1.out
 refine (H2.out _ hx2 hg2).mono ?_
 rintro e u2 ⟨p2, rfl, hA2, hb2⟩
 obtain ⟨W2, hW2, hX2, hB2, hs2⟩ := boxes1 u2 #[.int .i64 A1.kind, .int .i64 A1.level, .slice p2.ea p2.el p2.ec, .int .i64 A1.hb, .string A1.hr, .int .i64 A1.cr, .int .i64 A1.cc, .slice p2.ca p2.cl p2.cc, .int .i64 A1.gf, .slice p2.ga p2.gl p2.gc] 33
 have e2_1 : W2.setCell ⟨u2.heap.size, 1, none⟩ (.int .i64 A1.level) = W2 := set_same hX2 rfl
 have e2_2 : W2.setCell ⟨u2.heap.size, 2, none⟩ (.slice p2.ea p2.el p2.ec) = W2 := set_same hX2 rfl
 have e2_3 : W2.setCell ⟨u2.heap.size, 3, none⟩ (.int .i64 A1.hb) = W2 := set_same hX2 rfl
 have e2_4 : W2.setCell ⟨u2.heap.size, 4, none⟩ (.string A1.hr) = W2 := set_same hX2 rfl
 have e2_5 : W2.setCell ⟨u2.heap.size, 5, none⟩ (.int .i64 A1.cr) = W2 := set_same hX2 rfl
 have e2_6 : W2.setCell ⟨u2.heap.size, 6, none⟩ (.int .i64 A1.cc) = W2 := set_same hX2 rfl
 have e2_7 : W2.setCell ⟨u2.heap.size, 7, none⟩ (.slice p2.ca p2.cl p2.cc) = W2 := set_same hX2 rfl
 have e2_8 : W2.setCell ⟨u2.heap.size, 8, none⟩ (.int .i64 A1.gf) = W2 := set_same hX2 rfl
 have e2_9 : W2.setCell ⟨u2.heap.size, 9, none⟩ (.slice p2.ga p2.gl p2.gc) = W2 := set_same hX2 rfl
 obtain ⟨z2_0, z2_1, z2_2, z2_3, z2_4, z2_5, z2_6, z2_7, z2_8, z2_9⟩ := cz10 hX2
 have HR2 : Hid (∀ W, Below W2.heap.size W2 W → W.heap[u2.heap.size]? = some (.cells #[.int .i64 A1.kind, .int .i64 A1.level, .slice p2.ea p2.el p2.ec, .int .i64 A1.hb, .string A1.hr, .int .i64 A1.cr, .int .i64 A1.cc, .slice p2.ca p2.cl p2.cc, .int .i64 A1.gf, .slice p2.ga p2.gl p2.gc] 33 (0, 0)) ∧ p2.At W.heap.size W A1) := fun W hb => ⟨known hb (Nat.le_refl _) hX2, (hA2.go hB2).go hb⟩
 have HC2 : Hid (Below W1.heap.size W1 W2) := hb2.trans (hB2.mono hb2.size)
 have HD2 : Hid (Below V3.heap.size V3 W2) := HD1.out.trans (HC2.out.mono HD1.out.size)
 obtain ⟨hxb, hib, -⟩ := HXY.out W2 HD2.out
 obtain ⟨m2_0, m2_1, m2_2, m2_3, m2_4, m2_5, m2_6, m2_7, m2_8, m2_9⟩ := cl10 hxb
 obtain ⟨n2_0, n2_1⟩ := cl2 hib
 clear hX2 hB2 hs2 hA2 hb2 hx2 hg2 hxb hib e1_1 e1_2 e1_3 e1_4 e1_5 e1_6 e1_7 e1_8 e1_9 z1_0 z1_1 z1_2 z1_3 z1_4 z1_5 z1_6 z1_7 z1_8 z1_9 m1_0 m1_1 m1_2 m1_3 m1_4 m1_5 m1_6 m1_7 m1_8 m1_9 n1_0 n1_1
 go_wp2_with fail
 obtain ⟨-, -, hx3, hg3⟩ := HXY.out W2 HD2.out
 refine (H3.out _ hx3 hg3).mono ?_
 rintro e u3 ⟨p3, rfl, hA3, hb3⟩
 obtain ⟨W3, hW3, hX3, hB3, hs3⟩ := boxes1 u3 #[.int .i64 A2.kind, .int .i64 A2.level, .slice p3.ea p3.el p3.ec, .int .i64 A2.hb, .string A2.hr, .int .i64 A2.cr, .int .i64 A2.cc, .slice p3.ca p3.cl p3.cc, .int .i64 A2.gf, .slice p3.ga p3.gl p3.gc] 33
 have e3_1 : W3.setCell ⟨u3.heap.size, 1, none⟩ (.int .i64 A2.level) = W3 := set_same hX3 rfl
 have e3_2 : W3.setCell ⟨u3.heap.size, 2, none⟩ (.slice p3.ea p3.el p3.ec) = W3 := set_same hX3 rfl
 have e3_3 : W3.setCell ⟨u3.heap.size, 3, none⟩ (.int .i64 A2.hb) = W3 := set_same hX3 rfl
 have e3_4 : W3.setCell ⟨u3.heap.size, 4, none⟩ (.string A2.hr) = W3 := set_same hX3 rfl
 have e3_5 : W3.setCell ⟨u3.heap.size, 5, none⟩ (.int .i64 A2.cr) = W3 := set_same hX3 rfl
 have e3_6 : W3.setCell ⟨u3.heap.size, 6, none⟩ (.int .i64 A2.cc) = W3 := set_same hX3 rfl
 have e3_7 : W3.setCell ⟨u3.heap.size, 7, none⟩ (.slice p3.ca p3.cl p3.cc) = W3 := set_same hX3 rfl
 have e3_8 : W3.setCell ⟨u3.heap.size, 8, none⟩ (.int .i64 A2.gf) = W3 := set_same hX3 rfl
 have e3_9 : W3.setCell ⟨u3.heap.size, 9, none⟩ (.slice p3.ga p3.gl p3.gc) = W3 := set_same hX3 rfl
 obtain ⟨z3_0, z3_1, z3_2, z3_3, z3_4, z3_5, z3_6, z3_7, z3_8, z3_9⟩ := cz10 hX3
 have HR3 : Hid (∀ W, Below W3.heap.size W3 W → W.heap[u3.heap.size]? = some (.cells #[.int .i64 A2.kind, .int .i64 A2.level, .slice p3.ea p3.el p3.ec, .int .i64 A2.hb, .string A2.hr, .int .i64 A2.cr, .int .i64 A2.cc, .slice p3.ca p3.cl p3.cc, .int .i64 A2.gf, .slice p3.ga p3.gl p3.gc] 33 (0, 0)) ∧ p3.At W.heap.size W A2) := fun W hb => ⟨known hb (Nat.le_refl _) hX3, (hA3.go hB3).go hb⟩
 have HC3 : Hid (Below W2.heap.size W2 W3) := hb3.trans (hB3.mono hb3.size)
 have HD3 : Hid (Below V3.heap.size V3 W3) := HD2.out.trans (HC3.out.mono HD2.out.size)
 obtain ⟨hxb, hib, -⟩ := HXY.out W3 HD3.out
 obtain ⟨m3_0, m3_1, m3_2, m3_3, m3_4, m3_5, m3_6, m3_7, m3_8, m3_9⟩ := cl10 hxb
 obtain ⟨n3_0, n3_1⟩ := cl2 hib
 clear hX3 hB3 hs3 hA3 hb3 hx3 hg3 hxb hib e2_1 e2_2 e2_3 e2_4 e2_5 e2_6 e2_7 e2_8 e2_9 z2_0 z2_1 z2_2 z2_3 z2_4 z2_5 z2_6 z2_7 z2_8 z2_9 m2_0 m2_1 m2_2 m2_3 m2_4 m2_5 m2_6 m2_7 m2_8 m2_9 n2_0 n2_1
 go_wp2_with fail
 obtain ⟨-, -, hx4, hg4⟩ := HXY.out W3 HD3.out
 refine (H4.out _ hx4 hg4).mono ?_
 rintro e u4 ⟨p4, rfl, hA4, hb4⟩
 obtain ⟨W4, hW4, hX4, hB4, hs4⟩ := boxes1 u4 #[.int .i64 A2.kind, .int .i64 A2.level, .slice p4.ea p4.el p4.ec, .int .i64 A2.hb, .string A2.hr, .int .i64 A2.cr, .int .i64 A2.cc, .slice p4.ca p4.cl p4.cc, .int .i64 A2.gf, .slice p4.ga p4.gl p4.gc] 33
 have e4_1 : W4.setCell ⟨u4.heap.size, 1, none⟩ (.int .i64 A2.level) = W4 := set_same hX4 rfl
 have e4_2 : W4.setCell ⟨u4.heap.size, 2, none⟩ (.slice p4.ea p4.el p4.ec) = W4 := set_same hX4 rfl
 have e4_3 : W4.setCell ⟨u4.heap.size, 3, none⟩ (.int .i64 A2.hb) = W4 := set_same hX4 rfl
 have e4_4 : W4.setCell ⟨u4.heap.size, 4, none⟩ (.string A2.hr) = W4 := set_same hX4 rfl
 have e4_5 : W4.setCell ⟨u4.heap.size, 5, none⟩ (.int .i64 A2.cr) = W4 := set_same hX4 rfl
 have e4_6 : W4.setCell ⟨u4.heap.size, 6, none⟩ (.int .i64 A2.cc) = W4 := set_same hX4 rfl
 have e4_7 : W4.setCell ⟨u4.heap.size, 7, none⟩ (.slice p4.ca p4.cl p4.cc) = W4 := set_same hX4 rfl
 have e4_8 : W4.setCell ⟨u4.heap.size, 8, none⟩ (.int .i64 A2.gf) = W4 := set_same hX4 rfl
 have e4_9 : W4.setCell ⟨u4.heap.size, 9, none⟩ (.slice p4.ga p4.gl p4.gc) = W4 := set_same hX4 rfl
 obtain ⟨z4_0, z4_1, z4_2, z4_3, z4_4, z4_5, z4_6, z4_7, z4_8, z4_9⟩ := cz10 hX4
 have HR4 : Hid (∀ W, Below W4.heap.size W4 W → W.heap[u4.heap.size]? = some (.cells #[.int .i64 A2.kind, .int .i64 A2.level, .slice p4.ea p4.el p4.ec, .int .i64 A2.hb, .string A2.hr, .int .i64 A2.cr, .int .i64 A2.cc, .slice p4.ca p4.cl p4.cc, .int .i64 A2.gf, .slice p4.ga p4.gl p4.gc] 33 (0, 0)) ∧ p4.At W.heap.size W A2) := fun W hb => ⟨known hb (Nat.le_refl _) hX4, (hA4.go hB4).go hb⟩
 have HC4 : Hid (Below W3.heap.size W3 W4) := hb4.trans (hB4.mono hb4.size)
 have HD4 : Hid (Below V3.heap.size V3 W4) := HD3.out.trans (HC4.out.mono HD3.out.size)
 obtain ⟨hxb, hib, -⟩ := HXY.out W4 HD4.out
 obtain ⟨m4_0, m4_1, m4_2, m4_3, m4_4, m4_5, m4_6, m4_7, m4_8, m4_9⟩ := cl10 hxb
 obtain ⟨n4_0, n4_1⟩ := cl2 hib
 clear hX4 hB4 hs4 hA4 hb4 hx4 hg4 hxb hib e3_1 e3_2 e3_3 e3_4 e3_5 e3_6 e3_7 e3_8 e3_9 z3_0 z3_1 z3_2 z3_3 z3_4 z3_5 z3_6 z3_7 z3_8 z3_9 m3_0 m3_1 m3_2 m3_3 m3_4 m3_5 m3_6 m3_7 m3_8 m3_9 n3_0 n3_1
 have HZ4 : Hid (Below W4.heap.size W4 W4) := Below.refl _ _
 have HZ3 : Hid (Below W3.heap.size W3 W4) := HC4.out.trans (HZ4.out.mono HC4.out.size)
 have HZ2 : Hid (Below W2.heap.size W2 W4) := HC3.out.trans (HZ3.out.mono HC3.out.size)
 have HZ1 : Hid (Below W1.heap.size W1 W4) := HC2.out.trans (HZ2.out.mono HC2.out.size)
 have HBW : Hid (Below w.heap.size w W4) := HBw3.out.trans (HD4.out.mono HBw3.out.size)
 have hEE : ∀ z : Int, (z == z) = true := fun z => beq_self_eq_true z
 have hBB : ∀ z : Bool, (z == z) = true := fun z => beq_self_eq_true z
 go_wp2_with fail
 let Inv : World → Prop := fun W => Below W4.heap.size W4 W
 have hgo : ∀ W W', Inv W → Below W.heap.size W W' → Inv W' := fun W W' h hb => Below.trans h (hb.mono (Below.size h))
 have HXq : Hid (∀ X' : WIn Inv, X'.world.heap[w.heap.size]? = some (.cells #[.int .i64 X.kind, .int .i64 X.level, .slice S.ea S.el S.ec, .int .i64 X.hb, .string X.hr, .int .i64 X.cr, .int .i64 X.cc, .slice S.ca S.cl S.cc, .int .i64 X.gf, .slice S.ga S.gl S.gc] 33 (0, 0)) ∧ S.At X'.world.heap.size X'.world X) := fun X' => by
  obtain ⟨h1, -, h3, -⟩ := HXY.out X'.world (HD4.out.trans (X'.ok.mono HD4.out.size))
  exact ⟨h1, h3⟩
 have HRq1 : Hid (∀ X' : WIn Inv, X'.world.heap[u1.heap.size]? = some (.cells #[.int .i64 A1.kind, .int .i64 A1.level, .slice p1.ea p1.el p1.ec, .int .i64 A1.hb, .string A1.hr, .int .i64 A1.cr, .int .i64 A1.cc, .slice p1.ca p1.cl p1.cc, .int .i64 A1.gf, .slice p1.ga p1.gl p1.gc] 33 (0, 0)) ∧ p1.At X'.world.heap.size X'.world A1) := fun X' => HR1.out X'.world (HZ1.out.trans (X'.ok.mono HZ1.out.size))
 have q1_0 : ∀ X' : WIn Inv, X'.world.cell? ⟨u1.heap.size, 0, none⟩ = some (.int .i64 A1.kind) := fun X' => cCc (HRq1.out X').1 0
 have q1_1 : ∀ X' : WIn Inv, X'.world.cell? ⟨u1.heap.size, 1, none⟩ = some (.int .i64 A1.level) := fun X' => cCc (HRq1.out X').1 1
 have q1_2 : ∀ X' : WIn Inv, X'.world.cell? ⟨u1.heap.size, 2, none⟩ = some (.slice p1.ea p1.el p1.ec) := fun X' => cCc (HRq1.out X').1 2
 have q1_3 : ∀ X' : WIn Inv, X'.world.cell? ⟨u1.heap.size, 3, none⟩ = some (.int .i64 A1.hb) := fun X' => cCc (HRq1.out X').1 3
 have q1_4 : ∀ X' : WIn Inv, X'.world.cell? ⟨u1.heap.size, 4, none⟩ = some (.string A1.hr) := fun X' => cCc (HRq1.out X').1 4
 have q1_5 : ∀ X' : WIn Inv, X'.world.cell? ⟨u1.heap.size, 5, none⟩ = some (.int .i64 A1.cr) := fun X' => cCc (HRq1.out X').1 5
 have q1_6 : ∀ X' : WIn Inv, X'.world.cell? ⟨u1.heap.size, 6, none⟩ = some (.int .i64 A1.cc) := fun X' => cCc (HRq1.out X').1 6
 have q1_7 : ∀ X' : WIn Inv, X'.world.cell? ⟨u1.heap.size, 7, none⟩ = some (.slice p1.ca p1.cl p1.cc) := fun X' => cCc (HRq1.out X').1 7
 have q1_8 : ∀ X' : WIn Inv, X'.world.cell? ⟨u1.heap.size, 8, none⟩ = some (.int .i64 A1.gf) := fun X' => cCc (HRq1.out X').1 8
 have q1_9 : ∀ X' : WIn Inv, X'.world.cell? ⟨u1.heap.size, 9, none⟩ = some (.slice p1.ga p1.gl p1.gc) := fun X' => cCc (HRq1.out X').1 9
 have HRq2 : Hid (∀ X' : WIn Inv, X'.world.heap[u2.heap.size]? = some (.cells #[.int .i64 A1.kind, .int .i64 A1.level, .slice p2.ea p2.el p2.ec, .int .i64 A1.hb, .string A1.hr, .int .i64 A1.cr, .int .i64 A1.cc, .slice p2.ca p2.cl p2.cc, .int .i64 A1.gf, .slice p2.ga p2.gl p2.gc] 33 (0, 0)) ∧ p2.At X'.world.heap.size X'.world A1) := fun X' => HR2.out X'.world (HZ2.out.trans (X'.ok.mono HZ2.out.size))
 have q2_0 : ∀ X' : WIn Inv, X'.world.cell? ⟨u2.heap.size, 0, none⟩ = some (.int .i64 A1.kind) := fun X' => cCc (HRq2.out X').1 0
 have q2_1 : ∀ X' : WIn Inv, X'.world.cell? ⟨u2.heap.size, 1, none⟩ = some (.int .i64 A1.level) := fun X' => cCc (HRq2.out X').1 1
 have q2_2 : ∀ X' : WIn Inv, X'.world.cell? ⟨u2.heap.size, 2, none⟩ = some (.slice p2.ea p2.el p2.ec) := fun X' => cCc (HRq2.out X').1 2
 have q2_3 : ∀ X' : WIn Inv, X'.world.cell? ⟨u2.heap.size, 3, none⟩ = some (.int .i64 A1.hb) := fun X' => cCc (HRq2.out X').1 3
 have q2_4 : ∀ X' : WIn Inv, X'.world.cell? ⟨u2.heap.size, 4, none⟩ = some (.string A1.hr) := fun X' => cCc (HRq2.out X').1 4
 have q2_5 : ∀ X' : WIn Inv, X'.world.cell? ⟨u2.heap.size, 5, none⟩ = some (.int .i64 A1.cr) := fun X' => cCc (HRq2.out X').1 5
 have q2_6 : ∀ X' : WIn Inv, X'.world.cell? ⟨u2.heap.size, 6, none⟩ = some (.int .i64 A1.cc) := fun X' => cCc (HRq2.out X').1 6
 have q2_7 : ∀ X' : WIn Inv, X'.world.cell? ⟨u2.heap.size, 7, none⟩ = some (.slice p2.ca p2.cl p2.cc) := fun X' => cCc (HRq2.out X').1 7
 have q2_8 : ∀ X' : WIn Inv, X'.world.cell? ⟨u2.heap.size, 8, none⟩ = some (.int .i64 A1.gf) := fun X' => cCc (HRq2.out X').1 8
 have q2_9 : ∀ X' : WIn Inv, X'.world.cell? ⟨u2.heap.size, 9, none⟩ = some (.slice p2.ga p2.gl p2.gc) := fun X' => cCc (HRq2.out X').1 9
 have HRq3 : Hid (∀ X' : WIn Inv, X'.world.heap[u3.heap.size]? = some (.cells #[.int .i64 A2.kind, .int .i64 A2.level, .slice p3.ea p3.el p3.ec, .int .i64 A2.hb, .string A2.hr, .int .i64 A2.cr, .int .i64 A2.cc, .slice p3.ca p3.cl p3.cc, .int .i64 A2.gf, .slice p3.ga p3.gl p3.gc] 33 (0, 0)) ∧ p3.At X'.world.heap.size X'.world A2) := fun X' => HR3.out X'.world (HZ3.out.trans (X'.ok.mono HZ3.out.size))
 have q3_0 : ∀ X' : WIn Inv, X'.world.cell? ⟨u3.heap.size, 0, none⟩ = some (.int .i64 A2.kind) := fun X' => cCc (HRq3.out X').1 0
 have q3_1 : ∀ X' : WIn Inv, X'.world.cell? ⟨u3.heap.size, 1, none⟩ = some (.int .i64 A2.level) := fun X' => cCc (HRq3.out X').1 1
 have q3_2 : ∀ X' : WIn Inv, X'.world.cell? ⟨u3.heap.size, 2, none⟩ = some (.slice p3.ea p3.el p3.ec) := fun X' => cCc (HRq3.out X').1 2
 have q3_3 : ∀ X' : WIn Inv, X'.world.cell? ⟨u3.heap.size, 3, none⟩ = some (.int .i64 A2.hb) := fun X' => cCc (HRq3.out X').1 3
 have q3_4 : ∀ X' : WIn Inv, X'.world.cell? ⟨u3.heap.size, 4, none⟩ = some (.string A2.hr) := fun X' => cCc (HRq3.out X').1 4
 have q3_5 : ∀ X' : WIn Inv, X'.world.cell? ⟨u3.heap.size, 5, none⟩ = some (.int .i64 A2.cr) := fun X' => cCc (HRq3.out X').1 5
 have q3_6 : ∀ X' : WIn Inv, X'.world.cell? ⟨u3.heap.size, 6, none⟩ = some (.int .i64 A2.cc) := fun X' => cCc (HRq3.out X').1 6
 have q3_7 : ∀ X' : WIn Inv, X'.world.cell? ⟨u3.heap.size, 7, none⟩ = some (.slice p3.ca p3.cl p3.cc) := fun X' => cCc (HRq3.out X').1 7
 have q3_8 : ∀ X' : WIn Inv, X'.world.cell? ⟨u3.heap.size, 8, none⟩ = some (.int .i64 A2.gf) := fun X' => cCc (HRq3.out X').1 8
 have q3_9 : ∀ X' : WIn Inv, X'.world.cell? ⟨u3.heap.size, 9, none⟩ = some (.slice p3.ga p3.gl p3.gc) := fun X' => cCc (HRq3.out X').1 9
 have HRq4 : Hid (∀ X' : WIn Inv, X'.world.heap[u4.heap.size]? = some (.cells #[.int .i64 A2.kind, .int .i64 A2.level, .slice p4.ea p4.el p4.ec, .int .i64 A2.hb, .string A2.hr, .int .i64 A2.cr, .int .i64 A2.cc, .slice p4.ca p4.cl p4.cc, .int .i64 A2.gf, .slice p4.ga p4.gl p4.gc] 33 (0, 0)) ∧ p4.At X'.world.heap.size X'.world A2) := fun X' => HR4.out X'.world (HZ4.out.trans (X'.ok.mono HZ4.out.size))
 have q4_0 : ∀ X' : WIn Inv, X'.world.cell? ⟨u4.heap.size, 0, none⟩ = some (.int .i64 A2.kind) := fun X' => cCc (HRq4.out X').1 0
 have q4_1 : ∀ X' : WIn Inv, X'.world.cell? ⟨u4.heap.size, 1, none⟩ = some (.int .i64 A2.level) := fun X' => cCc (HRq4.out X').1 1
 have q4_2 : ∀ X' : WIn Inv, X'.world.cell? ⟨u4.heap.size, 2, none⟩ = some (.slice p4.ea p4.el p4.ec) := fun X' => cCc (HRq4.out X').1 2
 have q4_3 : ∀ X' : WIn Inv, X'.world.cell? ⟨u4.heap.size, 3, none⟩ = some (.int .i64 A2.hb) := fun X' => cCc (HRq4.out X').1 3
 have q4_4 : ∀ X' : WIn Inv, X'.world.cell? ⟨u4.heap.size, 4, none⟩ = some (.string A2.hr) := fun X' => cCc (HRq4.out X').1 4
 have q4_5 : ∀ X' : WIn Inv, X'.world.cell? ⟨u4.heap.size, 5, none⟩ = some (.int .i64 A2.cr) := fun X' => cCc (HRq4.out X').1 5
 have q4_6 : ∀ X' : WIn Inv, X'.world.cell? ⟨u4.heap.size, 6, none⟩ = some (.int .i64 A2.cc) := fun X' => cCc (HRq4.out X').1 6
 have q4_7 : ∀ X' : WIn Inv, X'.world.cell? ⟨u4.heap.size, 7, none⟩ = some (.slice p4.ca p4.cl p4.cc) := fun X' => cCc (HRq4.out X').1 7
 have q4_8 : ∀ X' : WIn Inv, X'.world.cell? ⟨u4.heap.size, 8, none⟩ = some (.int .i64 A2.gf) := fun X' => cCc (HRq4.out X').1 8
 have q4_9 : ∀ X' : WIn Inv, X'.world.cell? ⟨u4.heap.size, 9, none⟩ = some (.slice p4.ga p4.gl p4.gc) := fun X' => cCc (HRq4.out X').1 9
 have qx_0 : ∀ X' : WIn Inv, X'.world.cell? ⟨w.heap.size, 0, none⟩ = some (.int .i64 X.kind) := fun X' => cCc (HXq.out X').1 0
 have qx_1 : ∀ X' : WIn Inv, X'.world.cell? ⟨w.heap.size, 1, none⟩ = some (.int .i64 X.level) := fun X' => cCc (HXq.out X').1 1
 have qx_2 : ∀ X' : WIn Inv, X'.world.cell? ⟨w.heap.size, 2, none⟩ = some (.slice S.ea S.el S.ec) := fun X' => cCc (HXq.out X').1 2
 have qx_3 : ∀ X' : WIn Inv, X'.world.cell? ⟨w.heap.size, 3, none⟩ = some (.int .i64 X.hb) := fun X' => cCc (HXq.out X').1 3
 have qx_4 : ∀ X' : WIn Inv, X'.world.cell? ⟨w.heap.size, 4, none⟩ = some (.string X.hr) := fun X' => cCc (HXq.out X').1 4
 have qx_5 : ∀ X' : WIn Inv, X'.world.cell? ⟨w.heap.size, 5, none⟩ = some (.int .i64 X.cr) := fun X' => cCc (HXq.out X').1 5
 have qx_6 : ∀ X' : WIn Inv, X'.world.cell? ⟨w.heap.size, 6, none⟩ = some (.int .i64 X.cc) := fun X' => cCc (HXq.out X').1 6
 have qx_7 : ∀ X' : WIn Inv, X'.world.cell? ⟨w.heap.size, 7, none⟩ = some (.slice S.ca S.cl S.cc) := fun X' => cCc (HXq.out X').1 7
 have qx_8 : ∀ X' : WIn Inv, X'.world.cell? ⟨w.heap.size, 8, none⟩ = some (.int .i64 X.gf) := fun X' => cCc (HXq.out X').1 8
 have qx_9 : ∀ X' : WIn Inv, X'.world.cell? ⟨w.heap.size, 9, none⟩ = some (.slice S.ga S.gl S.gc) := fun X' => cCc (HXq.out X').1 9
 have K1 : Hid (∀ X' : WIn Inv, Calls Tryz.prog 13 #[.agg #[.int .i64 A1.kind, .int .i64 A1.level, .slice p1.ea p1.el p1.ec, .int .i64 A1.hb, .string A1.hr, .int .i64 A1.cr, .int .i64 A1.cc, .slice p1.ca p1.cl p1.cc, .int .i64 A1.gf, .slice p1.ga p1.gl p1.gc], .agg #[.int .i64 A1.kind, .int .i64 A1.level, .slice p2.ea p2.el p2.ec, .int .i64 A1.hb, .string A1.hr, .int .i64 A1.cr, .int .i64 A1.cc, .slice p2.ca p2.cl p2.cc, .int .i64 A1.gf, .slice p2.ga p2.gl p2.gc]] X'.world fun e w' => e = .returned (.bool true) ∧ ∃ Z : WIn Inv, w' = Z.world) := fun X' => calls_class_below hgo (by have h9 := ref10_Same_any A1 A1 p1 p2 X'.world (HRq1.out X').2 (HRq2.out X').2; rw [sk_same] at h9; exact h9)
 have K2 : Hid (∀ X' : WIn Inv, Calls Tryz.prog 13 #[.agg #[.int .i64 A2.kind, .int .i64 A2.level, .slice p3.ea p3.el p3.ec, .int .i64 A2.hb, .string A2.hr, .int .i64 A2.cr, .int .i64 A2.cc, .slice p3.ca p3.cl p3.cc, .int .i64 A2.gf, .slice p3.ga p3.gl p3.gc], .agg #[.int .i64 A2.kind, .int .i64 A2.level, .slice p4.ea p4.el p4.ec, .int .i64 A2.hb, .string A2.hr, .int .i64 A2.cr, .int .i64 A2.cc, .slice p4.ca p4.cl p4.cc, .int .i64 A2.gf, .slice p4.ga p4.gl p4.gc]] X'.world fun e w' => e = .returned (.bool true) ∧ ∃ Z : WIn Inv, w' = Z.world) := fun X' => calls_class_below hgo (by have h9 := ref10_Same_any A2 A2 p3 p4 X'.world (HRq3.out X').2 (HRq4.out X').2; rw [sk_same] at h9; exact h9)
 have R1 : Hid (∀ X' : WIn Inv, Calls Tryz.prog 19 #[.agg #[.int .i64 X.kind, .int .i64 X.level, .slice S.ea S.el S.ec, .int .i64 X.hb, .string X.hr, .int .i64 X.cr, .int .i64 X.cc, .slice S.ca S.cl S.cc, .int .i64 X.gf, .slice S.ga S.gl S.gc]] X'.world fun e w' => e = .returned (.bool r1) ∧ ∃ Z : WIn Inv, w' = Z.world) := fun X' => calls_class_below hgo (Q1.out X'.world (HXq.out X').2)
 have R2 : Hid (∀ X' : WIn Inv, Calls Tryz.prog 20 #[.agg #[.int .i64 X.kind, .int .i64 X.level, .slice S.ea S.el S.ec, .int .i64 X.hb, .string X.hr, .int .i64 X.cr, .int .i64 X.cc, .slice S.ca S.cl S.cc, .int .i64 X.gf, .slice S.ga S.gl S.gc]] X'.world fun e w' => e = .returned (.bool r1) ∧ ∃ Z : WIn Inv, w' = Z.world) := fun X' => calls_class_below hgo (Q2.out X'.world (HXq.out X').2)
 have R3 : Hid (∀ X' : WIn Inv, Calls Tryz.prog 23 #[.agg #[.int .i64 X.kind, .int .i64 X.level, .slice S.ea S.el S.ec, .int .i64 X.hb, .string X.hr, .int .i64 X.cr, .int .i64 X.cc, .slice S.ca S.cl S.cc, .int .i64 X.gf, .slice S.ga S.gl S.gc]] X'.world fun e w' => e = .returned (.int .i64 r2) ∧ ∃ Z : WIn Inv, w' = Z.world) := fun X' => calls_class_below hgo (Q3.out X'.world (HXq.out X').2)
 have R4 : Hid (∀ X' : WIn Inv, Calls Tryz.prog 24 #[.agg #[.int .i64 X.kind, .int .i64 X.level, .slice S.ea S.el S.ec, .int .i64 X.hb, .string X.hr, .int .i64 X.cr, .int .i64 X.cc, .slice S.ca S.cl S.cc, .int .i64 X.gf, .slice S.ga S.gl S.gc]] X'.world fun e w' => e = .returned (.int .i64 r2) ∧ ∃ Z : WIn Inv, w' = Z.world) := fun X' => calls_class_below hgo (Q4.out X'.world (HXq.out X').2)
 have R5 : Hid (∀ X' : WIn Inv, Calls Tryz.prog 25 #[.agg #[.int .i64 X.kind, .int .i64 X.level, .slice S.ea S.el S.ec, .int .i64 X.hb, .string X.hr, .int .i64 X.cr, .int .i64 X.cc, .slice S.ca S.cl S.cc, .int .i64 X.gf, .slice S.ga S.gl S.gc], .int .u64 hN] X'.world fun e w' => e = .returned (.int .u64 r3) ∧ ∃ Z : WIn Inv, w' = Z.world) := fun X' => calls_class_below hgo (Q5.out X'.world (HXq.out X').2)
 have R6 : Hid (∀ X' : WIn Inv, Calls Tryz.prog 26 #[.agg #[.int .i64 X.kind, .int .i64 X.level, .slice S.ea S.el S.ec, .int .i64 X.hb, .string X.hr, .int .i64 X.cr, .int .i64 X.cc, .slice S.ca S.cl S.cc, .int .i64 X.gf, .slice S.ga S.gl S.gc], .int .u64 hN] X'.world fun e w' => e = .returned (.int .u64 r3) ∧ ∃ Z : WIn Inv, w' = Z.world) := fun X' => calls_class_below hgo (Q6.out X'.world (HXq.out X').2)
 have R7 : Hid (∀ X' : WIn Inv, Calls Tryz.prog 21 #[.int .i64 kd] X'.world fun e w' => e = .returned (.int .i64 r4) ∧ ∃ Z : WIn Inv, w' = Z.world) := fun X' => calls_class_below hgo (Q7.out X'.world (HXq.out X').2)
 have R8 : Hid (∀ X' : WIn Inv, Calls Tryz.prog 22 #[.int .i64 kd] X'.world fun e w' => e = .returned (.int .i64 r4) ∧ ∃ Z : WIn Inv, w' = Z.world) := fun X' => calls_class_below hgo (Q8.out X'.world (HXq.out X').2)
 have HQ : Hid (∀ X' : WIn Inv, Below W4.heap.size W4 X'.world) := fun X' => X'.ok
 have hI0 : Hid (Inv (World.drew W4)) := (Below.refl _ _).drew
 have hne : Nonempty (WIn Inv) := ⟨⟨_, hI0.out⟩⟩
 clear hgo m4_0 m4_1 m4_2 m4_3 m4_4 m4_5 m4_6 m4_7 m4_8 m4_9 n4_0 n4_1 e4_1 e4_2 e4_3 e4_4 e4_5 e4_6 e4_7 e4_8 e4_9 z4_0 z4_1 z4_2 z4_3 z4_4 z4_5 z4_6 z4_7 z4_8 z4_9
 clear_value Inv
 refine wp_region_class Inv (by kernel_rfl) (by kernel_rfl) hI0.out ?_
 repeat (first
  | go_big_quiet_step (first | (go_at_call 13; with_reducible first | exact K1.out _ | exact K2.out _) | (go_at_call 19; with_reducible exact R1.out _) | (go_at_call 20; with_reducible exact R2.out _) | (go_at_call 23; with_reducible exact R3.out _) | (go_at_call 24; with_reducible exact R4.out _) | (go_at_call 25; with_reducible exact R5.out _) | (go_at_call 26; with_reducible exact R6.out _) | (go_at_call 21; with_reducible exact R7.out _) | (go_at_call 22; with_reducible exact R8.out _))
  | quiet_step (first | (go_at_call 13; with_reducible first | exact K1.out _ | exact K2.out _) | (go_at_call 19; with_reducible exact R1.out _) | (go_at_call 20; with_reducible exact R2.out _) | (go_at_call 23; with_reducible exact R3.out _) | (go_at_call 24; with_reducible exact R4.out _) | (go_at_call 25; with_reducible exact R5.out _) | (go_at_call 26; with_reducible exact R6.out _) | (go_at_call 21; with_reducible exact R7.out _) | (go_at_call 22; with_reducible exact R8.out _)))
 refine wpQuiet_nil ?_
 rintro _ ⟨X', rfl⟩
 have HBX := HQ.out X'
 go_wp2_with fail
 go_ret
 exact ⟨rfl, HBW.out.trans (HBX.mono HBW.out.size)⟩
end Go.Proofs.YtcbbenncdainfaaGreatDoor

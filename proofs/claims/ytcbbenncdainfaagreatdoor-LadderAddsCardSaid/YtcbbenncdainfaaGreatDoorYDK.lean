/- The reference of layer 10: lower, at the sketches of the program's. Printed by gen_dk.py. -/
import Derived.Test.YtcbbenncdainfaaGreatDoorYDI
import Derived.Test.YtcbbenncdainfaaGreatDoorYDJ
namespace Go.Proofs.YtcbbenncdainfaaGreatDoor
open Go Go.RowKit Go.Shelf
def LowP (y : Sk) (w : World) (e : Ending) (w' : World) : Prop := ∃ p : SS, e = .returned (.agg #[.int .i64 y.kind, .int .i64 y.level, .slice p.ea p.el p.ec, .int .i64 y.hb, .string y.hr, .int .i64 y.cr, .int .i64 y.cc, .slice p.ca p.cl p.cc, .int .i64 y.gf, .slice p.ga p.gl p.gc]) ∧ p.At w'.heap.size w' y ∧ Below w.heap.size w w'
theorem SS.At.apart {s : SS} {W V : World} {y : Sk} (h : s.At W.heap.size W y) {b : Nat} {cs : Array Value} {t : TypeId} (hX : W.heap[b]? = some (.cells cs t (0, 0))) (hc : ∀ (i : Nat) (u : Int), cs[i]? ≠ some (Value.int .u64 u)) (hV : OnlyAt b W V) : s.At V.heap.size V y :=
 ⟨slC_apart (i0 := 0) (by decide) (fun x => ⟨x, rfl⟩) hX hc hV h.e, slC_apart (i0 := 0) (by decide) (fun x => ⟨x, rfl⟩) hX hc hV h.c, slC_apart (i0 := 1) (by decide) (fun x => ⟨x.2, rfl⟩) hX hc hV h.g⟩
theorem noU10 (k L hb cr cc gf : Int) (hr : ByteArray) (ea ca ga : Option Addr) (el ec cl cp gl gc : Nat) (i : Nat) (u : Int) : (#[.int .i64 k, .int .i64 L, .slice ea el ec, .int .i64 hb, .string hr, .int .i64 cr, .int .i64 cc, .slice ca cl cp, .int .i64 gf, .slice ga gl gc] : Array Value)[i]? ≠ some (.int .u64 u) := by
 intro h
 rcases i with _ | _ | _ | _ | _ | _ | _ | _ | _ | _ | i <;> simp at h
def zSS : SS := ⟨none, 0, 0, none, 0, 0, none, 0, 0⟩
theorem At.nil (k L hb cr cc gf : Int) (hr : ByteArray) (n : Nat) (w : World) : zSS.At n w ⟨k, L, [], hb, hr, cr, cc, [], gf, []⟩ := ⟨slC_nil, slC_nil, slC_nil⟩
set_option maxRecDepth 100000 in
set_option maxHeartbeats 4000000 in
theorem ref10_lower_num (l : List Int) (s : SS) (w : World) (hA : s.At w.heap.size w (skNum 1 0 l : Sk)) (hU : U64s l) (hl : l.length ≤ 64) :
  Calls Tryz.prog 35 #[.agg #[.int .i64 1, .int .i64 0, .slice s.ea s.el s.ec, .int .i64 0, .string ⟨#[]⟩, .int .i64 0, .int .i64 0, .slice s.ca s.cl s.cc, .int .i64 0, .slice s.ga s.gl s.gc]] w (LowP (skReg 1 1 7 (hlStr (hlSum 7 (hlNone 7) (l.map Int.toNat)))) w) := by
 obtain ⟨out, hout⟩ : ∃ out, hlStr (hlSum 7 (hlNone 7) (l.map Int.toNat)) = out := ⟨_, rfl⟩
 rw [hout]
 obtain ⟨W0, hW0, hX0, hXr, hB0, hs0⟩ := boxes2 w #[.int .i64 1, .int .i64 0, .slice s.ea s.el s.ec, .int .i64 0, .string ⟨#[]⟩, .int .i64 0, .int .i64 0, .slice s.ca s.cl s.cc, .int .i64 0, .slice s.ga s.gl s.gc] 33 #[.int .i64 0, .int .i64 0, .slice none 0 0, .int .i64 0, .string ⟨#[]⟩, .int .i64 0, .int .i64 0, .slice none 0 0, .int .i64 0, .slice none 0 0] 33
 obtain ⟨W1, hW1, hX1, hB1, hs1⟩ := boxes1 W0 #[.int .i64 1, .int .i64 1, .slice none 0 0, .int .i64 0, .string ⟨#[]⟩, .int .i64 0, .int .i64 0, .slice none 0 0, .int .i64 0, .slice none 0 0] 33
 rw [hs0] at hX1
 have HO : Hid (Calls Tryz.prog 68 #[.int .i64 7, .slice s.ea s.el s.ec] W1 fun e w' => e = .returned (.tuple #[.agg #[.int .i64 7, .string out], .int .i64 0]) ∧ Below W1.heap.size W1 w') := by rw [← hout]; exact ref07_Of_any 7 l _ _ _ W1 (by omega) (by omega) ((hA.go hB0).go hB1).e.1 hU (by have := hA.e.1.1; simp only [skNum] at this; omega)
 have hx1 := known hB1 (Nat.le_refl _) hX0
 have HXr1 := Lib.hid (known hB1 (Nat.le_refl _) hXr)
 have HB1 : Hid (Below w.heap.size w W1) := hB0.trans (hB1.mono hB0.size)
 have HY1 := Lib.hid hX1
 have HZ1 : Hid (W1.heap.size = w.heap.size + 3) := by rw [Hid, hs1, hs0]
 have HA1 := Lib.hid ((hA.go hB0).go hB1)
 obtain ⟨d0, d1, d2, d3, d4, d5, d6, d7, d8, d9⟩ := cl10 hX0
 obtain ⟨a0, a1, a2, a3, a4, a5, a6, a7, a8, a9⟩ := cl10 hx1
 obtain ⟨c0, c1, c2, c3, c4, c5, c6, c7, c8, c9⟩ := cl10 hX1
 obtain ⟨f0, f1, f2, f3, f4, f5, f6, f7, f8, f9⟩ := cz10 hX1
 have e1 : W1.setCell ⟨w.heap.size + 2, 1, none⟩ (.int .i64 1) = W1 := set_same hX1 rfl
 have e2 : W1.setCell ⟨w.heap.size + 2, 2, none⟩ (.slice none 0 0) = W1 := set_same hX1 rfl
 have e3 : W1.setCell ⟨w.heap.size + 2, 3, none⟩ (.int .i64 0) = W1 := set_same hX1 rfl
 have e4 : W1.setCell ⟨w.heap.size + 2, 4, none⟩ (.string ⟨#[]⟩) = W1 := set_same hX1 rfl
 have e5 : W1.setCell ⟨w.heap.size + 2, 5, none⟩ (.int .i64 0) = W1 := set_same hX1 rfl
 have e6 : W1.setCell ⟨w.heap.size + 2, 6, none⟩ (.int .i64 0) = W1 := set_same hX1 rfl
 have e7 : W1.setCell ⟨w.heap.size + 2, 7, none⟩ (.slice none 0 0) = W1 := set_same hX1 rfl
 have e8 : W1.setCell ⟨w.heap.size + 2, 8, none⟩ (.int .i64 0) = W1 := set_same hX1 rfl
 have e9 : W1.setCell ⟨w.heap.size + 2, 9, none⟩ (.slice none 0 0) = W1 := set_same hX1 rfl
 clear hX0 hXr hB0 hX1 hB1 hx1 hA hs1
 go_enter Tryz.func35, Tryz.ntmps35
 go_wp2_with fail
 refine (HO.out).mono ?_
 rintro e w2 ⟨rfl, hb2⟩
 have hY2 := known hb2 (Nat.le_refl _) HY1.out
 have hR2 := known hb2 (Nat.le_refl _) HXr1.out
 have HB2 : Hid (Below w.heap.size w w2) := HB1.out.trans (hb2.mono HB1.out.size)
 obtain ⟨m0, m1, m2, m3, m4, m5, m6, m7, m8, m9⟩ := cl10 hY2
 obtain ⟨g0, g1, g2, g3, g4, g5, g6, g7, g8, g9⟩ := cz10 hY2
 obtain ⟨V, hV⟩ : ∃ V, ((w2.setCell ⟨w.heap.size + 2, 3, none⟩ (.int .i64 7)).setCell ⟨w.heap.size + 2, 4, none⟩ (.string out)) = V := ⟨_, rfl⟩
 have hYV : V.heap[w.heap.size + 2]? = some (.cells #[.int .i64 1, .int .i64 1, .slice none 0 0, .int .i64 7, .string out, .int .i64 0, .int .i64 0, .slice none 0 0, .int .i64 0, .slice none 0 0] 33 (0, 0)) := by rw [← hV]; exact hSk (hSk (hY2) _) _
 have hOV : OnlyAt (w.heap.size + 2) w2 V := by rw [← hV]; exact ((OnlyAt.refl _ _).set _ _).set _ _
 have hBV : Below w.heap.size w V := by rw [← hV]; exact ((HB2.out).setCell (p := ⟨w.heap.size + 2, 3, none⟩) (by show w.heap.size ≤ w.heap.size + 2; omega) _).setCell (p := ⟨w.heap.size + 2, 4, none⟩) (by show w.heap.size ≤ w.heap.size + 2; omega) _
 have hRV : V.heap[w.heap.size + 1]? = some (.cells #[.int .i64 0, .int .i64 0, .slice none 0 0, .int .i64 0, .string ⟨#[]⟩, .int .i64 0, .int .i64 0, .slice none 0 0, .int .i64 0, .slice none 0 0] 33 (0, 0)) := (hOV.2 _ (by omega)).trans hR2
 have hAV : (zSS : SS).At V.heap.size V (skReg 1 1 7 out) := SS.At.apart (At.nil _ _ _ _ _ _ _ _ _) hY2 (noU10 _ _ _ _ _ _ _ _ _ _ _ _ _ _ _ _) hOV
 obtain ⟨n0, n1, n2, n3, n4, n5, n6, n7, n8, n9⟩ := cl10 hYV
 obtain ⟨r0, r1, r2, r3, r4, r5, r6, r7, r8, r9⟩ := cl10 hRV
 obtain ⟨h0, h1, h2, h3, h4, h5, h6, h7, h8, h9⟩ := cz10 hRV
 obtain ⟨U, hU, hXU, hOU, hBU⟩ := store10 (.int .i64 1) (.int .i64 1) (.slice none 0 0) (.int .i64 7) (.string out) (.int .i64 0) (.int .i64 0) (.slice none 0 0) (.int .i64 0) (.slice none 0 0) hRV
 obtain ⟨k0, k1, k2, k3, k4, k5, k6, k7, k8, k9⟩ := cl10 hXU
 have HBU : Hid (Below w.heap.size w U) := hBU _ _ hBV (by omega)
 have HAU : Hid ((zSS : SS).At U.heap.size U (skReg 1 1 7 out)) := hAV.apart hRV (noU10 _ _ _ _ _ _ _ _ _ _ _ _ _ _ _ _) hOU
 clear hY2 hR2 hYV hOV hBV hRV hAV hXU hOU hBU hb2
 go_wp2_with fail
 exact bodyPost_ret (v := .agg #[.int .i64 1, .int .i64 1, .slice none 0 0, .int .i64 7, .string out, .int .i64 0, .int .i64 0, .slice none 0 0, .int .i64 0, .slice none 0 0]) (by simp [results, Tryz.f35, go_sem, k0, k1, k2, k3, k4, k5, k6, k7, k8, k9]) rfl ⟨zSS, rfl, HAU.out, HBU.out⟩
set_option maxRecDepth 100000 in
set_option maxHeartbeats 4000000 in
theorem ref10_lower_reg (L b : Nat) (r : List Nat) (s : SS) (w : World) (hA : s.At w.heap.size w (skReg 1 L b (hlStr r) : Sk)) (hL1 : 1 ≤ L) (hL4 : L ≤ 4) (h1 : 4 ≤ b) (h2 : b ≤ 8) (hl : r.length = 2 ^ b) (hr : ∀ i, r.getD i 0 ≤ 65 - b) :
  Calls Tryz.prog 35 #[.agg #[.int .i64 1, .int .i64 L, .slice s.ea s.el s.ec, .int .i64 b, .string (hlStr r), .int .i64 0, .int .i64 0, .slice s.ca s.cl s.cc, .int .i64 0, .slice s.ga s.gl s.gc]] w (LowP (skReg 1 ((L : Int) + 1) ((b - 1 : Nat) : Int) (hlStr (hlLow b r))) w) := by
 obtain ⟨x, hx⟩ : ∃ x, hlStr r = x := ⟨_, rfl⟩
 obtain ⟨out, hout⟩ : ∃ x, hlStr (hlLow b r) = x := ⟨_, rfl⟩
 obtain ⟨b1, hb1⟩ : ∃ x, ((b - 1 : Nat) : Int) = x := ⟨_, rfl⟩
 rw [hx] at hA ⊢
 rw [hout, hb1]
 obtain ⟨W0, hW0, hX0, hXr, hB0, hs0⟩ := boxes2 w #[.int .i64 1, .int .i64 L, .slice s.ea s.el s.ec, .int .i64 b, .string x, .int .i64 0, .int .i64 0, .slice s.ca s.cl s.cc, .int .i64 0, .slice s.ga s.gl s.gc] 33 #[.int .i64 0, .int .i64 0, .slice none 0 0, .int .i64 0, .string ⟨#[]⟩, .int .i64 0, .int .i64 0, .slice none 0 0, .int .i64 0, .slice none 0 0] 33
 obtain ⟨W1, hW1, hX1, hB1, hs1⟩ := boxes1 W0 #[.int .i64 1, .int .i64 ((L : Int) + 1), .slice none 0 0, .int .i64 0, .string ⟨#[]⟩, .int .i64 0, .int .i64 0, .slice none 0 0, .int .i64 0, .slice none 0 0] 33
 rw [hs0] at hX1
 have HO : Hid (Calls Tryz.prog 69 #[.agg #[.int .i64 b, .string x]] W1 fun e w' => e = .returned (.tuple #[.agg #[.int .i64 b1, .string out], .int .i64 0]) ∧ Below W1.heap.size W1 w') := by rw [← hx, ← hout, ← hb1]; exact ref07_Lower_any b r W1 h1 h2 hl hr
 have t0 : ((L : Int) == 0) = false := by rw [beq_eq_false_iff_ne]; omega
 have t1 : (L : Int) ≤ 4 := by omega
 have t2 : (1 : Int) ≤ (L : Int) := by omega
 clear hx hl hr hout hb1
 have hx1 := known hB1 (Nat.le_refl _) hX0
 have HXr1 := Lib.hid (known hB1 (Nat.le_refl _) hXr)
 have HB1 : Hid (Below w.heap.size w W1) := hB0.trans (hB1.mono hB0.size)
 have HY1 := Lib.hid hX1
 have HZ1 : Hid (W1.heap.size = w.heap.size + 3) := by rw [Hid, hs1, hs0]
 have HA1 := Lib.hid ((hA.go hB0).go hB1)
 obtain ⟨d0, d1, d2, d3, d4, d5, d6, d7, d8, d9⟩ := cl10 hX0
 obtain ⟨a0, a1, a2, a3, a4, a5, a6, a7, a8, a9⟩ := cl10 hx1
 obtain ⟨c0, c1, c2, c3, c4, c5, c6, c7, c8, c9⟩ := cl10 hX1
 obtain ⟨f0, f1, f2, f3, f4, f5, f6, f7, f8, f9⟩ := cz10 hX1
 have e1 : W1.setCell ⟨w.heap.size + 2, 1, none⟩ (.int .i64 ((L : Int) + 1)) = W1 := set_same hX1 rfl
 have e2 : W1.setCell ⟨w.heap.size + 2, 2, none⟩ (.slice none 0 0) = W1 := set_same hX1 rfl
 have e3 : W1.setCell ⟨w.heap.size + 2, 3, none⟩ (.int .i64 0) = W1 := set_same hX1 rfl
 have e4 : W1.setCell ⟨w.heap.size + 2, 4, none⟩ (.string ⟨#[]⟩) = W1 := set_same hX1 rfl
 have e5 : W1.setCell ⟨w.heap.size + 2, 5, none⟩ (.int .i64 0) = W1 := set_same hX1 rfl
 have e6 : W1.setCell ⟨w.heap.size + 2, 6, none⟩ (.int .i64 0) = W1 := set_same hX1 rfl
 have e7 : W1.setCell ⟨w.heap.size + 2, 7, none⟩ (.slice none 0 0) = W1 := set_same hX1 rfl
 have e8 : W1.setCell ⟨w.heap.size + 2, 8, none⟩ (.int .i64 0) = W1 := set_same hX1 rfl
 have e9 : W1.setCell ⟨w.heap.size + 2, 9, none⟩ (.slice none 0 0) = W1 := set_same hX1 rfl
 clear hX0 hXr hB0 hX1 hB1 hx1 hA hs1
 go_enter Tryz.func35, Tryz.ntmps35
 go_wp2_with fail
 refine (HO.out).mono ?_
 rintro e w2 ⟨rfl, hb2⟩
 have hY2 := known hb2 (Nat.le_refl _) HY1.out
 have hR2 := known hb2 (Nat.le_refl _) HXr1.out
 have HB2 : Hid (Below w.heap.size w w2) := HB1.out.trans (hb2.mono HB1.out.size)
 obtain ⟨m0, m1, m2, m3, m4, m5, m6, m7, m8, m9⟩ := cl10 hY2
 obtain ⟨g0, g1, g2, g3, g4, g5, g6, g7, g8, g9⟩ := cz10 hY2
 obtain ⟨V, hV⟩ : ∃ V, ((w2.setCell ⟨w.heap.size + 2, 3, none⟩ (.int .i64 b1)).setCell ⟨w.heap.size + 2, 4, none⟩ (.string out)) = V := ⟨_, rfl⟩
 have hYV : V.heap[w.heap.size + 2]? = some (.cells #[.int .i64 1, .int .i64 ((L : Int) + 1), .slice none 0 0, .int .i64 b1, .string out, .int .i64 0, .int .i64 0, .slice none 0 0, .int .i64 0, .slice none 0 0] 33 (0, 0)) := by rw [← hV]; exact hSk (hSk (hY2) _) _
 have hOV : OnlyAt (w.heap.size + 2) w2 V := by rw [← hV]; exact ((OnlyAt.refl _ _).set _ _).set _ _
 have hBV : Below w.heap.size w V := by rw [← hV]; exact ((HB2.out).setCell (p := ⟨w.heap.size + 2, 3, none⟩) (by show w.heap.size ≤ w.heap.size + 2; omega) _).setCell (p := ⟨w.heap.size + 2, 4, none⟩) (by show w.heap.size ≤ w.heap.size + 2; omega) _
 have hRV : V.heap[w.heap.size + 1]? = some (.cells #[.int .i64 0, .int .i64 0, .slice none 0 0, .int .i64 0, .string ⟨#[]⟩, .int .i64 0, .int .i64 0, .slice none 0 0, .int .i64 0, .slice none 0 0] 33 (0, 0)) := (hOV.2 _ (by omega)).trans hR2
 have hAV : (zSS : SS).At V.heap.size V (skReg 1 ((L : Int) + 1) b1 out) := SS.At.apart (At.nil _ _ _ _ _ _ _ _ _) hY2 (noU10 _ _ _ _ _ _ _ _ _ _ _ _ _ _ _ _) hOV
 obtain ⟨n0, n1, n2, n3, n4, n5, n6, n7, n8, n9⟩ := cl10 hYV
 obtain ⟨r0, r1, r2, r3, r4, r5, r6, r7, r8, r9⟩ := cl10 hRV
 obtain ⟨h0, h1, h2, h3, h4, h5, h6, h7, h8, h9⟩ := cz10 hRV
 obtain ⟨U, hU, hXU, hOU, hBU⟩ := store10 (.int .i64 1) (.int .i64 ((L : Int) + 1)) (.slice none 0 0) (.int .i64 b1) (.string out) (.int .i64 0) (.int .i64 0) (.slice none 0 0) (.int .i64 0) (.slice none 0 0) hRV
 obtain ⟨k0, k1, k2, k3, k4, k5, k6, k7, k8, k9⟩ := cl10 hXU
 have HBU : Hid (Below w.heap.size w U) := hBU _ _ hBV (by omega)
 have HAU : Hid ((zSS : SS).At U.heap.size U (skReg 1 ((L : Int) + 1) b1 out)) := hAV.apart hRV (noU10 _ _ _ _ _ _ _ _ _ _ _ _ _ _ _ _) hOU
 clear hY2 hR2 hYV hOV hBV hRV hAV hXU hOU hBU hb2
 go_wp2_with fail
 exact bodyPost_ret (v := .agg #[.int .i64 1, .int .i64 ((L : Int) + 1), .slice none 0 0, .int .i64 b1, .string out, .int .i64 0, .int .i64 0, .slice none 0 0, .int .i64 0, .slice none 0 0]) (by simp [results, Tryz.f35, go_sem, k0, k1, k2, k3, k4, k5, k6, k7, k8, k9]) rfl ⟨zSS, rfl, HAU.out, HBU.out⟩
set_option maxRecDepth 100000 in
set_option maxHeartbeats 4000000 in
theorem ref10_lower_cnt (L c : Nat) (l : List Int) (s : SS) (w : World) (hA : s.At w.heap.size w (skCnt 2 L 2 c l : Sk)) (hL : L ≤ 2) (hc : c = 8 ∨ c = 16 ∨ c = 32) (hn : l.length = c + c) (hU : U64s l) :
  Calls Tryz.prog 35 #[.agg #[.int .i64 2, .int .i64 L, .slice s.ea s.el s.ec, .int .i64 0, .string ⟨#[]⟩, .int .i64 2, .int .i64 c, .slice s.ca s.cl s.cc, .int .i64 0, .slice s.ga s.gl s.gc]] w (LowP (skCnt 2 ((L : Int) + 1) 2 ((c / 2 : Nat) : Int) (cmLow c l)) w) := by
 obtain ⟨m, hm⟩ : ∃ m, cmLow c l = m := ⟨_, rfl⟩
 obtain ⟨ml, hml⟩ : ∃ n, m.length = n := ⟨_, rfl⟩
 obtain ⟨cq, hc1⟩ : ∃ n, ((c / 2 : Nat) : Int) = n := ⟨_, rfl⟩
 rw [hm, hc1]
 obtain ⟨W0, hW0, hX0, hXr, hB0, hs0⟩ := boxes2 w #[.int .i64 2, .int .i64 L, .slice s.ea s.el s.ec, .int .i64 0, .string ⟨#[]⟩, .int .i64 2, .int .i64 c, .slice s.ca s.cl s.cc, .int .i64 0, .slice s.ga s.gl s.gc] 33 #[.int .i64 0, .int .i64 0, .slice none 0 0, .int .i64 0, .string ⟨#[]⟩, .int .i64 0, .int .i64 0, .slice none 0 0, .int .i64 0, .slice none 0 0] 33
 obtain ⟨W1, hW1, hX1, hB1, hs1⟩ := boxes1 W0 #[.int .i64 2, .int .i64 ((L : Int) + 1), .slice none 0 0, .int .i64 0, .string ⟨#[]⟩, .int .i64 0, .int .i64 0, .slice none 0 0, .int .i64 0, .slice none 0 0] 33
 rw [hs0] at hX1
 have HO : Hid (Calls Tryz.prog 70 #[.agg #[.int .i64 2, .int .i64 c, .slice s.ca s.cl s.cc]] W1 fun e w' => ∃ a cap, e = .returned (.tuple #[.agg #[.int .i64 2, .int .i64 cq, .slice a ml cap], .int .i64 0]) ∧ SlC encU 1 w'.heap.size w' a ml cap m ∧ Below W1.heap.size W1 w') := by rw [← hc1, ← hml, ← hm]; exact ref08_Lower_any c l _ _ _ W1 hc ((hA.go hB0).go hB1).c hn hU
 have t1 : (L : Int) ≤ 2 := by omega
 have t2 : (0 : Int) ≤ (L : Int) := Int.natCast_nonneg _
 clear hc hn hU hm hml hc1
 have hx1 := known hB1 (Nat.le_refl _) hX0
 have HXr1 := Lib.hid (known hB1 (Nat.le_refl _) hXr)
 have HB1 : Hid (Below w.heap.size w W1) := hB0.trans (hB1.mono hB0.size)
 have HY1 := Lib.hid hX1
 have HZ1 : Hid (W1.heap.size = w.heap.size + 3) := by rw [Hid, hs1, hs0]
 have HA1 := Lib.hid ((hA.go hB0).go hB1)
 obtain ⟨d0, d1, d2, d3, d4, d5, d6, d7, d8, d9⟩ := cl10 hX0
 obtain ⟨a0, a1, a2, a3, a4, a5, a6, a7, a8, a9⟩ := cl10 hx1
 obtain ⟨c0, c1, c2, c3, c4, c5, c6, c7, c8, c9⟩ := cl10 hX1
 obtain ⟨f0, f1, f2, f3, f4, f5, f6, f7, f8, f9⟩ := cz10 hX1
 have e1 : W1.setCell ⟨w.heap.size + 2, 1, none⟩ (.int .i64 ((L : Int) + 1)) = W1 := set_same hX1 rfl
 have e2 : W1.setCell ⟨w.heap.size + 2, 2, none⟩ (.slice none 0 0) = W1 := set_same hX1 rfl
 have e3 : W1.setCell ⟨w.heap.size + 2, 3, none⟩ (.int .i64 0) = W1 := set_same hX1 rfl
 have e4 : W1.setCell ⟨w.heap.size + 2, 4, none⟩ (.string ⟨#[]⟩) = W1 := set_same hX1 rfl
 have e5 : W1.setCell ⟨w.heap.size + 2, 5, none⟩ (.int .i64 0) = W1 := set_same hX1 rfl
 have e6 : W1.setCell ⟨w.heap.size + 2, 6, none⟩ (.int .i64 0) = W1 := set_same hX1 rfl
 have e7 : W1.setCell ⟨w.heap.size + 2, 7, none⟩ (.slice none 0 0) = W1 := set_same hX1 rfl
 have e8 : W1.setCell ⟨w.heap.size + 2, 8, none⟩ (.int .i64 0) = W1 := set_same hX1 rfl
 have e9 : W1.setCell ⟨w.heap.size + 2, 9, none⟩ (.slice none 0 0) = W1 := set_same hX1 rfl
 clear hX0 hXr hB0 hX1 hB1 hx1 hA hs1
 go_enter Tryz.func35, Tryz.ntmps35
 go_wp2_with fail
 refine (HO.out).mono ?_
 rintro e w2 ⟨qa, qc, rfl, hS2, hb2⟩
 have hY2 := known hb2 (Nat.le_refl _) HY1.out
 have hR2 := known hb2 (Nat.le_refl _) HXr1.out
 have HB2 : Hid (Below w.heap.size w w2) := HB1.out.trans (hb2.mono HB1.out.size)
 obtain ⟨m0, m1, m2, m3, m4, m5, m6, m7, m8, m9⟩ := cl10 hY2
 obtain ⟨g0, g1, g2, g3, g4, g5, g6, g7, g8, g9⟩ := cz10 hY2
 obtain ⟨V, hV⟩ : ∃ V, (((w2.setCell ⟨w.heap.size + 2, 5, none⟩ (.int .i64 2)).setCell ⟨w.heap.size + 2, 6, none⟩ (.int .i64 cq)).setCell ⟨w.heap.size + 2, 7, none⟩ (.slice qa ml qc)) = V := ⟨_, rfl⟩
 have hYV : V.heap[w.heap.size + 2]? = some (.cells #[.int .i64 2, .int .i64 ((L : Int) + 1), .slice none 0 0, .int .i64 0, .string ⟨#[]⟩, .int .i64 2, .int .i64 cq, .slice qa ml qc, .int .i64 0, .slice none 0 0] 33 (0, 0)) := by rw [← hV]; exact hSk (hSk (hSk (hY2) _) _) _
 have hOV : OnlyAt (w.heap.size + 2) w2 V := by rw [← hV]; exact (((OnlyAt.refl _ _).set _ _).set _ _).set _ _
 have hBV : Below w.heap.size w V := by rw [← hV]; exact (((HB2.out).setCell (p := ⟨w.heap.size + 2, 5, none⟩) (by show w.heap.size ≤ w.heap.size + 2; omega) _).setCell (p := ⟨w.heap.size + 2, 6, none⟩) (by show w.heap.size ≤ w.heap.size + 2; omega) _).setCell (p := ⟨w.heap.size + 2, 7, none⟩) (by show w.heap.size ≤ w.heap.size + 2; omega) _
 have hRV : V.heap[w.heap.size + 1]? = some (.cells #[.int .i64 0, .int .i64 0, .slice none 0 0, .int .i64 0, .string ⟨#[]⟩, .int .i64 0, .int .i64 0, .slice none 0 0, .int .i64 0, .slice none 0 0] 33 (0, 0)) := (hOV.2 _ (by omega)).trans hR2
 have hAV : (⟨none, 0, 0, qa, ml, qc, none, 0, 0⟩ : SS).At V.heap.size V (skCnt 2 ((L : Int) + 1) 2 cq m) := SS.At.apart ⟨slC_nil, hS2, slC_nil⟩ hY2 (noU10 _ _ _ _ _ _ _ _ _ _ _ _ _ _ _ _) hOV
 obtain ⟨n0, n1, n2, n3, n4, n5, n6, n7, n8, n9⟩ := cl10 hYV
 obtain ⟨r0, r1, r2, r3, r4, r5, r6, r7, r8, r9⟩ := cl10 hRV
 obtain ⟨h0, h1, h2, h3, h4, h5, h6, h7, h8, h9⟩ := cz10 hRV
 obtain ⟨U, hU, hXU, hOU, hBU⟩ := store10 (.int .i64 2) (.int .i64 ((L : Int) + 1)) (.slice none 0 0) (.int .i64 0) (.string ⟨#[]⟩) (.int .i64 2) (.int .i64 cq) (.slice qa ml qc) (.int .i64 0) (.slice none 0 0) hRV
 obtain ⟨k0, k1, k2, k3, k4, k5, k6, k7, k8, k9⟩ := cl10 hXU
 have HBU : Hid (Below w.heap.size w U) := hBU _ _ hBV (by omega)
 have HAU : Hid ((⟨none, 0, 0, qa, ml, qc, none, 0, 0⟩ : SS).At U.heap.size U (skCnt 2 ((L : Int) + 1) 2 cq m)) := hAV.apart hRV (noU10 _ _ _ _ _ _ _ _ _ _ _ _ _ _ _ _) hOU
 clear hY2 hR2 hYV hOV hBV hRV hAV hXU hOU hBU hb2
 go_wp2_with fail
 exact bodyPost_ret (v := .agg #[.int .i64 2, .int .i64 ((L : Int) + 1), .slice none 0 0, .int .i64 0, .string ⟨#[]⟩, .int .i64 2, .int .i64 cq, .slice qa ml qc, .int .i64 0, .slice none 0 0]) (by simp [results, Tryz.f35, go_sem, k0, k1, k2, k3, k4, k5, k6, k7, k8, k9]) rfl ⟨⟨none, 0, 0, qa, ml, qc, none, 0, 0⟩, rfl, HAU.out, HBU.out⟩
set_option maxRecDepth 100000 in
set_option maxHeartbeats 4000000 in
theorem ref10_lower_bkt (L f : Nat) (l : List (Int × Int)) (s : SS) (w : World) (hA : s.At w.heap.size w (skBkt 3 L f l : Sk)) (hL : L ≤ 2) (hk : BkR f l) (h1 : 1 ≤ f) :
  Calls Tryz.prog 35 #[.agg #[.int .i64 3, .int .i64 L, .slice s.ea s.el s.ec, .int .i64 0, .string ⟨#[]⟩, .int .i64 0, .int .i64 0, .slice s.ca s.cl s.cc, .int .i64 f, .slice s.ga s.gl s.gc]] w (LowP (skBkt 3 ((L : Int) + 1) ((f : Int) - 1) (hiLow l)) w) := by
 obtain ⟨m, hm⟩ : ∃ m, hiLow l = m := ⟨_, rfl⟩
 obtain ⟨ml, hml⟩ : ∃ n, m.length = n := ⟨_, rfl⟩
 obtain ⟨fq, hf1⟩ : ∃ n, (f : Int) - 1 = n := ⟨_, rfl⟩
 rw [hm, hf1]
 obtain ⟨W0, hW0, hX0, hXr, hB0, hs0⟩ := boxes2 w #[.int .i64 3, .int .i64 L, .slice s.ea s.el s.ec, .int .i64 0, .string ⟨#[]⟩, .int .i64 0, .int .i64 0, .slice s.ca s.cl s.cc, .int .i64 f, .slice s.ga s.gl s.gc] 33 #[.int .i64 0, .int .i64 0, .slice none 0 0, .int .i64 0, .string ⟨#[]⟩, .int .i64 0, .int .i64 0, .slice none 0 0, .int .i64 0, .slice none 0 0] 33
 obtain ⟨W1, hW1, hX1, hB1, hs1⟩ := boxes1 W0 #[.int .i64 3, .int .i64 ((L : Int) + 1), .slice none 0 0, .int .i64 0, .string ⟨#[]⟩, .int .i64 0, .int .i64 0, .slice none 0 0, .int .i64 0, .slice none 0 0] 33
 rw [hs0] at hX1
 have HO : Hid (Calls Tryz.prog 71 #[.agg #[.int .i64 f, .slice s.ga s.gl s.gc]] W1 fun e w' => ∃ a cap, e = .returned (.tuple #[.agg #[.int .i64 fq, .slice a ml cap], .int .i64 0]) ∧ SlC encB 2 w'.heap.size w' a ml cap m ∧ Below W1.heap.size W1 w') := by rw [← hf1, ← hml, ← hm]; exact ref09_Lower_any f l _ _ _ W1 hk h1 ((hA.go hB0).go hB1).g
 have t1 : (L : Int) ≤ 2 := by omega
 have t2 : (0 : Int) ≤ (L : Int) := Int.natCast_nonneg _
 clear hk hm hml hf1
 have hx1 := known hB1 (Nat.le_refl _) hX0
 have HXr1 := Lib.hid (known hB1 (Nat.le_refl _) hXr)
 have HB1 : Hid (Below w.heap.size w W1) := hB0.trans (hB1.mono hB0.size)
 have HY1 := Lib.hid hX1
 have HZ1 : Hid (W1.heap.size = w.heap.size + 3) := by rw [Hid, hs1, hs0]
 have HA1 := Lib.hid ((hA.go hB0).go hB1)
 obtain ⟨d0, d1, d2, d3, d4, d5, d6, d7, d8, d9⟩ := cl10 hX0
 obtain ⟨a0, a1, a2, a3, a4, a5, a6, a7, a8, a9⟩ := cl10 hx1
 obtain ⟨c0, c1, c2, c3, c4, c5, c6, c7, c8, c9⟩ := cl10 hX1
 obtain ⟨f0, f1, f2, f3, f4, f5, f6, f7, f8, f9⟩ := cz10 hX1
 have e1 : W1.setCell ⟨w.heap.size + 2, 1, none⟩ (.int .i64 ((L : Int) + 1)) = W1 := set_same hX1 rfl
 have e2 : W1.setCell ⟨w.heap.size + 2, 2, none⟩ (.slice none 0 0) = W1 := set_same hX1 rfl
 have e3 : W1.setCell ⟨w.heap.size + 2, 3, none⟩ (.int .i64 0) = W1 := set_same hX1 rfl
 have e4 : W1.setCell ⟨w.heap.size + 2, 4, none⟩ (.string ⟨#[]⟩) = W1 := set_same hX1 rfl
 have e5 : W1.setCell ⟨w.heap.size + 2, 5, none⟩ (.int .i64 0) = W1 := set_same hX1 rfl
 have e6 : W1.setCell ⟨w.heap.size + 2, 6, none⟩ (.int .i64 0) = W1 := set_same hX1 rfl
 have e7 : W1.setCell ⟨w.heap.size + 2, 7, none⟩ (.slice none 0 0) = W1 := set_same hX1 rfl
 have e8 : W1.setCell ⟨w.heap.size + 2, 8, none⟩ (.int .i64 0) = W1 := set_same hX1 rfl
 have e9 : W1.setCell ⟨w.heap.size + 2, 9, none⟩ (.slice none 0 0) = W1 := set_same hX1 rfl
 clear hX0 hXr hB0 hX1 hB1 hx1 hA hs1
 go_enter Tryz.func35, Tryz.ntmps35
 go_wp2_with fail
 refine (HO.out).mono ?_
 rintro e w2 ⟨qa, qc, rfl, hS2, hb2⟩
 have hY2 := known hb2 (Nat.le_refl _) HY1.out
 have hR2 := known hb2 (Nat.le_refl _) HXr1.out
 have HB2 : Hid (Below w.heap.size w w2) := HB1.out.trans (hb2.mono HB1.out.size)
 obtain ⟨m0, m1, m2, m3, m4, m5, m6, m7, m8, m9⟩ := cl10 hY2
 obtain ⟨g0, g1, g2, g3, g4, g5, g6, g7, g8, g9⟩ := cz10 hY2
 obtain ⟨V, hV⟩ : ∃ V, ((w2.setCell ⟨w.heap.size + 2, 8, none⟩ (.int .i64 fq)).setCell ⟨w.heap.size + 2, 9, none⟩ (.slice qa ml qc)) = V := ⟨_, rfl⟩
 have hYV : V.heap[w.heap.size + 2]? = some (.cells #[.int .i64 3, .int .i64 ((L : Int) + 1), .slice none 0 0, .int .i64 0, .string ⟨#[]⟩, .int .i64 0, .int .i64 0, .slice none 0 0, .int .i64 fq, .slice qa ml qc] 33 (0, 0)) := by rw [← hV]; exact hSk (hSk (hY2) _) _
 have hOV : OnlyAt (w.heap.size + 2) w2 V := by rw [← hV]; exact ((OnlyAt.refl _ _).set _ _).set _ _
 have hBV : Below w.heap.size w V := by rw [← hV]; exact ((HB2.out).setCell (p := ⟨w.heap.size + 2, 8, none⟩) (by show w.heap.size ≤ w.heap.size + 2; omega) _).setCell (p := ⟨w.heap.size + 2, 9, none⟩) (by show w.heap.size ≤ w.heap.size + 2; omega) _
 have hRV : V.heap[w.heap.size + 1]? = some (.cells #[.int .i64 0, .int .i64 0, .slice none 0 0, .int .i64 0, .string ⟨#[]⟩, .int .i64 0, .int .i64 0, .slice none 0 0, .int .i64 0, .slice none 0 0] 33 (0, 0)) := (hOV.2 _ (by omega)).trans hR2
 have hAV : (⟨none, 0, 0, none, 0, 0, qa, ml, qc⟩ : SS).At V.heap.size V (skBkt 3 ((L : Int) + 1) fq m) := SS.At.apart ⟨slC_nil, slC_nil, hS2⟩ hY2 (noU10 _ _ _ _ _ _ _ _ _ _ _ _ _ _ _ _) hOV
 obtain ⟨n0, n1, n2, n3, n4, n5, n6, n7, n8, n9⟩ := cl10 hYV
 obtain ⟨r0, r1, r2, r3, r4, r5, r6, r7, r8, r9⟩ := cl10 hRV
 obtain ⟨h0, h1, h2, h3, h4, h5, h6, h7, h8, h9⟩ := cz10 hRV
 obtain ⟨U, hU, hXU, hOU, hBU⟩ := store10 (.int .i64 3) (.int .i64 ((L : Int) + 1)) (.slice none 0 0) (.int .i64 0) (.string ⟨#[]⟩) (.int .i64 0) (.int .i64 0) (.slice none 0 0) (.int .i64 fq) (.slice qa ml qc) hRV
 obtain ⟨k0, k1, k2, k3, k4, k5, k6, k7, k8, k9⟩ := cl10 hXU
 have HBU : Hid (Below w.heap.size w U) := hBU _ _ hBV (by omega)
 have HAU : Hid ((⟨none, 0, 0, none, 0, 0, qa, ml, qc⟩ : SS).At U.heap.size U (skBkt 3 ((L : Int) + 1) fq m)) := hAV.apart hRV (noU10 _ _ _ _ _ _ _ _ _ _ _ _ _ _ _ _) hOU
 clear hY2 hR2 hYV hOV hBV hRV hAV hXU hOU hBU hb2
 go_wp2_with fail
 exact bodyPost_ret (v := .agg #[.int .i64 3, .int .i64 ((L : Int) + 1), .slice none 0 0, .int .i64 0, .string ⟨#[]⟩, .int .i64 0, .int .i64 0, .slice none 0 0, .int .i64 fq, .slice qa ml qc]) (by simp [results, Tryz.f35, go_sem, k0, k1, k2, k3, k4, k5, k6, k7, k8, k9]) rfl ⟨⟨none, 0, 0, none, 0, 0, qa, ml, qc⟩, rfl, HAU.out, HBU.out⟩
theorem ref10_lower_any {k L : Nat} {B : Bd} (hB : B.Ok k L) (hlt : L < botN k) (x : Sk) (hx : x = skOf k L B) (s : SS) (w : World) (hA : s.At w.heap.size w x) :
  Calls Tryz.prog 35 #[.agg #[.int .i64 x.kind, .int .i64 x.level, .slice s.ea s.el s.ec, .int .i64 x.hb, .string x.hr, .int .i64 x.cr, .int .i64 x.cc, .slice s.ca s.cl s.cc, .int .i64 x.gf, .slice s.ga s.gl s.gc]] w (LowP (skOf k (L + 1) B.low) w) := by
 subst hx
 cases B with
 | num l =>
  obtain ⟨rfl, rfl, h3, h4, h5⟩ := hB
  exact ref10_lower_num l s w hA h5 h4
 | reg b r =>
  obtain ⟨rfl, h2, h3, h4, h5, h6⟩ := hB
  have h7 : botN 1 = 4 := rfl
  rw [show skOf 1 (L + 1) (Bd.reg b r).low = skReg 1 ((L : Int) + 1) ((b - 1 : Nat) : Int) (hlStr (hlLow b r)) from rfl]
  exact ref10_lower_reg L b r s w hA h2 h3 (by omega) (by omega) h5 h6
 | cnt c l =>
  obtain ⟨rfl, h2, h3, h4, h5⟩ := hB
  have h7 : botN 2 = 3 := rfl
  have hc : c = 8 ∨ c = 16 ∨ c = 32 := by
   rcases (by omega : L = 0 ∨ L = 1 ∨ L = 2) with rfl | rfl | rfl <;> omega
  exact ref10_lower_cnt L c l s w hA (by omega) hc h4 h5
 | bkt f l =>
  obtain ⟨rfl, h2, h3, h4, h5, h6, h7⟩ := hB
  have h8 : botN 3 = 3 := rfl
  rw [show skOf 3 (L + 1) (Bd.bkt f l).low = skBkt 3 ((L : Int) + 1) ((f - 1 : Nat) : Int) (hiLow l) from rfl, show ((f - 1 : Nat) : Int) = (f : Int) - 1 by omega]
  exact ref10_lower_bkt L f l s w hA (by omega) ⟨by omega, h4, h5, h6, h7⟩ (by omega)
end Go.Proofs.YtcbbenncdainfaaGreatDoor

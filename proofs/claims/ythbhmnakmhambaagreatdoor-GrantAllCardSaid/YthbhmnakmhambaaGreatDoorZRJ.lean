/- The references of layers 6 to 8: Right, Numbers, Same. The reference of layer 8: Right, Same. The reference of layer 9: Same. The reference of layer 10: Bottom; Same at equal sketches. -/
import Derived.Test.YthbhmnakmhambaaGreatDoorZF4
namespace Go.Proofs.YthbhmnakmhambaaGreatDoor
open Go Go.RowKit Go.Shelf
set_option maxRecDepth 100000 in
set_option maxHeartbeats 1000000 in
theorem ref06_Numbers_any (a1 : Option Addr) (len1 cap1 : Nat) (l1 : List Int) (a2 : Option Addr) (len2 cap2 : Nat) (l2 : List Int) (w : World) (h1 : SlE encU 1 w.heap.size w a1 len1 l1) (h2 : SlE encU 1 w.heap.size w a2 len2 l2) (hm : len1 ≤ maxLen) :
  Calls Tryz.prog 47 #[.slice a1 len1 cap1, .slice a2 len2 cap2] w fun e w' => e = .returned (.bool (l1 == l2)) ∧ Below w.heap.size w w' := by
 have e1 := h1.1
 have e2 := h2.1
 unfold maxLen at hm
 by_cases hl : len1 = len2
 ·subst hl
  have t0 : ((len1 : Int) != (len1 : Int)) = false := by simp
  have E1 := Lib.hid e1
  have E2 := Lib.hid e2
  clear e1 e2
  go_enter Tryz.func47, Tryz.ntmps47
  go_wp2_with fail
  go_loopw [5] (fun i wr => ∃ (k : Nat), i = .int .i64 k ∧ k ≤ len1 ∧ Below w.heap.size w wr ∧ Hid (l1.take k = l2.take k)) (fun i _ => len1 - (intOf i).toNat)
  case atStart => exact ⟨0, rfl, Nat.zero_le _, Below.refl _ _, rfl⟩
  case round =>
   obtain ⟨k, rfl, hk, hB, HF⟩ := hrel
   by_cases hlt : k < len1
   ·obtain ⟨x, b1, o1, hx, ea1, hb1, hc1⟩ := (h1.below hB).at hlt
    obtain ⟨y, b2, o2, hy, ea2, hb2, hc2⟩ := (h2.below hB).at hlt
    subst ea1; subst ea2
    have p0 : wr.cell? ⟨b1, o1 + k * 1 + 0, none⟩ = some (.int .u64 x) := hc1 0 (by omega)
    have q0 : wr.cell? ⟨b2, o2 + k * 1 + 0, none⟩ = some (.int .u64 y) := hc2 0 (by omega)
    simp only [Nat.mul_one, Nat.add_zero] at p0 q0
    have i0 : (0 : Int) ≤ (k : Int) := by omega
    have i1 : (k : Int) < (len1 : Int) := by omega
    have HX := Lib.hid hx
    have HY := Lib.hid hy
    clear hc1 hc2 hx hy h1 h2
    by_cases hxy : x = y
    ·have n1 : (x != y) = false := by simp [hxy]
     have HXY : Hid (x = y) := hxy
     clear hxy
     go_wp2_with fail
     go_quiet (fail)
     go_wp2_with fail
     go_roundw
     case rel => exact ⟨k + 1, by go_num, by omega, bDr hB _, by rw [Hid, take_snoc' HX.out, take_snoc' HY.out, HF.out, HXY.out]⟩
     case measure => simp [intOf]; omega
    ·have n1 : (x != y) = true := by simp [hxy]
     have HXY : Hid (¬ x = y) := hxy
     clear hxy
     go_wp2_with fail
     go_quiet (fail)
     go_wp2_with fail
     go_ret
     have hne : (l1 == l2) = false := by
      rw [beq_eq_false_iff_ne]
      intro e
      have hx := HX.out
      rw [e, HY.out] at hx
      exact HXY.out (Option.some.inj hx).symm
     exact ⟨by rw [hne]; rfl, bDr hB _⟩
   ·obtain rfl : k = len1 := by omega
    clear h1 h2
    go_wp2_with fail
    go_ret
    have h9 := HF.out
    rw [List.take_of_length_le (by rw [← E1.out]; omega), List.take_of_length_le (by rw [← E2.out]; omega)] at h9
    exact ⟨by rw [h9]; simp, hB⟩
 ·have t0 : ((len1 : Int) != (len2 : Int)) = true := by rw [bne_iff_ne]; omega
  have hne : Hid ((l1 == l2) = false) := by
   rw [Hid, beq_eq_false_iff_ne]
   intro e
   rw [e] at e1
   omega
  clear e1 e2
  go_enter Tryz.func47, Tryz.ntmps47
  go_wp2_with fail
  go_ret
  exact ⟨by rw [hne.out]; rfl, Below.refl _ _⟩
end Go.Proofs.YthbhmnakmhambaaGreatDoor
namespace Go.Proofs.YthbhmnakmhambaaGreatDoor
open Go Go.RowKit Go.Shelf
set_option maxRecDepth 100000 in
set_option maxHeartbeats 1000000 in
theorem ref08_Same_any (r1 c1 : Int) (a1 : Option Addr) (len1 cap1 : Nat) (l1 : List Int) (r2 c2 : Int) (a2 : Option Addr) (len2 cap2 : Nat) (l2 : List Int) (w : World) (h1 : SlE encU 1 w.heap.size w a1 len1 l1) (h2 : SlE encU 1 w.heap.size w a2 len2 l2) (hm : len1 ≤ maxLen) :
  Calls Tryz.prog 48 #[.agg #[.int .i64 r1, .int .i64 c1, .slice a1 len1 cap1], .agg #[.int .i64 r2, .int .i64 c2, .slice a2 len2 cap2]] w fun e w' => e = .returned (.bool ((r1 == r2 && c1 == c2) && l1 == l2)) ∧ Below w.heap.size w w' := by
 obtain ⟨W0, hW0, hX0, hX1, hB0, hs0⟩ := boxes2 w #[.int .i64 r1, .int .i64 c1, .slice a1 len1 cap1] 34 #[.int .i64 r2, .int .i64 c2, .slice a2 len2 cap2] 34
 have HN := Lib.hid (ref06_Numbers_any a1 len1 cap1 l1 a2 len2 cap2 l2 W0 (h1.go hB0) (h2.go hB0) hm)
 have HB0 := Lib.hid hB0
 obtain ⟨d0, d1, d2⟩ := cl3 hX0
 obtain ⟨f0, f1, f2⟩ := cl3 hX1
 clear hX0 hX1 hB0 h1 h2
 generalize (l1 == l2) = bl at HN ⊢
 cases hr : (r1 == r2) with
 | false =>
  go_enter Tryz.func48, Tryz.ntmps48
  go_wp2_with fail
  go_ret
  exact ⟨rfl, HB0.out⟩
 | true =>
  cases hc : (c1 == c2) with
  | false =>
   go_enter Tryz.func48, Tryz.ntmps48
   go_wp2_with fail
   go_ret
   exact ⟨rfl, HB0.out⟩
  | true =>
   go_enter Tryz.func48, Tryz.ntmps48
   go_wp2_with (go_at_call 47; refine HN.out.mono ?_; rintro e w1 ⟨rfl, hb1⟩)
   go_ret
   exact ⟨rfl, HB0.out.trans (hb1.mono HB0.out.size)⟩
end Go.Proofs.YthbhmnakmhambaaGreatDoor
namespace Go.Proofs.YthbhmnakmhambaaGreatDoor
open Go Go.RowKit Go.Shelf
set_option maxRecDepth 100000 in
set_option maxHeartbeats 2000000 in
theorem ref09_Same_any (f1 : Int) (a1 : Option Addr) (len1 cap1 : Nat) (l1 : List (Int × Int)) (f2 : Int) (a2 : Option Addr) (len2 cap2 : Nat) (l2 : List (Int × Int)) (w : World) (h1 : SlE encB 2 w.heap.size w a1 len1 l1) (h2 : SlE encB 2 w.heap.size w a2 len2 l2) (hm : len1 ≤ maxLen) :
  Calls Tryz.prog 49 #[.agg #[.int .i64 f1, .slice a1 len1 cap1], .agg #[.int .i64 f2, .slice a2 len2 cap2]] w fun e w' => e = .returned (.bool (f1 == f2 && l1 == l2)) ∧ Below w.heap.size w w' := by
 have e1 := h1.1
 have e2 := h2.1
 unfold maxLen at hm
 obtain ⟨W0, hW0, hX0, hX1, hB0, hs0⟩ := boxes2 w #[.int .i64 f1, .slice a1 len1 cap1] 37 #[.int .i64 f2, .slice a2 len2 cap2] 37
 have H1 := Lib.hid (h1.go hB0)
 have H2 := Lib.hid (h2.go hB0)
 have HB0 := Lib.hid hB0
 have hz0 : w.heap.size < W0.heap.size := by omega
 have hz1 : w.heap.size + 1 < W0.heap.size := by omega
 obtain ⟨d0, d1⟩ := cl2 hX0
 obtain ⟨g0, g1⟩ := cl2 hX1
 clear hX0 hX1 hB0 h1 h2
 cases hr : (f1 == f2) with
 | false =>
  have t0 : (f1 != f2) = true := by rw [bne, hr]; rfl
  clear hr e1 e2
  go_enter Tryz.func49, Tryz.ntmps49
  go_wp2_with fail
  go_ret
  exact ⟨rfl, HB0.out⟩
 | true =>
  have t0 : (f1 != f2) = false := by rw [bne, hr]; rfl
  rw [Bool.true_and]
  clear hr
  by_cases hl : len1 = len2
  ·subst hl
   have t1 : ((len1 : Int) != (len1 : Int)) = false := by simp
   have E1 := Lib.hid e1
   have E2 := Lib.hid e2
   clear e1 e2
   go_enter Tryz.func49, Tryz.ntmps49
   go_wp2_with fail
   go_loopw [5] (fun i wr => ∃ (k : Nat), i = .int .i64 k ∧ k ≤ len1 ∧ Below W0.heap.size W0 wr ∧ Hid (l1.take k = l2.take k)) (fun i _ => len1 - (intOf i).toNat)
   case atStart => exact ⟨0, rfl, Nat.zero_le _, Below.refl _ _, rfl⟩
   case round =>
    obtain ⟨k, rfl, hk, hB, HF⟩ := hrel
    have r0 : wr.cell? ⟨w.heap.size, 1, none⟩ = some (.slice a1 len1 cap1) := (hB.cell (p := ⟨w.heap.size, 1, none⟩) hz0).trans d1
    have r1 : wr.cell? ⟨w.heap.size + 1, 1, none⟩ = some (.slice a2 len1 cap2) := (hB.cell (p := ⟨w.heap.size + 1, 1, none⟩) hz1).trans g1
    by_cases hlt : k < len1
    ·obtain ⟨x, b1, o1, hx, ea1, hb1, hc1⟩ := (H1.out.below hB).at hlt
     obtain ⟨y, b2, o2, hy, ea2, hb2, hc2⟩ := (H2.out.below hB).at hlt
     subst ea1; subst ea2
     have p0 : wr.cell? ⟨b1, o1 + k * 2, none⟩ = some (.int .i64 x.1) := hc1 0 (by omega)
     have p1 : wr.cell? ⟨b1, o1 + k * 2 + 1, none⟩ = some (.int .u64 x.2) := hc1 1 (by omega)
     have q0 : wr.cell? ⟨b2, o2 + k * 2, none⟩ = some (.int .i64 y.1) := hc2 0 (by omega)
     have q1 : wr.cell? ⟨b2, o2 + k * 2 + 1, none⟩ = some (.int .u64 y.2) := hc2 1 (by omega)
     have i0 : (0 : Int) ≤ (k : Int) := by omega
     have i1 : (k : Int) < (len1 : Int) := by omega
     have HX := Lib.hid hx
     have HY := Lib.hid hy
     obtain ⟨x1, x2⟩ := x
     obtain ⟨y1, y2⟩ := y
     dsimp only at p0 p1 q0 q1
     clear hc1 hc2 hx hy
     have hne : ¬ (x1 = y1 ∧ x2 = y2) → (l1 == l2) = false := fun h => by
      rw [beq_eq_false_iff_ne]
      intro e
      have hx := HX.out
      rw [e, HY.out] at hx
      have h3 := Option.some.inj hx
      injection h3 with h4 h5
      exact h ⟨h4.symm, h5.symm⟩
     have HNe := Lib.hid hne
     clear hne
     by_cases hx1 : x1 = y1
     ·by_cases hx2 : x2 = y2
      ·subst hx1; subst hx2
       clear HNe
       go_wp2_with fail
       go_quiet (fail)
       go_wp2_with fail
       go_roundw
       case rel => exact ⟨k + 1, by go_num, by omega, bDr hB _, by rw [Hid, take_snoc' HX.out, take_snoc' HY.out, HF.out]⟩
       case measure => simp [intOf]; omega
      ·have H9 : Hid ((l1 == l2) = false) := HNe.out (fun h => hx2 h.2)
       have n2 : (x2 == y2) = false := beq_eq_false_iff_ne.2 hx2
       clear HNe
       go_wp2_with fail
       go_quiet (fail)
       go_wp2_with fail
       go_ret
       exact ⟨by rw [H9.out]; rfl, HB0.out.trans ((bDr hB _).mono HB0.out.size)⟩
     ·have H9 : Hid ((l1 == l2) = false) := HNe.out (fun h => hx1 h.1)
      have n1 : (x1 == y1) = false := beq_eq_false_iff_ne.2 hx1
      clear HNe
      go_wp2_with fail
      go_quiet (fail)
      go_wp2_with fail
      go_ret
      exact ⟨by rw [H9.out]; rfl, HB0.out.trans ((bDr hB _).mono HB0.out.size)⟩
    ·obtain rfl : k = len1 := by omega
     go_wp2_with fail
     go_ret
     have h9 := HF.out
     rw [List.take_of_length_le (by rw [← E1.out]; omega), List.take_of_length_le (by rw [← E2.out]; omega)] at h9
     exact ⟨by rw [h9]; simp, HB0.out.trans (hB.mono HB0.out.size)⟩
  ·have t1 : ((len1 : Int) != (len2 : Int)) = true := by rw [bne_iff_ne]; omega
   have hne : Hid ((l1 == l2) = false) := by
    rw [Hid, beq_eq_false_iff_ne]
    intro e
    rw [e] at e1
    omega
   clear e1 e2
   go_enter Tryz.func49, Tryz.ntmps49
   go_wp2_with fail
   go_ret
   exact ⟨by rw [hne.out]; rfl, HB0.out⟩
end Go.Proofs.YthbhmnakmhambaaGreatDoor
namespace Go.Proofs.YthbhmnakmhambaaGreatDoor
open Go Go.RowKit Go.Shelf
set_option maxRecDepth 100000 in
set_option maxHeartbeats 4000000 in
theorem ref10_Same_eq (x : Sk) (s p : SS) (w : World) (h1 : s.At w.heap.size w x) (h2 : p.At w.heap.size w x) :
  Calls Tryz.prog 20 #[.agg #[.int .i64 x.kind, .int .i64 x.level, .slice s.ea s.el s.ec, .int .i64 x.hb, .string x.hr, .int .i64 x.cr, .int .i64 x.cc, .slice s.ca s.cl s.cc, .int .i64 x.gf, .slice s.ga s.gl s.gc], .agg #[.int .i64 x.kind, .int .i64 x.level, .slice p.ea p.el p.ec, .int .i64 x.hb, .string x.hr, .int .i64 x.cr, .int .i64 x.cc, .slice p.ca p.cl p.cc, .int .i64 x.gf, .slice p.ga p.gl p.gc]] w fun e w' => e = .returned (.bool true) ∧ Below w.heap.size w w' := by
 obtain ⟨W0, hW0, hX0, hX1, hB0, hs0⟩ := boxes2 w #[.int .i64 x.kind, .int .i64 x.level, .slice s.ea s.el s.ec, .int .i64 x.hb, .string x.hr, .int .i64 x.cr, .int .i64 x.cc, .slice s.ca s.cl s.cc, .int .i64 x.gf, .slice s.ga s.gl s.gc] 39 #[.int .i64 x.kind, .int .i64 x.level, .slice p.ea p.el p.ec, .int .i64 x.hb, .string x.hr, .int .i64 x.cr, .int .i64 x.cc, .slice p.ca p.cl p.cc, .int .i64 x.gf, .slice p.ga p.gl p.gc] 39
 have HA := Lib.hid (h1.go hB0)
 have HP := Lib.hid (h2.go hB0)
 have HB0 := Lib.hid hB0
 have hz0 : w.heap.size < W0.heap.size := by omega
 have hz1 : w.heap.size + 1 < W0.heap.size := by omega
 have HN : Hid (∀ W, Below W0.heap.size W0 W → Calls Tryz.prog 47 #[.slice s.ea s.el s.ec, .slice p.ea p.el p.ec] W fun e w' => e = .returned (.bool true) ∧ Below W.heap.size W w') := fun W hb => by
  have h := ref06_Numbers_any s.ea s.el s.ec x.e p.ea p.el p.ec x.e W (HA.out.go hb).e.1 (HP.out.go hb).e.1 (Nat.le_trans HA.out.e.2.1 HA.out.e.2.2.1)
  rw [beq_self_eq_true] at h
  exact h
 have HC : Hid (∀ W, Below W0.heap.size W0 W → Calls Tryz.prog 48 #[.agg #[.int .i64 x.cr, .int .i64 x.cc, .slice s.ca s.cl s.cc], .agg #[.int .i64 x.cr, .int .i64 x.cc, .slice p.ca p.cl p.cc]] W fun e w' => e = .returned (.bool true) ∧ Below W.heap.size W w') := fun W hb => by
  have h := ref08_Same_any x.cr x.cc s.ca s.cl s.cc x.cl x.cr x.cc p.ca p.cl p.cc x.cl W (HA.out.go hb).c.1 (HP.out.go hb).c.1 (Nat.le_trans HA.out.c.2.1 HA.out.c.2.2.1)
  simp only [beq_self_eq_true, Bool.and_true] at h
  exact h
 have HG : Hid (∀ W, Below W0.heap.size W0 W → Calls Tryz.prog 49 #[.agg #[.int .i64 x.gf, .slice s.ga s.gl s.gc], .agg #[.int .i64 x.gf, .slice p.ga p.gl p.gc]] W fun e w' => e = .returned (.bool true) ∧ Below W.heap.size W w') := fun W hb => by
  have h := ref09_Same_any x.gf s.ga s.gl s.gc x.gl x.gf p.ga p.gl p.gc x.gl W (HA.out.go hb).g.1 (HP.out.go hb).g.1 (Nat.le_trans HA.out.g.2.1 HA.out.g.2.2.1)
  simp only [beq_self_eq_true, Bool.and_true] at h
  exact h
 have hkp : ∀ W, Below W0.heap.size W0 W → ∀ b o v, b < W0.heap.size → W0.cell? ⟨b, o, none⟩ = some v → W.cell? ⟨b, o, none⟩ = some v := fun W hb b o v hlt h => (hb.cell (p := ⟨b, o, none⟩) hlt).trans h
 have HK := Lib.hid hkp
 obtain ⟨d0, d1, d2, d3, d4, d5, d6, d7, d8, d9⟩ := cl10 hX0
 obtain ⟨g0, g1, g2, g3, g4, g5, g6, g7, g8, g9⟩ := cl10 hX1
 clear hX0 hX1 hB0 h1 h2 hkp
 go_enter Tryz.func20, Tryz.ntmps20
 go_wp2_with fail
 refine (HN.out _ (Below.refl _ _)).mono ?_
 rintro e w1 ⟨rfl, hb1⟩
 have b3 := HK.out w1 hb1 _ _ _ hz0 d3
 have b4 := HK.out w1 hb1 _ _ _ hz0 d4
 have b5 := HK.out w1 hb1 _ _ _ hz0 d5
 have b6 := HK.out w1 hb1 _ _ _ hz0 d6
 have b7 := HK.out w1 hb1 _ _ _ hz0 d7
 have b8 := HK.out w1 hb1 _ _ _ hz0 d8
 have b9 := HK.out w1 hb1 _ _ _ hz0 d9
 have a3 := HK.out w1 hb1 _ _ _ hz1 g3
 have a4 := HK.out w1 hb1 _ _ _ hz1 g4
 have a5 := HK.out w1 hb1 _ _ _ hz1 g5
 have a6 := HK.out w1 hb1 _ _ _ hz1 g6
 have a7 := HK.out w1 hb1 _ _ _ hz1 g7
 have a8 := HK.out w1 hb1 _ _ _ hz1 g8
 have a9 := HK.out w1 hb1 _ _ _ hz1 g9
 go_wp2_with fail
 refine (HC.out _ hb1).mono ?_
 rintro e w2 ⟨rfl, hb2⟩
 have hb02 := hb1.trans (hb2.mono hb1.size)
 have u8 := HK.out w2 hb02 _ _ _ hz0 d8
 have u9 := HK.out w2 hb02 _ _ _ hz0 d9
 have v8 := HK.out w2 hb02 _ _ _ hz1 g8
 have v9 := HK.out w2 hb02 _ _ _ hz1 g9
 go_wp2_with fail
 refine (HG.out _ hb02).mono ?_
 rintro e w3 ⟨rfl, hb3⟩
 have hb03 := hb02.trans (hb3.mono hb02.size)
 go_wp2_with fail
 go_ret
 exact ⟨rfl, HB0.out.trans (hb03.mono HB0.out.size)⟩
end Go.Proofs.YthbhmnakmhambaaGreatDoor

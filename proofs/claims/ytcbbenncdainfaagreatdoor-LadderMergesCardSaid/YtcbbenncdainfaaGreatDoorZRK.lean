/- Package cms: New, begin, Add, Lower. Package cms: Lower. Package ladder: the four bodies' add and lower; told. errors.As at a target of type **ladder.fault: lines of the worked example ToyasAs turned to this program; ladder.errno, isFull. What rows have in common: the program's closed facts, sketches and numbers opened, errors.errorType. Printed by gen_rz.py. -/
import Derived.LaidEql
import Derived.Stop.Asserts
import Derived.RowKitTokens
import Derived.Test.YtcbbenncdainfaaGreatDoorCards
import Derived.Test.YtcbbenncdainfaaGreatDoorTie
import Derived.LaidHandle
import Derived.Shelf.Vars
import Derived.ChangeMaps5
import Derived.Test.YtcbbenncdainfaaGreatDoorZGH
namespace Go.Proofs.YtcbbenncdainfaaGreatDoor
open Go Go.RowKit Go.Shelf
theorem casNil (w : World) : (Instr.typeAssert .nilIface 62 158 true).run Tryz.prog w = .ok (.tuple #[.agg #[.string ⟨#[]⟩], .bool false]) w := by kernel_rfl
theorem cerrno_nil (w : World) : Calls Tryz.prog 80 #[.nilIface] w fun e w' => e = .returned (.int .i64 0) ∧ Below w.heap.size w w' := by
 have h := casNil w
 go_enter Tryz.func80, Tryz.ntmps80
 go_wp2
 go_ret
 exact ⟨rfl, (Below.refl _ w).alloc (Nat.le_refl _) _⟩
theorem flat_map (l : List Int) : l.flatMap encU = l.map (Value.int .u64) := by
 induction l with
 | nil => rfl
 | cons x l ih => rw [List.flatMap_cons, ih]; rfl
theorem make_nums (w : World) (len : Nat) (h : len ≤ 1000) : ∃ w1, (Instr.makeSlice 22 (.int .i64 (len : Int)) (.int .i64 (len : Int))).run Tryz.prog w = .ok (.slice (some ⟨w.heap.size, 0, none⟩) len len) w1 ∧ NumsAt w1 w.heap.size (List.replicate len 0) ∧ Below w.heap.size w w1 ∧ w1.heap.size = w.heap.size + 1 := by
 obtain ⟨i, hi, hz, hsize, hby⟩ := info_parts info_u64
 have hr := run_makeSlice (P := Tryz.prog) (w := w) 22 43 i _ und_u64 hi hz .i64 .i64 (len : Int) (len : Int) (by omega) (Int.le_refl _) (by rw [hsize]; omega) (by rw [hby]; omega) (by omega)
 rw [Int.toNat_natCast] at hr
 refine ⟨_, hr, ?_, (Below.refl _ w).alloc (Nat.le_refl _) _, by simp⟩
 have e : madeCells (Value.int .u64 0).cells (len * i.size) = ((List.replicate len (0 : Int)).map (Value.int .u64)).toArray := by
  rw [hsize, Nat.mul_one]
  apply Array.ext
  ·rw [size_madeCells]; simp
  ·intro j h1 h2
   simp [madeCells, Value.cells, Nat.mod_one]
 rw [e]
 exact World.alloc_heap_new _ _
set_option maxRecDepth 100000 in
set_option maxHeartbeats 1000000 in
theorem cblank_any (c : Nat) (w : World) (hs : isShapeB 2 c = true) (h2 : c ≤ 32) :
  Calls Tryz.prog 79 #[.int .i64 2, .int .i64 c] w fun e w' => ∃ g, e = .returned (.tuple #[.agg #[.int .i64 2, .int .i64 c, .slice (some ⟨g, 0, none⟩) (2 * c) (2 * c)], .nilIface]) ∧ NumsAt w' g (List.replicate (2 * c) 0) ∧ w.heap.size ≤ g ∧ Below w.heap.size w w' := by
 have hib := fun w => isShape_any 2 c w
 rw [hs] at hib
 obtain ⟨W0, hW0, hX0, hB0, hs0⟩ := boxes1 w #[.int .i64 0, .int .i64 0, .slice none 0 0] 135
 obtain ⟨W1, hmk, hr1, hB1, hs1⟩ := make_nums W0 (2 * c) (by omega)
 have hX1 := (hB1.block _ (by omega)).trans hX0
 rw [hs0] at hmk hr1
 rw [show (((2 * c : Nat)) : Int) = 2 * (c : Int) by omega] at hmk
 obtain ⟨d0, d1, d2⟩ := cl3 hX1
 obtain ⟨f0, f1, f2⟩ := cz3 hX1
 have HR := Lib.hid hr1
 have hB := hB0.trans (hB1.mono hB0.size)
 have HX := Lib.hid hX1
 clear hX0 hX1 hr1 hB0 hB1 hs1 hs
 obtain ⟨W4, hW4⟩ : ∃ W4, ((W1.setCell ⟨w.heap.size, 0, none⟩ (.int .i64 2)).setCell ⟨w.heap.size, 1, none⟩ (.int .i64 c)).setCell ⟨w.heap.size, 2, none⟩ (.slice (some ⟨w.heap.size + 1, 0, none⟩) (2 * c) (2 * c)) = W4 := ⟨_, rfl⟩
 have hX4 : W4.heap[w.heap.size]? = some (.cells #[.int .i64 2, .int .i64 c, .slice (some ⟨w.heap.size + 1, 0, none⟩) (2 * c) (2 * c)] 135 (0, 0)) := by rw [← hW4]; exact hSk (hSk (hSk HX.out _) _) _
 have hB4 : Below w.heap.size w W4 := by rw [← hW4]; exact ((hB.setCell (p := ⟨w.heap.size, 0, none⟩) (Nat.le_refl _) _).setCell (p := ⟨w.heap.size, 1, none⟩) (Nat.le_refl _) _).setCell (p := ⟨w.heap.size, 2, none⟩) (Nat.le_refl _) _
 have hr4 : NumsAt W4 (w.heap.size + 1) (List.replicate (2 * c) 0) := by
  rw [← hW4]
  exact ((HR.out.block (heap_set_other (p := ⟨w.heap.size, 0, none⟩) (by show w.heap.size ≠ _; omega) _)).block (heap_set_other (p := ⟨w.heap.size, 1, none⟩) (by show w.heap.size ≠ _; omega) _)).block (heap_set_other (p := ⟨w.heap.size, 2, none⟩) (by show w.heap.size ≠ _; omega) _)
 go_enter Tryz.func79, Tryz.ntmps79
 go_wp2_with (first | (go_at_call 94; refine (hib _).mono ?_; rintro e w' ⟨rfl, rfl⟩) | fail)
 obtain ⟨k0, k1, k2⟩ := cl3 hX4
 exact bodyPost_ret (v := .tuple #[.agg #[.int .i64 2, .int .i64 c, .slice (some ⟨w.heap.size + 1, 0, none⟩) (2 * c) (2 * c)], .nilIface]) (by simp [results, Tryz.f79, go_sem, k0, k1, k2]) rfl ⟨_, rfl, hr4, Nat.le_succ _, hB4⟩
set_option maxRecDepth 100000 in
set_option maxHeartbeats 1000000 in
theorem cNew_any (w : World) :
  Calls Tryz.prog 52 #[.int .i64 2, .int .i64 32] w fun e w' => ∃ g, e = .returned (.tuple #[.agg #[.int .i64 2, .int .i64 32, .slice (some ⟨g, 0, none⟩) 64 64], .int .i64 0]) ∧ NumsAt w' g (List.replicate 64 0) ∧ w.heap.size ≤ g ∧ Below w.heap.size w w' := by
 have hB := fun w => cblank_any 32 w (by decide) (by omega)
 obtain ⟨W0, hW0, hX0, hB0, hs0⟩ := boxes1 w #[.int .i64 0, .int .i64 0, .slice none 0 0] 28
 have HX0 := Lib.hid hX0
 clear hX0
 go_enter Tryz.func52, Tryz.ntmps52
 go_wp2_with fail
 refine (hB _).mono ?_
 rintro e w1 ⟨g, rfl, hr1, hg1, hb1⟩
 obtain ⟨W2, hW2, hX2, hB2, hs2⟩ := boxes1 w1 #[.int .i64 2, .int .i64 32, .slice (some ⟨g, 0, none⟩) 64 64] 135
 have hgl := hr1.lt
 have hB12 : Below w.heap.size w W2.drew := ((hB0.trans (hb1.mono hB0.size)).trans (hB2.mono (by have := hb1.size; omega))).drew
 have hXR : W2.drew.heap[w.heap.size]? = some (.cells #[.int .i64 0, .int .i64 0, .slice none 0 0] 28 (0, 0)) := known (hb1.trans (hB2.drew.mono hb1.size)) (Nat.le_refl _) HX0.out
 have hXB : W2.drew.heap[w1.heap.size]? = some (.cells #[.int .i64 2, .int .i64 32, .slice (some ⟨g, 0, none⟩) 64 64] 135 (0, 0)) := hX2
 have HXB := Lib.hid hXB
 have HXR := Lib.hid hXR
 obtain ⟨c0, c1, c2⟩ := cl3 hXB
 obtain ⟨o0, o1, o2⟩ := cl3 hXR
 have hr2 : NumsAt W2.drew g (List.replicate 64 0) := (hr1.block (hB2.block _ hgl)).block rfl
 have hgw : w.heap.size ≠ g := by omega
 have fin : ∀ w5, Below W2.drew.heap.size W2.drew w5 → ∃ g', Ending.returned (.tuple #[.agg #[.int .i64 2, .int .i64 32, .slice (some ⟨g, 0, none⟩) 64 64], .int .i64 0]) = .returned (.tuple #[.agg #[.int .i64 2, .int .i64 32, .slice (some ⟨g', 0, none⟩) 64 64], .int .i64 0]) ∧ NumsAt (((w5.setCell ⟨w.heap.size, 0, none⟩ (.int .i64 2)).setCell ⟨w.heap.size, 1, none⟩ (.int .i64 32)).setCell ⟨w.heap.size, 2, none⟩ (.slice (some ⟨g, 0, none⟩) 64 64)) g' (List.replicate 64 0) ∧ w.heap.size ≤ g' ∧ Below w.heap.size w (((w5.setCell ⟨w.heap.size, 0, none⟩ (.int .i64 2)).setCell ⟨w.heap.size, 1, none⟩ (.int .i64 32)).setCell ⟨w.heap.size, 2, none⟩ (.slice (some ⟨g, 0, none⟩) 64 64)) := fun w5 hb5 =>
  ⟨g, rfl, (((hr2.block (hb5.block _ hr2.lt)).block (heap_set_other (p := ⟨w.heap.size, 0, none⟩) hgw _)).block (heap_set_other (p := ⟨w.heap.size, 1, none⟩) hgw _)).block (heap_set_other (p := ⟨w.heap.size, 2, none⟩) hgw _), by omega,
   (((hB12.trans (hb5.mono hB12.size)).setCell (p := ⟨w.heap.size, 0, none⟩) (Nat.le_refl _) _).setCell (p := ⟨w.heap.size, 1, none⟩) (Nat.le_refl _) _).setCell (p := ⟨w.heap.size, 2, none⟩) (Nat.le_refl _) _⟩
 clear hX2 hB2 hr1 hXB hXR hr2 hb1 hB12
 go_wp2_with fail
 refine wp_region_any (by kernel_rfl) ?_
 change wpAny _ _ _ _ _ _ _ (World.drew _)
 refine tk 0 (v := ?_) rfl ?_ ?_
 rotate_left
 ·intro w; go_simp; with_reducible rfl
 refine tk 2 (v := ?_) rfl ?_ ?_
 rotate_left
 ·intro w; go_simp; with_reducible rfl
 refine wpAny_ready (rs := [1, 3]) (by kernel_rfl) (by simp) ?_
 refine AllReady.cons rfl (fun K hK => ?_) ?_
 ·go_simp
  refine hK _ _ ?_
  clear hK K
  refine wpAny_ready (rs := [3]) (by kernel_rfl) (by simp) ?_
  refine AllReady.cons rfl (fun K hK => ?_) ?_
  ·go_simp
   refine (cerrno_nil _).mono ?_
   rintro e w5 ⟨rfl, hb5⟩
   have hX5 := known hb5 (Nat.le_refl _) HXB.out
   have hX05 := known hb5 (Nat.le_refl _) HXR.out
   obtain ⟨u0, u1, u2⟩ := cl3 hX5
   obtain ⟨v0, v1, v2⟩ := cl3 hX05
   obtain ⟨f0, f1, f2⟩ := cz3 hX05
   refine hK _ _ ?_
   clear hK K hX5
   refine wpAny_ready (rs := [4]) (by kernel_rfl) (by simp) ?_
   refine AllReady.cons rfl (fun K hK => ?_) ?_
   ·go_simp
    refine hK _ _ ?_
    clear hK K
    refine tk 5 (v := ?_) rfl ?_ ?_
    rotate_left
    ·intro w; go_simp; with_reducible rfl
    refine wpAny_done (by kernel_rfl) ?_ _
    go_wp2_with fail
    refine bodyPost_ret (v := .tuple #[.agg #[.int .i64 2, .int .i64 32, .slice (some ⟨g, 0, none⟩) 64 64], .int .i64 0]) ?_ rfl (fin w5 hb5)
    have hX6 := set_cells3 (u := .int .i64 2) (v := .int .i64 32) (q := .slice (some ⟨g, 0, none⟩) 64 64) hX05
    have k0 := cCc hX6 0
    have k1 := cCc hX6 1
    have k2 := cCc hX6 2
    simp at k0 k1 k2
    simp [results, Tryz.f52, go_sem, k0, k1, k2]
   exact AllReady.nil
  exact AllReady.nil
 refine AllReady.cons rfl (fun K hK => ?_) ?_
 ·go_simp
  refine (cerrno_nil _).mono ?_
  rintro e w5 ⟨rfl, hb5⟩
  have hX5 := known hb5 (Nat.le_refl _) HXB.out
  have hX05 := known hb5 (Nat.le_refl _) HXR.out
  obtain ⟨u0, u1, u2⟩ := cl3 hX5
  obtain ⟨v0, v1, v2⟩ := cl3 hX05
  obtain ⟨f0, f1, f2⟩ := cz3 hX05
  refine hK _ _ ?_
  clear hK K hX5
  refine wpAny_ready (rs := [1]) (by kernel_rfl) (by simp) ?_
  refine AllReady.cons rfl (fun K hK => ?_) ?_
  ·go_simp
   refine hK _ _ ?_
   clear hK K
   refine wpAny_ready (rs := [4]) (by kernel_rfl) (by simp) ?_
   refine AllReady.cons rfl (fun K hK => ?_) ?_
   ·go_simp
    refine hK _ _ ?_
    clear hK K
    refine tk 5 (v := ?_) rfl ?_ ?_
    rotate_left
    ·intro w; go_simp; with_reducible rfl
    refine wpAny_done (by kernel_rfl) ?_ _
    go_wp2_with fail
    refine bodyPost_ret (v := .tuple #[.agg #[.int .i64 2, .int .i64 32, .slice (some ⟨g, 0, none⟩) 64 64], .int .i64 0]) ?_ rfl (fin w5 hb5)
    have hX6 := set_cells3 (u := .int .i64 2) (v := .int .i64 32) (q := .slice (some ⟨g, 0, none⟩) 64 64) hX05
    have k0 := cCc hX6 0
    have k1 := cCc hX6 1
    have k2 := cCc hX6 2
    simp at k0 k1 k2
    simp [results, Tryz.f52, go_sem, k0, k1, k2]
   exact AllReady.nil
  exact AllReady.nil
 exact AllReady.nil
set_option maxRecDepth 100000 in
set_option maxHeartbeats 1000000 in
theorem cbegin_any (c : Nat) (l : List Int) (a : Option Addr) (len cap : Nat) (w : World) (hs : isShapeB 2 c = true) (h2 : c ≤ 32) (hL : SlE encU 1 w.heap.size w a len l) (hl : l.length = 2 * c) (hn : a = none → len = 0) :
  Calls Tryz.prog 179 #[.agg #[.int .i64 2, .int .i64 c, .slice a len cap]] w fun e w' => ∃ g, e = .returned (.tuple #[.agg #[.int .i64 2, .int .i64 c, .slice (some ⟨g, 0, none⟩) (2 * c) (2 * c)], .nilIface]) ∧ NumsAt w' g l ∧ w.heap.size ≤ g ∧ Below w.heap.size w w' := by
 have hR : Hid (∀ w1, Calls Tryz.prog 97 #[.agg #[.int .i64 2, .int .i64 c, .slice a len cap]] w1 fun e w' => e = .returned (.bool true) ∧ Below w1.heap.size w1 w') := fun w1 => (cms_Right_any 2 c l a len cap w1 hL.1).mono fun e w' h => ⟨by rw [h.1]; simp [cmRight, hs, hl], h.2⟩
 have hB := fun w => cblank_any c w hs h2
 obtain ⟨W0, hW0, hXp, hX0, hB0, hs0⟩ := boxes2 w #[.int .i64 2, .int .i64 c, .slice a len cap] 28 #[.int .i64 0, .int .i64 0, .slice none 0 0] 135
 have HX0 := Lib.hid hX0
 have HXP := Lib.hid hXp
 obtain ⟨z0, z1, z2⟩ := cl3 hXp
 have HL := Lib.hid hL
 have HLN := Lib.hid hl
 have HNN := Lib.hid hn
 clear hX0 hXp hL hl hs hn
 go_enter Tryz.func179, Tryz.ntmps179
 go_wp2_with fail
 refine (hR.out _).mono ?_
 rintro e w1 ⟨rfl, hb1⟩
 have hXp1 := known hb1 (Nat.le_refl _) HXP.out
 obtain ⟨y0, y1, y2⟩ := cl3 hXp1
 go_wp2_with fail
 refine (hB _).mono ?_
 rintro e w2 ⟨g, rfl, hr2, hg2, hb2⟩
 obtain ⟨W2, hW2, hX2, hB2, hs2⟩ := boxes1 w2 #[.int .i64 2, .int .i64 c, .slice (some ⟨g, 0, none⟩) (2 * c) (2 * c)] 135
 have hgl := hr2.lt
 have hB02 : Below w.heap.size w w2 := (hB0.trans (hb1.mono hB0.size)).trans (hb2.mono (by have := hb1.size; omega))
 have hB12 : Below w.heap.size w W2 := hB02.trans (hB2.mono hB02.size)
 have hXp2 := known (hb2.trans (hB2.mono hb2.size)) (Nat.le_refl _) hXp1
 have hXr2 := known (hb2.trans (hB2.mono hb2.size)) (Nat.le_refl _) (known hb1 (Nat.le_refl _) HX0.out)
 have hr3 : NumsAt W2 g (List.replicate (2 * c) 0) := hr2.block (hB2.block _ hgl)
 have hlen : len = 2 * c := by rw [HL.out.1, HLN.out]
 subst hlen
 obtain ⟨W3, hcp, hX3, hB3, hs3, hk3⟩ := copy_u64 (cap := cap) hr3 (by simp) (HL.out.below hB12) HNN.out
 rw [flat_map] at hX3
 have hXw := (hk3 w2.heap.size (by omega)).trans hX2
 have hXr3 := (hk3 (w.heap.size + 1) (by have := hb1.size; omega)).trans hXr2
 obtain ⟨q0, q1, q2⟩ := cl3 hXp2
 obtain ⟨s0, s1, s2⟩ := cl3 hX2
 obtain ⟨t0, t1, t2⟩ := cl3 hXw
 obtain ⟨o0, o1, o2⟩ := cl3 hXr3
 obtain ⟨f0, f1, f2⟩ := cz3 hXr3
 have hB13 : Below w.heap.size w W3 := hB12.trans (hB3.mono (by have := hb1.size; omega))
 have hX6 := set_cells3 (u := .int .i64 2) (v := .int .i64 c) (q := .slice (some ⟨g, 0, none⟩) (2 * c) (2 * c)) hXr3
 have hgw : w.heap.size + 1 ≠ g := by have := hb1.size; omega
 have hN3 : NumsAt (((W3.setCell ⟨w.heap.size + 1, 0, none⟩ (.int .i64 2)).setCell ⟨w.heap.size + 1, 1, none⟩ (.int .i64 c)).setCell ⟨w.heap.size + 1, 2, none⟩ (.slice (some ⟨g, 0, none⟩) (2 * c) (2 * c))) g l :=
  ((NumsAt.block (W := W3) hX3 (heap_set_other (p := ⟨w.heap.size + 1, 0, none⟩) hgw _)).block (heap_set_other (p := ⟨w.heap.size + 1, 1, none⟩) hgw _)).block (heap_set_other (p := ⟨w.heap.size + 1, 2, none⟩) hgw _)
 have hB6 := ((hB13.setCell (p := ⟨w.heap.size + 1, 0, none⟩) (Nat.le_succ _) (.int .i64 2)).setCell (p := ⟨w.heap.size + 1, 1, none⟩) (Nat.le_succ _) (.int .i64 c)).setCell (p := ⟨w.heap.size + 1, 2, none⟩) (Nat.le_succ _) (.slice (some ⟨g, 0, none⟩) (2 * c) (2 * c))
 have hg9 : w.heap.size ≤ g := by have := hb1.size; omega
 clear hX2 hX3 hXp2 hXr2 hr2 hr3 hB2 hb1 hb2 hB3 hB12 hB02 hB13 hk3 hXw hXr3
 go_wp2_with fail
 generalize ((W3.setCell ⟨w.heap.size + 1, 0, none⟩ (.int .i64 2)).setCell ⟨w.heap.size + 1, 1, none⟩ (.int .i64 c)).setCell ⟨w.heap.size + 1, 2, none⟩ (.slice (some ⟨g, 0, none⟩) (2 * c) (2 * c)) = V at hX6 hN3 hB6 ⊢
 obtain ⟨k0, k1, k2⟩ := cl3 hX6
 exact bodyPost_ret (v := .tuple #[.agg #[.int .i64 2, .int .i64 c, .slice (some ⟨g, 0, none⟩) (2 * c) (2 * c)], .nilIface]) (by simp [results, Tryz.f179, go_sem, k0, k1, k2]) rfl ⟨g, rfl, hN3, hg9, hB6⟩
end Go.Proofs.YtcbbenncdainfaaGreatDoor
namespace Go.Proofs.YtcbbenncdainfaaGreatDoor
open Go Go.RowKit Go.Shelf
set_option maxRecDepth 100000 in
set_option maxHeartbeats 1000000 in
theorem cLower_any (c : Nat) (l : List Int) (a : Option Addr) (len cap : Nat) (w : World) (hs : isShapeB 2 c = true) (hs2 : isShapeB 2 ((c / 2 : Nat) : Int) = true) (hc : c = 8 ∨ c = 16 ∨ c = 32) (hL : SlE encU 1 w.heap.size w a len l) (hl : l.length = 2 * c) (hlu : U64s l) :
  Calls Tryz.prog 177 #[.agg #[.int .i64 2, .int .i64 c, .slice a len cap]] w fun e w' => ∃ g, e = .returned (.tuple #[.agg #[.int .i64 2, .int .i64 ((c / 2 : Nat) : Int), .slice (some ⟨g, 0, none⟩) (2 * (c / 2)) (2 * (c / 2))], .int .i64 0]) ∧ NumsAt w' g (cmLow c l) ∧ w.heap.size ≤ g ∧ Below w.heap.size w w' := by
 have hR : Hid (∀ w1, Calls Tryz.prog 97 #[.agg #[.int .i64 2, .int .i64 c, .slice a len cap]] w1 fun e w' => e = .returned (.bool true) ∧ Below w1.heap.size w1 w') := fun w1 => (cms_Right_any 2 c l a len cap w1 hL.1).mono fun e w' h => ⟨by rw [h.1]; simp [cmRight, hs, hl], h.2⟩
 obtain ⟨d, hd⟩ : ∃ d, c / 2 = d := ⟨_, rfl⟩
 have hB : Hid (∀ w, Calls Tryz.prog 79 #[.int .i64 2, .int .i64 d] w fun e w' => ∃ g, e = .returned (.tuple #[.agg #[.int .i64 2, .int .i64 d, .slice (some ⟨g, 0, none⟩) (2 * d) (2 * d)], .nilIface]) ∧ NumsAt w' g (List.replicate (2 * d) 0) ∧ w.heap.size ≤ g ∧ Below w.heap.size w w') := fun w => by rw [← hd]; exact cblank_any (c / 2) w hs2 (by omega)
 have HF : Hid (∀ (fb xb p : Nat) (old : Int) (v : Value) (w1 : World), p < 2 * d → SlE encU 1 w1.heap.size w1 a len l → w1.heap[fb]? = some (.cells #[.int .i64 2, .int .i64 d, v] 135 (0, 0)) → w1.heap[xb]? = some (.cells #[.int .i64 2, .int .i64 c, .slice a len cap] 28 (0, 0)) →
   Calls Tryz.prog 185 #[.int .i64 p, .int .u64 old, .pointer (some ⟨fb, 0, none⟩), .pointer (some ⟨xb, 0, none⟩)] w1 fun e w' => e = .returned (.int .u64 (lowF c l p old)) ∧ Below w1.heap.size w1 w') := fun fb xb p old v w1 hp hL1 hf hx => by rw [← hd] at hp hf; exact lowF_any c fb xb p old l a len cap v w1 hc hp hl hlu hL1 hf hx
 have HE : Hid (chFold (fun x : Fin (2 * d) => x.1) (lowF c l) (List.replicate (2 * d) 0) (List.finRange (2 * d)) = cmLow c l) := by rw [Hid, ← hd]; exact chFold_low c l
 have HU : Hid (∀ p x, U64 (lowF c l p x)) := fun p x => satI_u64 _ _ (getD_u64 l hlu _) (getD_u64 l hlu _)
 have hd16 : d ≤ 16 := by omega
 have hcd : ((c : Int).tdiv 2) = (d : Int) := by rw [Int.tdiv_eq_ediv_of_nonneg (by omega)]; omega
 have hcd2 : ((c : Int) / 2) = (d : Int) := by omega
 have hcw : wrap64 (d : Int) = d := wrap64_nat d (by omega)
 rw [hd]
 have HL := Lib.hid hL
 obtain ⟨W0, hW0, hXp, hXr, hB0, hs0⟩ := boxes2 w #[.int .i64 2, .int .i64 c, .slice a len cap] 28 #[.int .i64 0, .int .i64 0, .slice none 0 0] 28
 have HXP := Lib.hid hXp
 have HXR := Lib.hid hXr
 obtain ⟨x0, x1, x2⟩ := cl3 hXp
 clear hXp hXr hL hl hlu hs hs2 hd hc
 go_enter Tryz.func177, Tryz.ntmps177
 go_wp2_with fail
 refine (hR.out _).mono ?_
 rintro e w1 ⟨rfl, hb1⟩
 have hXp1 := known hb1 (Nat.le_refl _) HXP.out
 obtain ⟨y0, y1, y2⟩ := cl3 hXp1
 go_wp2_with fail
 refine (hB.out _).mono ?_
 rintro e w2 ⟨g, rfl, hr2, hg2, hb2⟩
 obtain ⟨W2, hW2, hX2, hB2, hs2⟩ := boxes1 w2 #[.int .i64 2, .int .i64 d, .slice (some ⟨g, 0, none⟩) (2 * d) (2 * d)] 135
 obtain ⟨W5, hW5, hY5, hB5, hs5⟩ := boxes1 W2.drew #[.int .i64 2, .int .i64 d, .slice (some ⟨g, 0, none⟩) (2 * d) (2 * d)] 135
 have hzd : W2.drew.heap.size = w2.heap.size + 1 := hs2
 rw [hzd] at hY5 hB5 hs5
 have hgl := hr2.lt
 have hb1s := hb1.size
 have hb2s := hb2.size
 have hB25 : Below w2.heap.size w2 W5 := hB2.drew.trans (hB5.mono (by omega))
 have hr5 : NumsAt W5 g (List.replicate (2 * d) 0) := hr2.block (hB25.block _ hgl)
 have hX5 : W5.heap[w2.heap.size]? = some (.cells #[.int .i64 2, .int .i64 d, .slice (some ⟨g, 0, none⟩) (2 * d) (2 * d)] 135 (0, 0)) := (hB5.block _ (by omega)).trans (show W2.drew.heap[w2.heap.size]? = _ from hX2)
 have hP5 : W5.heap[w.heap.size]? = some (.cells #[.int .i64 2, .int .i64 c, .slice a len cap] 28 (0, 0)) := known ((hb1.trans (hb2.mono hb1s)).trans (hB25.mono (by omega))) (Nat.le_refl _) HXP.out
 have hR5 : W5.heap[w.heap.size + 1]? = some (.cells #[.int .i64 0, .int .i64 0, .slice none 0 0] 28 (0, 0)) := known ((hb1.trans (hb2.mono hb1s)).trans (hB25.mono (by omega))) (Nat.le_refl _) HXR.out
 have hB05 : Below w.heap.size w W5 := (hB0.trans (hb1.mono (by omega))).trans ((hb2.mono (by omega)).trans (hB25.mono (by omega)))
 have hCH := change_low (lowF c l) (w2.heap.size + 1) w2.heap.size w.heap.size g (2 * d) (2 * d) (2 * d) (2 * d) 2 d 2 d (some ⟨g, 0, none⟩) (List.replicate (2 * d) 0) W5 (by omega) hY5 hr5 (by simp) (fun x hx => by rw [List.eq_of_mem_replicate hx]; exact u64_0) (by intro k hk; simp at hk; omega)
  (fun W p x hG hx => by
   have hBW : Below w.heap.size W5 W := (Below.refl _ W5).grown hG hB05.size (fun k e => by cases e; omega)
   have hbb := hB05.trans hBW
   exact HF.out w2.heap.size w.heap.size p.1 x (.slice (some ⟨g, 0, none⟩) (2 * d) (2 * d)) W p.2 ((HL.out.below hbb).mono hbb.size) ((hG.block _ (Array.getElem?_eq_some_iff.1 hX5).1 (fun e => by cases e; omega)).trans hX5) ((hG.block _ (Array.getElem?_eq_some_iff.1 hP5).1 (fun e => by cases e; omega)).trans hP5)) (fun p x _ => HU.out p x) (fun p => p.2)
 have HW5 := Lib.hid hW5
 have HX5 := Lib.hid hX5
 have HR5 := Lib.hid hR5
 have HB05 := Lib.hid hB05
 have hXd : W2.drew.heap[w2.heap.size]? = some (.cells #[.int .i64 2, .int .i64 d, .slice (some ⟨g, 0, none⟩) (2 * d) (2 * d)] 135 (0, 0)) := hX2
 obtain ⟨c0, c1, c2⟩ := cl3 hXd
 obtain ⟨z0, z1, z2⟩ := cl3 hX5
 have hgw : w.heap.size + 1 < g := by omega
 clear hW5 hX2 hXd hX5 hR5 hP5 hY5 hB2 hB5 hB25 hB05 hr2 hr5 hb1 hb2
 have fin : ∀ w6, NumsAt w6 g (cmLow c l) → W5.grownBy w6 (some g) → ∃ V, ((w6.setCell ⟨w.heap.size + 1, 0, none⟩ (.int .i64 2)).setCell ⟨w.heap.size + 1, 1, none⟩ (.int .i64 d)).setCell ⟨w.heap.size + 1, 2, none⟩ (.slice (some ⟨g, 0, none⟩) (2 * d) (2 * d)) = V ∧ V.heap[w.heap.size + 1]? = some (.cells #[.int .i64 2, .int .i64 d, .slice (some ⟨g, 0, none⟩) (2 * d) (2 * d)] 28 (0, 0)) ∧ NumsAt V g (cmLow c l) ∧ Below w.heap.size w V := fun w6 hN6 hG6 => by
  have hR6 := (hG6.block _ (Array.getElem?_eq_some_iff.1 HR5.out).1 (fun e => by cases e; omega)).trans HR5.out
  have hne : w.heap.size + 1 ≠ g := by omega
  refine ⟨_, rfl, set_cells3 hR6, ((hN6.block (heap_set_other (p := ⟨w.heap.size + 1, 0, none⟩) hne _)).block (heap_set_other (p := ⟨w.heap.size + 1, 1, none⟩) hne _)).block (heap_set_other (p := ⟨w.heap.size + 1, 2, none⟩) hne _), ?_⟩
  exact (((HB05.out.grown hG6 HB05.out.size (fun k e => by cases e; omega)).setCell (p := ⟨w.heap.size + 1, 0, none⟩) (by show _ ≤ _ + 1; omega) _).setCell (p := ⟨w.heap.size + 1, 1, none⟩) (by show _ ≤ _ + 1; omega) _).setCell (p := ⟨w.heap.size + 1, 2, none⟩) (by show _ ≤ _ + 1; omega) _
 go_wp2_with fail
 refine wp_region_any (by kernel_rfl) ?_
 change wpAny _ _ _ _ _ _ _ (World.drew _)
 refine tk 3 (v := ?_) rfl ?_ ?_
 rotate_left
 ·intro w; go_simp; with_reducible rfl
 refine wpAny_ready (rs := [0, 1]) (by kernel_rfl) (by simp) ?_
 refine AllReady.cons rfl (fun K hK => ?_) ?_
 ·go_simp
  refine hK _ _ ?_
  clear hK K
  refine wpAny_ready (rs := [1]) (by kernel_rfl) (by simp) ?_
  refine AllReady.cons rfl (fun K hK => ?_) ?_
  ·go_simp
   refine hK _ _ ?_
   clear hK K
   refine wpAny_ready (rs := [2]) (by kernel_rfl) (by simp) ?_
   refine AllReady.cons rfl (fun K hK => ?_) ?_
   ·go_simp
    refine (all_any 2 d (.slice (some ⟨g, 0, none⟩) (2 * d) (2 * d)) _).mono ?_
    rintro e w5 ⟨rfl, rfl⟩
    rw [HW5.out]
    refine hK _ _ ?_
    clear hK K
    refine wpAny_ready (rs := [4]) (by kernel_rfl) (by simp) ?_
    refine AllReady.cons rfl (fun K hK => ?_) ?_
    ·go_simp
     refine hCH.mono ?_
     rintro e w6 ⟨rfl, hN6, hG6⟩
     rw [HE.out] at hN6
     refine hK _ _ ?_
     clear hK K
     refine wpAny_done (by kernel_rfl) ?_ _
     have hX6 := (hG6.block _ (Array.getElem?_eq_some_iff.1 HX5.out).1 (fun e => by cases e; omega)).trans HX5.out
     have hR6 : w6.heap[w.heap.size + 1]? = _ := (hG6.block _ (Array.getElem?_eq_some_iff.1 HR5.out).1 (fun e => by cases e; omega)).trans HR5.out
     obtain ⟨z0, z1, z2⟩ := cl3 hX6
     obtain ⟨v0, v1, v2⟩ := cl3 hR6
     obtain ⟨f0, f1, f2⟩ := cz3 hR6
     obtain ⟨V, hV, hXV, hNV, hBV⟩ := fin w6 hN6 hG6
     clear fin hX6 hR6 hN6 hG6 hCH
     go_wp2_with fail
     have k0 := cCc hXV 0
     have k1 := cCc hXV 1
     have k2 := cCc hXV 2
     simp at k0 k1 k2
     exact bodyPost_ret (v := .tuple #[.agg #[.int .i64 2, .int .i64 d, .slice (some ⟨g, 0, none⟩) (2 * d) (2 * d)], .int .i64 0]) (by simp [results, Tryz.f177, go_sem, k0, k1, k2]) rfl ⟨g, rfl, hNV, by omega, hBV⟩
    exact AllReady.nil
   exact AllReady.nil
  exact AllReady.nil
 refine AllReady.cons rfl (fun K hK => ?_) ?_
 ·go_simp
  refine hK _ _ ?_
  clear hK K
  refine wpAny_ready (rs := [0, 2]) (by kernel_rfl) (by simp) ?_
  refine AllReady.cons rfl (fun K hK => ?_) ?_
  ·go_simp
   refine hK _ _ ?_
   clear hK K
   refine wpAny_ready (rs := [2]) (by kernel_rfl) (by simp) ?_
   refine AllReady.cons rfl (fun K hK => ?_) ?_
   ·go_simp
    refine (all_any 2 d (.slice (some ⟨g, 0, none⟩) (2 * d) (2 * d)) _).mono ?_
    rintro e w5 ⟨rfl, rfl⟩
    rw [HW5.out]
    refine hK _ _ ?_
    clear hK K
    refine wpAny_ready (rs := [4]) (by kernel_rfl) (by simp) ?_
    refine AllReady.cons rfl (fun K hK => ?_) ?_
    ·go_simp
     refine hCH.mono ?_
     rintro e w6 ⟨rfl, hN6, hG6⟩
     rw [HE.out] at hN6
     refine hK _ _ ?_
     clear hK K
     refine wpAny_done (by kernel_rfl) ?_ _
     have hX6 := (hG6.block _ (Array.getElem?_eq_some_iff.1 HX5.out).1 (fun e => by cases e; omega)).trans HX5.out
     have hR6 : w6.heap[w.heap.size + 1]? = _ := (hG6.block _ (Array.getElem?_eq_some_iff.1 HR5.out).1 (fun e => by cases e; omega)).trans HR5.out
     obtain ⟨z0, z1, z2⟩ := cl3 hX6
     obtain ⟨v0, v1, v2⟩ := cl3 hR6
     obtain ⟨f0, f1, f2⟩ := cz3 hR6
     obtain ⟨V, hV, hXV, hNV, hBV⟩ := fin w6 hN6 hG6
     clear fin hX6 hR6 hN6 hG6 hCH
     go_wp2_with fail
     have k0 := cCc hXV 0
     have k1 := cCc hXV 1
     have k2 := cCc hXV 2
     simp at k0 k1 k2
     exact bodyPost_ret (v := .tuple #[.agg #[.int .i64 2, .int .i64 d, .slice (some ⟨g, 0, none⟩) (2 * d) (2 * d)], .int .i64 0]) (by simp [results, Tryz.f177, go_sem, k0, k1, k2]) rfl ⟨g, rfl, hNV, by omega, hBV⟩
    exact AllReady.nil
   exact AllReady.nil
  refine AllReady.cons rfl (fun K hK => ?_) ?_
  ·go_simp
   refine (all_any 2 d (.slice (some ⟨g, 0, none⟩) (2 * d) (2 * d)) _).mono ?_
   rintro e w5 ⟨rfl, rfl⟩
   rw [HW5.out]
   refine hK _ _ ?_
   clear hK K
   refine wpAny_ready (rs := [0]) (by kernel_rfl) (by simp) ?_
   refine AllReady.cons rfl (fun K hK => ?_) ?_
   ·go_simp
    refine hK _ _ ?_
    clear hK K
    refine wpAny_ready (rs := [4]) (by kernel_rfl) (by simp) ?_
    refine AllReady.cons rfl (fun K hK => ?_) ?_
    ·go_simp
     refine hCH.mono ?_
     rintro e w6 ⟨rfl, hN6, hG6⟩
     rw [HE.out] at hN6
     refine hK _ _ ?_
     clear hK K
     refine wpAny_done (by kernel_rfl) ?_ _
     have hX6 := (hG6.block _ (Array.getElem?_eq_some_iff.1 HX5.out).1 (fun e => by cases e; omega)).trans HX5.out
     have hR6 : w6.heap[w.heap.size + 1]? = _ := (hG6.block _ (Array.getElem?_eq_some_iff.1 HR5.out).1 (fun e => by cases e; omega)).trans HR5.out
     obtain ⟨z0, z1, z2⟩ := cl3 hX6
     obtain ⟨v0, v1, v2⟩ := cl3 hR6
     obtain ⟨f0, f1, f2⟩ := cz3 hR6
     obtain ⟨V, hV, hXV, hNV, hBV⟩ := fin w6 hN6 hG6
     clear fin hX6 hR6 hN6 hG6 hCH
     go_wp2_with fail
     have k0 := cCc hXV 0
     have k1 := cCc hXV 1
     have k2 := cCc hXV 2
     simp at k0 k1 k2
     exact bodyPost_ret (v := .tuple #[.agg #[.int .i64 2, .int .i64 d, .slice (some ⟨g, 0, none⟩) (2 * d) (2 * d)], .int .i64 0]) (by simp [results, Tryz.f177, go_sem, k0, k1, k2]) rfl ⟨g, rfl, hNV, by omega, hBV⟩
    exact AllReady.nil
   exact AllReady.nil
  exact AllReady.nil
 exact AllReady.nil
end Go.Proofs.YtcbbenncdainfaaGreatDoor
namespace Go.Proofs.YtcbbenncdainfaaGreatDoor
open Go Go.RowKit Go.Shelf
def BdAt (W : World) (v : Value) : Bd → Prop
 | .num l => ∃ a len cap, v = .iface 144 (.agg #[.slice a len cap]) ∧ SlC encU 1 W.heap.size W a len cap l
 | .reg b r => v = .iface 147 (.agg #[.int .i64 b, .string (hlStr r)])
 | .cnt c l => ∃ a len cap, v = .iface 148 (.agg #[.int .i64 2, .int .i64 c, .slice a len cap]) ∧ SlC encU 1 W.heap.size W a len cap l
 | .bkt f l => ∃ a len cap, v = .iface 150 (.agg #[.int .i64 f, .slice a len cap]) ∧ SlC encB 2 W.heap.size W a len cap l
theorem BdAt.go {W W' : World} {v : Value} {B : Bd} (h : BdAt W v B) (hb : Below W.heap.size W W') : BdAt W' v B := by
 cases B with
 | num l => obtain ⟨a, len, cap, h1, h2⟩ := h; exact ⟨a, len, cap, h1, h2.go hb⟩
 | reg b r => exact h
 | cnt c l => obtain ⟨a, len, cap, h1, h2⟩ := h; exact ⟨a, len, cap, h1, h2.go hb⟩
 | bkt f l => obtain ⟨a, len, cap, h1, h2⟩ := h; exact ⟨a, len, cap, h1, h2.go hb⟩
def FaultAt (W : World) (v : Value) (no : Int) : Prop := ∃ b, v = .iface 97 (.pointer (some ⟨b, 0, none⟩)) ∧ W.heap[b]? = some (.cells #[.int .i64 no] 99 (0, 0))
def BodyPost (o : Option Bd) (w : World) (e : Ending) (w' : World) : Prop := Below w.heap.size w w' ∧ match o with
 | some B => ∃ v, e = .returned (.tuple #[v, .nilIface]) ∧ BdAt w' v B
 | none => ∃ v, e = .returned (.tuple #[.nilIface, v]) ∧ FaultAt w' v 60
theorem told_ok (v : Value) (w : World) : Calls Tryz.prog 136 #[v, .int .i64 0] w fun e w' => e = .returned (.tuple #[v, .nilIface]) ∧ w' = w := by
 go_enter Tryz.func136, Tryz.ntmps136
 go_wp2
 exact bodyPost_ret (v := .tuple #[v, .nilIface]) (by simp [results, Tryz.f136, go_sem]) rfl ⟨rfl, rfl⟩
theorem told_no (v : Value) (w : World) : Calls Tryz.prog 136 #[v, .int .i64 60] w fun e w' => e = .returned (.tuple #[.nilIface, .iface 97 (.pointer (some ⟨w.heap.size, 0, none⟩))]) ∧ w' = w.alloc (.cells #[.int .i64 60] 99) := by
 go_enter Tryz.func136, Tryz.ntmps136
 go_wp2
 exact bodyPost_ret (v := .tuple #[.nilIface, .iface 97 (.pointer (some ⟨w.heap.size, 0, none⟩))]) (by simp [results, Tryz.f136, go_sem]) rfl ⟨rfl, rfl⟩
theorem shape_any (c : Nat) (hc : c = 4 ∨ c = 8 ∨ c = 16 ∨ c = 32) : isShapeB 2 (c : Int) = true := by rcases hc with rfl | rfl | rfl | rfl <;> decide +kernel
theorem nums_slC {W : World} {g n : Nat} {l : List Int} (h : NumsAt W g l) (hn : l.length = n) (hm : n ≤ maxLen) : SlC encU 1 W.heap.size W (some ⟨g, 0, none⟩) n n l := by
 refine ⟨⟨hn.symm, fun j x hx => ⟨g, 0, rfl, h.lt, fun i hi => ?_⟩⟩, Nat.le_refl _, hm, (fun e => by cases e), fun x hx _ => by cases hx; exact ⟨rfl, h.lt⟩⟩
 obtain rfl : i = 0 := by omega
 have hj : j < l.length := (List.getElem?_eq_some_iff.1 hx).1
 rw [show (0 + j * 1 + 0) = j by omega, h.cell hj]
 have : l.getD j 0 = x := by rw [List.getD_eq_getElem?_getD, hx]; rfl
 rw [this]
 rfl
-- METHODS
set_option maxRecDepth 100000 in
set_option maxHeartbeats 1000000 in
theorem low_num (l : List Int) (a : Option Addr) (len cap : Nat) (w : World) (hS : SlC encU 1 w.heap.size w a len cap l) (hu : U64s l) (hlen : l.length ≤ 1000) :
  Calls Tryz.prog 133 #[.agg #[.slice a len cap]] w (BodyPost (some (Bd.num l).low) w) := by
 obtain ⟨W0, hW0, hXb, hB0, hs0⟩ := boxes1 w #[.slice a len cap] 144
 have c0 : W0.cell? ⟨w.heap.size, 0, none⟩ = some (.slice a len cap) := cCc hXb 0
 have HA := Lib.hid (hOf_any 7 l a len cap W0 (by decide) (by decide) ((hS.1.below hB0).mono hB0.size) hu (by have := hS.1.1; omega))
 have HB0 := Lib.hid hB0
 clear hXb hB0
 obtain ⟨s, hst⟩ : ∃ s, hlStr (hlSum 7 (hlNone 7) (l.map Int.toNat)) = s := ⟨_, rfl⟩
 rw [hst] at HA
 have HSt := Lib.hid hst
 clear hst hS hu hlen
 go_enter Tryz.func133, Tryz.ntmps133
 go_wp2_with fail
 refine HA.out.mono ?_
 rintro e w1 ⟨rfl, hb1⟩
 obtain ⟨W2, hW2, hX2, hB2, hs2⟩ := boxes1 w1 #[.int .i64 7, .string s] 26
 obtain ⟨q0, q1⟩ := cl2 hX2
 have HT := Lib.hid (told_ok (.iface 147 (.agg #[.int .i64 7, .string s])) W2)
 have HB2 := Lib.hid hB2
 have HB1 := Lib.hid hb1
 clear hX2 hB2 hb1
 go_wp2_with fail
 refine HT.out.mono ?_
 rintro e w3 ⟨rfl, rfl⟩
 go_wp2_with fail
 have hB12 := HB1.out.trans (HB2.out.mono HB1.out.size)
 refine bodyPost_ret (v := .tuple #[.iface 147 (.agg #[.int .i64 7, .string s]), .nilIface]) (by simp [results, Tryz.f133, go_sem]) rfl ⟨HB0.out.trans (hB12.mono HB0.out.size), ?_⟩
 exact ⟨_, rfl, by rw [← HSt.out]; rfl⟩
set_option maxRecDepth 100000 in
set_option maxHeartbeats 1000000 in
theorem low_reg (b : Nat) (r : List Nat) (w : World) (h1 : 4 ≤ b) (h2 : b ≤ 8) (hl : r.length = 2 ^ b) (hr : ∀ i, r.getD i 0 ≤ 65 - b) :
  Calls Tryz.prog 163 #[.agg #[.int .i64 b, .string (hlStr r)]] w (BodyPost (some (Bd.reg b r).low) w) := by
 obtain ⟨W0, hW0, hXb, hB0, hs0⟩ := boxes1 w #[.int .i64 b, .string (hlStr r)] 147
 obtain ⟨c0, c1⟩ := cl2 hXb
 have HA := Lib.hid (hLower_any b r W0 h1 h2 hl hr)
 have HB0 := Lib.hid hB0
 clear hXb hB0
 obtain ⟨s, hst⟩ : ∃ s, hlStr (hlLow b r) = s := ⟨_, rfl⟩
 rw [hst] at HA
 have HSt := Lib.hid hst
 clear hst hl hr h1 h2
 go_enter Tryz.func163, Tryz.ntmps163
 go_wp2_with fail
 refine HA.out.mono ?_
 rintro e w1 ⟨rfl, hb1⟩
 obtain ⟨W2, hW2, hX2, hB2, hs2⟩ := boxes1 w1 #[.int .i64 ((b - 1 : Nat) : Int), .string s] 26
 obtain ⟨q0, q1⟩ := cl2 hX2
 have HT := Lib.hid (told_ok (.iface 147 (.agg #[.int .i64 ((b - 1 : Nat) : Int), .string s])) W2)
 have HB2 := Lib.hid hB2
 have HB1 := Lib.hid hb1
 clear hX2 hB2 hb1
 go_wp2_with fail
 refine HT.out.mono ?_
 rintro e w3 ⟨rfl, rfl⟩
 go_wp2_with fail
 have hB12 := HB1.out.trans (HB2.out.mono HB1.out.size)
 refine bodyPost_ret (v := .tuple #[.iface 147 (.agg #[.int .i64 ((b - 1 : Nat) : Int), .string s]), .nilIface]) (by simp [results, Tryz.f163, go_sem]) rfl ⟨HB0.out.trans (hB12.mono HB0.out.size), ?_⟩
 exact ⟨_, rfl, by rw [← HSt.out]; rfl⟩
set_option maxRecDepth 100000 in
set_option maxHeartbeats 1000000 in
theorem low_cnt (c : Nat) (l : List Int) (a : Option Addr) (len cap : Nat) (w : World) (hc : c = 8 ∨ c = 16 ∨ c = 32) (hS : SlC encU 1 w.heap.size w a len cap l) (hl : l.length = c + c) (hlu : U64s l) :
  Calls Tryz.prog 173 #[.agg #[.int .i64 2, .int .i64 c, .slice a len cap]] w (BodyPost (some (Bd.cnt c l).low) w) := by
 obtain ⟨W0, hW0, hXb, hB0, hs0⟩ := boxes1 w #[.int .i64 2, .int .i64 c, .slice a len cap] 148
 obtain ⟨c0, c1, c2⟩ := cl3 hXb
 have HA := Lib.hid (cLower_any c l a len cap W0 (shape_any c (by omega)) (shape_any (c / 2) (by omega)) hc ((hS.1.below hB0).mono hB0.size) (by omega) hlu)
 have HB0 := Lib.hid hB0
 clear hXb hB0
 obtain ⟨d, hd⟩ : ∃ d, c / 2 = d := ⟨_, rfl⟩
 rw [hd] at HA
 have HD := Lib.hid hd
 have HC : Hid (2 * d ≤ 64) := (by omega : 2 * d ≤ 64)
 have HLen : Hid ((cmLow c l).length = 2 * d) := by rw [Hid, cmLow_len]; omega
 clear hS hl hlu hc hd
 go_enter Tryz.func173, Tryz.ntmps173
 go_wp2_with fail
 refine HA.out.mono ?_
 rintro e w1 ⟨g, rfl, hN1, hg1, hb1⟩
 have HN := Lib.hid (nums_slC hN1 HLen.out (by have := HC.out; unfold maxLen; omega))
 clear hN1
 obtain ⟨W2, hW2, hX2, hB2, hs2⟩ := boxes1 w1 #[.int .i64 2, .int .i64 d, .slice (some ⟨g, 0, none⟩) (2 * d) (2 * d)] 28
 obtain ⟨q0, q1, q2⟩ := cl3 hX2
 have HT := Lib.hid (told_ok (.iface 148 (.agg #[.int .i64 2, .int .i64 d, .slice (some ⟨g, 0, none⟩) (2 * d) (2 * d)])) W2)
 have HB2 := Lib.hid hB2
 have HB1 := Lib.hid hb1
 clear hX2 hB2 hb1
 go_wp2_with fail
 refine HT.out.mono ?_
 rintro e w3 ⟨rfl, rfl⟩
 go_wp2_with fail
 have hB12 := HB1.out.trans (HB2.out.mono HB1.out.size)
 refine bodyPost_ret (v := .tuple #[.iface 148 (.agg #[.int .i64 2, .int .i64 d, .slice (some ⟨g, 0, none⟩) (2 * d) (2 * d)]), .nilIface]) (by simp [results, Tryz.f173, go_sem]) rfl ⟨HB0.out.trans (hB12.mono HB0.out.size), ?_⟩
 exact ⟨_, rfl, by show BdAt _ _ (.cnt (c / 2) (cmLow c l)); rw [HD.out]; exact ⟨_, _, _, rfl, HN.out.go HB2.out⟩⟩
set_option maxRecDepth 100000 in
set_option maxHeartbeats 1000000 in
theorem low_bkt (f : Nat) (l : List (Int × Int)) (a : Option Addr) (len cap : Nat) (w : World) (h1 : 1 ≤ f) (hf : f ≤ 3) (hS : SlC encB 2 w.heap.size w a len cap l) (hr : hiRight f l = true) (hbd : ∀ b ∈ l, boundsB f b.1 = true) (hbu : BinsU l) (hlen : l.length ≤ 1000) :
  Calls Tryz.prog 192 #[.agg #[.int .i64 f, .slice a len cap]] w (BodyPost (some (Bd.bkt f l).low) w) := by
 obtain ⟨W0, hW0, hXb, hB0, hs0⟩ := boxes1 w #[.int .i64 f, .slice a len cap] 150
 obtain ⟨c0, c1⟩ := cl2 hXb
 have HA := Lib.hid (hiLower_any f l a len cap W0 h1 hf ((hS.1.below hB0).mono hB0.size) hr hbd hbu (by have := hS.1.1; omega))
 have HB0 := Lib.hid hB0
 clear hXb hB0
 have HF : Hid (1 ≤ f) := h1
 clear hS hr hbd hbu hlen hf h1
 go_enter Tryz.func192, Tryz.ntmps192
 go_wp2_with fail
 refine HA.out.mono ?_
 rintro e w1 ⟨a', len', cap', rfl, hS1, hb1⟩
 have HN := Lib.hid hS1
 clear hS1
 obtain ⟨W2, hW2, hX2, hB2, hs2⟩ := boxes1 w1 #[.int .i64 ((f : Int) - 1), .slice a' len' cap'] 31
 obtain ⟨q0, q1⟩ := cl2 hX2
 have HT := Lib.hid (told_ok (.iface 150 (.agg #[.int .i64 ((f : Int) - 1), .slice a' len' cap'])) W2)
 have HB2 := Lib.hid hB2
 have HB1 := Lib.hid hb1
 clear hX2 hB2 hb1
 go_wp2_with fail
 refine HT.out.mono ?_
 rintro e w3 ⟨rfl, rfl⟩
 go_wp2_with fail
 have hB12 := HB1.out.trans (HB2.out.mono HB1.out.size)
 refine bodyPost_ret (v := .tuple #[.iface 150 (.agg #[.int .i64 ((f : Int) - 1), .slice a' len' cap']), .nilIface]) (by simp [results, Tryz.f192, go_sem]) rfl ⟨HB0.out.trans (hB12.mono HB0.out.size), ?_⟩
 exact ⟨_, rfl, _, _, _, by rw [show ((f - 1 : Nat) : Int) = (f : Int) - 1 by have := HF.out; omega], HN.out.go HB2.out⟩
end Go.Proofs.YtcbbenncdainfaaGreatDoor
namespace Go.Proofs.YtcbbenncdainfaaGreatDoor
open Go Go.RowKit Go.Extern.Stop Go.Stop Go.Extern
theorem as_nil (t : Value) (w : World) :
  Calls Tryz.prog 89 #[.nilIface, t] w fun e w' => e = .returned (.bool false) ∧ w' = w := by
 go_enter Tryz.func89, Tryz.ntmps89
 go_wp2
 go_ret
 exact ⟨rfl, rfl⟩
theorem as_valueOf27 (t : Addr) (w : World) : (ReflectliteValue.unpack (.iface 153 (.pointer (some t)))).run Tryz.prog w
  = .ok (.agg #[.pointer (some ⟨1, 153, none⟩), .pointer (some ⟨w.heap.size, 0, none⟩), .int .u64 150]) (w.alloc (.cells #[.pointer (some t)] 153)) := by kernel_rfl
theorem as_type27 (a : Addr) (w : World) : (ReflectliteValue.methodAny (ReflectliteValue.valueError "reflectlite.Value.Type" 0) (fun t _ _ _ => ReflectliteType.toType t) #[.agg #[.pointer (some ⟨1, 153, none⟩), .pointer (some a), .int .u64 150]]).run Tryz.prog w
  = .ok (.iface 176 (.agg #[.pointer (some ⟨1, 153, none⟩)])) w := by kernel_rfl
theorem as_methodKind (h : Value) (w : World) : (Go.method 392 176 (.agg #[h]) "Kind").run Tryz.prog w = .ok (125, h) w := by kernel_rfl
theorem as_kind27 (w : World) : ((ReflectliteType.abiMethod fun t => (fun a : Nat => Value.int IntKind.u8 (a : Int)) <$> Rtype.kind t) #[.pointer (some ⟨1, 153, none⟩)]).run Tryz.prog w = .ok (.int .u8 22) w := by kernel_rfl
theorem as_kind25 (w : World) : ((ReflectliteType.abiMethod fun t => (fun a : Nat => Value.int IntKind.u8 (a : Int)) <$> Rtype.kind t) #[.pointer (some ⟨1, 97, none⟩)]).run Tryz.prog w = .ok (.int .u8 22) w := by kernel_rfl
theorem rlm (z : Sem Value) (f : TypeId → Addr → Nat → Nat → Sem Value) (v : Value) :
  ReflectliteValue.method z f #[v] = (do match ← ReflectliteValue.parts v with | none => z | some (t, a, fl) => f t a fl (fl % 32)) := rfl
theorem as_parts27 (a : Addr) (w : World) : (ReflectliteValue.parts (.agg #[.pointer (some ⟨1, 153, none⟩), .pointer (some a), .int .u64 150])).run Tryz.prog w = .ok (some (153, a, 150)) w := by kernel_rfl
theorem as_isNil27 (a p : Addr) (W : World) (ha : W.cell? a = some (.pointer (some p))) :
  (ReflectliteValue.method (ReflectliteValue.valueError "reflectlite.Value.IsNil" 0) ReflectliteValue.isNil #[.agg #[.pointer (some ⟨1, 153, none⟩), .pointer (some a), .int .u64 150]]).run Tryz.prog W = .ok (.bool false) W := by
 rw [rlm]
 simp only [Sem.run_bind, as_parts27, Result.andThen]
 simp [ReflectliteValue.isNil, loadVar, isAgg, underlying, Tryz.underlying153, ha, Result.andThen]
theorem as_methodElem (h : Value) (w : World) : (Go.method 392 176 (.agg #[h]) "Elem").run Tryz.prog w = .ok (239, .agg #[h]) w := by kernel_rfl
theorem as_methodImplements (h : Value) (w : World) : (Go.method 392 176 (.agg #[h]) "Implements").run Tryz.prog w = .ok (240, .agg #[h]) w := by kernel_rfl
theorem as_methodAssignableTo (h : Value) (w : World) : (Go.method 392 176 (.agg #[h]) "AssignableTo").run Tryz.prog w = .ok (237, .agg #[h]) w := by kernel_rfl
theorem as_elem27 (w : World) : (ReflectliteType.method ReflectliteType.elem #[.agg #[.pointer (some ⟨1, 153, none⟩)]]).run Tryz.prog w = .ok (.iface 176 (.agg #[.pointer (some ⟨1, 97, none⟩)])) w := by kernel_rfl
theorem as_implements25 (w : World) : (ReflectliteType.relation "Implements" ReflectliteType.implements_ #[.agg #[.pointer (some ⟨1, 97, none⟩)], .iface 176 (.agg #[.pointer (some ⟨1, 62, none⟩)])]).run Tryz.prog w = .ok (.bool true) w := by kernel_rfl
theorem as_typeOf25 (v : Value) (w : World) : (ReflectliteType.typeOf #[.iface 97 v]).run Tryz.prog w = .ok (.iface 176 (.agg #[.pointer (some ⟨1, 97, none⟩)])) w := by kernel_rfl
theorem as_assignable25 (w : World) : (ReflectliteType.relation "AssignableTo" ReflectliteType.assignableTo #[.agg #[.pointer (some ⟨1, 97, none⟩)], .iface 176 (.agg #[.pointer (some ⟨1, 97, none⟩)])]).run Tryz.prog w = .ok (.bool true) w := by kernel_rfl
theorem as_valueOf25 (e : Addr) (w : World) : (ReflectliteValue.unpack (.iface 97 (.pointer (some e)))).run Tryz.prog w
  = .ok (.agg #[.pointer (some ⟨1, 97, none⟩), .pointer (some ⟨w.heap.size, 0, none⟩), .int .u64 150]) (w.alloc (.cells #[.pointer (some e)] 97)) := by kernel_rfl
theorem as_elemOf27 (w : World) : (Rtype.elem? 153).run Tryz.prog w = .ok (some 97) w := by kernel_rfl
theorem as_mk25 (p : Addr) (w : World) : (ReflectliteValue.mk 97 p ReflectliteValue.flagAddr).run Tryz.prog w = .ok (.agg #[.pointer (some ⟨1, 97, none⟩), .pointer (some p), .int .u64 406]) w := by kernel_rfl
theorem as_elemV27 (a p : Addr) (W : World) (ha : W.cell? a = some (.pointer (some p))) :
  (ReflectliteValue.method (ReflectliteValue.valueError "reflectlite.Value.Elem" 0) ReflectliteValue.elem #[.agg #[.pointer (some ⟨1, 153, none⟩), .pointer (some a), .int .u64 150]]).run Tryz.prog W
   = .ok (.agg #[.pointer (some ⟨1, 97, none⟩), .pointer (some p), .int .u64 406]) W := by
 rw [rlm]
 simp only [Sem.run_bind, as_parts27, Result.andThen]
 simp [ReflectliteValue.elem, loadVar, isAgg, underlying, Tryz.underlying153, ha, Result.andThen, as_elemOf27, as_mk25]
theorem rls (v x : Value) : ReflectliteValue.set #[v, x] = (do
  let (some (dst, a, fl), some (src, b, _)) := (← ReflectliteValue.parts v, ← ReflectliteValue.parts x)
   | unsupported (.noEntry "extern/(internal/reflectlite.Value).Set.zeroValue")
  if fl / ReflectliteValue.flagAddr % 2 == 0 then unsupported (.noEntry "extern/(internal/reflectlite.Value).Set.unaddressable")
  let val ← loadVar src b
  if ← Rtype.directlyAssignable dst src then storeVar dst a val
  else if ← Rtype.implements dst src then
   if (← Rtype.kind src) == 20 then
    match val with
    | .nilIface => unsupported (.noEntry "extern/reflectlite: a nil value of one interface type handed on as a value of another")
    | _ => storeVar dst a val
   else storeVar dst a (.iface src val)
  else panicString ("reflectlite.Set: value of type " ++ (← Rtype.spelt src) ++ " is not assignable to type " ++ (← Rtype.spelt dst))
  pure (.tuple #[])) := rfl
theorem as_parts25a (a : Addr) (w : World) : (ReflectliteValue.parts (.agg #[.pointer (some ⟨1, 97, none⟩), .pointer (some a), .int .u64 406])).run Tryz.prog w = .ok (some (97, a, 406)) w := by kernel_rfl
theorem as_parts25 (a : Addr) (w : World) : (ReflectliteValue.parts (.agg #[.pointer (some ⟨1, 97, none⟩), .pointer (some a), .int .u64 150])).run Tryz.prog w = .ok (some (97, a, 150)) w := by kernel_rfl
theorem as_direct25 (w : World) : (Rtype.directlyAssignable 97 97).run Tryz.prog w = .ok true w := by kernel_rfl
theorem as_set25 (ta b e : Addr) (old : Value) (W : World) (hb : W.cell? b = some (.pointer (some e))) (ht : W.cell? ta = some old) (hf : W.frozen? ta = false) :
  (ReflectliteValue.set #[.agg #[.pointer (some ⟨1, 97, none⟩), .pointer (some ta), .int .u64 406], .agg #[.pointer (some ⟨1, 97, none⟩), .pointer (some b), .int .u64 150]]).run Tryz.prog W
   = .ok (.tuple #[]) (W.setCell ta (.pointer (some e))) := by
 rw [rls]
 simp only [Sem.run_bind, as_parts25a, as_parts25, Result.andThen]
 simp [ReflectliteValue.flagAddr, loadVar, isAgg, underlying, Tryz.underlying97, hb, Result.andThen, as_direct25, storeVar, Value.cells, storeCells, Addr.add]
 rw [run_store Tryz.prog W ta _ _ (by rfl)]
 simp [ht, hf]
set_option maxHeartbeats 4000000 in
theorem as_hit (e t : Addr) (old : Value) (w : World) (hg : w.cell? ⟨0, 0, none⟩ = some (.iface 176 (.agg #[.pointer (some ⟨1, 62, none⟩)]))) (ht0 : w.cell? t = some old) (hf0 : w.frozen? t = false) :
  Calls Tryz.prog 89 #[.iface 97 (.pointer (some e)), .iface 153 (.pointer (some t))] w fun ev w' => ev = .returned (.bool true) ∧ w' = ((((w.alloc (.cells #[.pointer (some t)] 153)).alloc (.cells #[.pointer (some ⟨1, 153, none⟩), .pointer (some ⟨w.heap.size, 0, none⟩), .int .u64 150] 163)).alloc (.cells #[.pointer (some ⟨1, 153, none⟩), .pointer (some ⟨w.heap.size, 0, none⟩), .int .u64 150] 163)).alloc (.cells #[.pointer (some e)] 97)).setCell t (.pointer (some e)) := by
 have h6 := @run_callFunc_extern Tryz.prog 99 _ (fun args => ReflectliteValue.unpack (args.getD 0 (.tuple #[]))) Tryz.func99 (by kernel_rfl) (by kernel_rfl) (by kernel_rfl) (by kernel_rfl)
 have h7 := @run_callFunc_extern Tryz.prog 100 _ (ReflectliteValue.methodAny (ReflectliteValue.valueError "reflectlite.Value.Type" 0) (fun t _ _ _ => ReflectliteType.toType t)) Tryz.func100 (by kernel_rfl) (by kernel_rfl) (by kernel_rfl) (by kernel_rfl)
 have h8 := @run_callFunc_extern Tryz.prog 101 _ (ReflectliteValue.method (ReflectliteValue.valueError "reflectlite.Value.IsNil" 0) ReflectliteValue.isNil) Tryz.func101 (by kernel_rfl) (by kernel_rfl) (by kernel_rfl) (by kernel_rfl)
 have h27 := @run_callFunc_extern Tryz.prog 125 _ (ReflectliteType.abiMethod fun t => do pure (.int .u8 (← Rtype.kind t))) Tryz.func125 (by kernel_rfl) (by kernel_rfl) (by kernel_rfl) (by kernel_rfl)
 have h37 := @run_callFunc_extern Tryz.prog 239 _ (ReflectliteType.method ReflectliteType.elem) Tryz.func239 (by kernel_rfl) (by kernel_rfl) (by kernel_rfl) (by kernel_rfl)
 have h38 := @run_callFunc_extern Tryz.prog 240 _ (ReflectliteType.relation "Implements" ReflectliteType.implements_) Tryz.func240 (by kernel_rfl) (by kernel_rfl) (by kernel_rfl) (by kernel_rfl)
 have h10 := @run_callFunc_extern Tryz.prog 107 _ ReflectliteType.typeOf Tryz.func107 (by kernel_rfl) (by kernel_rfl) (by kernel_rfl) (by kernel_rfl)
 have h35 := @run_callFunc_extern Tryz.prog 237 _ (ReflectliteType.relation "AssignableTo" ReflectliteType.assignableTo) Tryz.func237 (by kernel_rfl) (by kernel_rfl) (by kernel_rfl) (by kernel_rfl)
 have h11 := @run_callFunc_extern Tryz.prog 108 _ (ReflectliteValue.method (ReflectliteValue.valueError "reflectlite.Value.Elem" 0) ReflectliteValue.elem) Tryz.func108 (by kernel_rfl) (by kernel_rfl) (by kernel_rfl) (by kernel_rfl)
 have h12 := @run_callFunc_extern Tryz.prog 109 _ ReflectliteValue.set Tryz.func109 (by kernel_rfl) (by kernel_rfl) (by kernel_rfl) (by kernel_rfl)
 have tO := as_typeOf25
 have mA := as_methodAssignableTo
 have a25 := as_assignable25
 have v25 := as_valueOf25
 have f6 := as_valueOf27
 have f7 := as_type27
 have mK := as_methodKind
 have mE := as_methodElem
 have mI := as_methodImplements
 have k27 := as_kind27
 have k25 := as_kind25
 have e27 := as_elem27
 have i25 := as_implements25
 have n8 := as_isNil27 ⟨w.heap.size, 0, none⟩ t ((w.alloc (.cells #[.pointer (some t)] 153)).alloc (.cells #[.pointer (some ⟨1, 153, none⟩), .pointer (some ⟨w.heap.size, 0, none⟩), .int .u64 150] 163)) (by simp)
 have hlt : 0 < w.heap.size := World.block_lt_of_cell? w _ hg
 have hg2 : ((w.alloc (.cells #[.pointer (some t)] 153)).alloc (.cells #[.pointer (some ⟨1, 153, none⟩), .pointer (some ⟨w.heap.size, 0, none⟩), .int .u64 150] 163)).cell? ⟨0, 0, none⟩ = some (.iface 176 (.agg #[.pointer (some ⟨1, 62, none⟩)])) := by
  rw [World.cell?_alloc_lt _ _ ⟨0, 0, none⟩ (by simp <;> omega), World.cell?_alloc_lt _ _ ⟨0, 0, none⟩ hlt]; exact hg
 have htl : t.block < w.heap.size := by
  rcases Nat.lt_or_ge t.block w.heap.size with h | h
  ·exact h
  ·simp [World.cell?, Array.getElem?_eq_none h] at ht0
 have el := as_elemV27 ⟨w.heap.size, 0, none⟩ t (((w.alloc (.cells #[.pointer (some t)] 153)).alloc (.cells #[.pointer (some ⟨1, 153, none⟩), .pointer (some ⟨w.heap.size, 0, none⟩), .int .u64 150] 163)).alloc (.cells #[.pointer (some ⟨1, 153, none⟩), .pointer (some ⟨w.heap.size, 0, none⟩), .int .u64 150] 163)) (by rw [World.cell?_alloc_lt _ _ ⟨w.heap.size, 0, none⟩ (by simp; omega)]; simp)
 have st := as_set25 t ⟨w.heap.size + 1 + 1 + 1, 0, none⟩ e old ((((w.alloc (.cells #[.pointer (some t)] 153)).alloc (.cells #[.pointer (some ⟨1, 153, none⟩), .pointer (some ⟨w.heap.size, 0, none⟩), .int .u64 150] 163)).alloc (.cells #[.pointer (some ⟨1, 153, none⟩), .pointer (some ⟨w.heap.size, 0, none⟩), .int .u64 150] 163)).alloc (.cells #[.pointer (some e)] 97))
  (by rw [World.cell?_alloc_at _ _ _ _ (by simp)]; rfl)
  (by rw [World.cell?_alloc_lt _ _ t (by simp; omega), World.cell?_alloc_lt _ _ t (by simp; omega), World.cell?_alloc_lt _ _ t (by simp; omega), World.cell?_alloc_lt _ _ t htl]; exact ht0)
  (by rw [World.frozen?_alloc_old _ _ t (by simp; omega), World.frozen?_alloc_old _ _ t (by simp; omega), World.frozen?_alloc_old _ _ t (by simp; omega), World.frozen?_alloc_old _ _ t (Nat.ne_of_lt htl)]; exact hf0)
 go_enter Tryz.func89, Tryz.ntmps89
 go_wp2
 refine wp_loop_rounds 1 ?_
 rw [rounds_succ]
 go_wp2
 go_ret
 exact ⟨rfl, rfl⟩
def GT (w : World) : Prop := w.cell? ⟨0, 0, none⟩ = some (.iface 176 (.agg #[.pointer (some ⟨1, 62, none⟩)]))
theorem GT.lt {w : World} (h : GT w) : 0 < w.heap.size := World.block_lt_of_cell? w _ h
theorem GT.go {w w' : World} (h : GT w) (hb : Below w.heap.size w w') : GT w' := (hb.cell (p := ⟨0, 0, none⟩) h.lt).trans h
theorem errno_nil (w : World) : Calls Tryz.prog 64 #[.nilIface] w fun e w' => e = .returned (.int .i64 0) ∧ Below w.heap.size w w' := by
 have hA := fun t => as_nil t (w.alloc (.cells #[.pointer none] 97))
 go_enter Tryz.func64, Tryz.ntmps64
 go_wp2_with fail
 refine (hA _).mono ?_
 rintro e w1 ⟨rfl, rfl⟩
 go_wp2_with fail
 go_ret
 exact ⟨rfl, (Below.refl _ w).alloc (Nat.le_refl _) _⟩
theorem errno_fault (v : Value) (no : Int) (w : World) (hg : GT w) (hf : FaultAt w v no) : Calls Tryz.prog 64 #[v] w fun e w' => e = .returned (.int .i64 no) ∧ Below w.heap.size w w' := by
 obtain ⟨b, rfl, hb⟩ := hf
 obtain ⟨W1, hW1, hX1, hB1, hs1⟩ := boxes1 w #[.pointer none] 97
 have hA := as_hit ⟨b, 0, none⟩ ⟨w.heap.size, 0, none⟩ (.pointer none) W1 (hg.go hB1) (cCc hX1 0) (cFz hX1 0)
 obtain ⟨W2, hW2⟩ : ∃ W2, (((W1.alloc (.cells #[.pointer (some ⟨w.heap.size, 0, none⟩)] 153)).alloc (.cells #[.pointer (some ⟨1, 153, none⟩), .pointer (some ⟨W1.heap.size, 0, none⟩), .int .u64 150] 163)).alloc (.cells #[.pointer (some ⟨1, 153, none⟩), .pointer (some ⟨W1.heap.size, 0, none⟩), .int .u64 150] 163)).alloc (.cells #[.pointer (some ⟨b, 0, none⟩)] 97) = W2 := ⟨_, rfl⟩
 have hB2 : Below W1.heap.size W1 W2 := by
  rw [← hW2]
  exact ((((Below.refl _ W1).alloc (Nat.le_refl _) _).alloc (by simp <;> omega) _).alloc (by simp <;> omega) _).alloc (by simp <;> omega) _
 rw [hW2] at hA
 have hX2 := known hB2 (Nat.le_refl _) hX1
 have hbw := (Array.getElem?_eq_some_iff.1 hb).1
 have hb2 := known (hB1.trans (hB2.mono hB1.size)) (Nat.le_refl _) hb
 have hX3 : (W2.setCell ⟨w.heap.size, 0, none⟩ (.pointer (some ⟨b, 0, none⟩))).heap[w.heap.size]? = some (.cells #[.pointer (some ⟨b, 0, none⟩)] 97 (0, 0)) := hSk hX2 _
 have hb3 := (heap_set_other (W := W2) (p := ⟨w.heap.size, 0, none⟩) (b := b) (by show w.heap.size ≠ b; omega) (.pointer (some ⟨b, 0, none⟩))).trans hb2
 have hB3 : Below w.heap.size w (W2.setCell ⟨w.heap.size, 0, none⟩ (.pointer (some ⟨b, 0, none⟩))) := (hB1.trans (hB2.mono hB1.size)).setCell (p := ⟨w.heap.size, 0, none⟩) (Nat.le_refl _) _
 obtain ⟨W3, hW3⟩ : ∃ W3, W2.setCell ⟨w.heap.size, 0, none⟩ (.pointer (some ⟨b, 0, none⟩)) = W3 := ⟨_, rfl⟩
 rw [hW3] at hA hX3 hb3 hB3
 have c0 : W3.cell? ⟨w.heap.size, 0, none⟩ = some (.pointer (some ⟨b, 0, none⟩)) := cCc hX3 0
 have d0 : W3.cell? ⟨b, 0, none⟩ = some (.int .i64 no) := cCc hb3 0
 have HB3 := Lib.hid hB3
 clear hg hb hX1 hB1 hW2 hB2 hX2 hb2 hX3 hb3 hB3 hW3
 go_enter Tryz.func64, Tryz.ntmps64
 go_wp2_with fail
 refine hA.mono ?_
 rintro e w1 ⟨rfl, rfl⟩
 go_wp2_with fail
 go_ret
 exact ⟨rfl, HB3.out⟩
theorem isFull_nil (w : World) : Calls Tryz.prog 66 #[.nilIface] w fun e w' => e = .returned (.bool false) ∧ Below w.heap.size w w' := by
 have hA := errno_nil w
 go_enter Tryz.func66, Tryz.ntmps66
 go_wp2_with fail
 refine hA.mono ?_
 rintro e w1 ⟨rfl, hb⟩
 go_wp2_with fail
 go_ret
 exact ⟨rfl, hb⟩
theorem isFull_fault (v : Value) (no : Int) (w : World) (hg : GT w) (hf : FaultAt w v no) : Calls Tryz.prog 66 #[v] w fun e w' => e = .returned (.bool (no == 60)) ∧ Below w.heap.size w w' := by
 have hA := errno_fault v no w hg hf
 go_enter Tryz.func66, Tryz.ntmps66
 go_wp2_with fail
 refine hA.mono ?_
 rintro e w1 ⟨rfl, hb⟩
 go_wp2_with fail
 go_ret
 exact ⟨rfl, hb⟩
end Go.Proofs.YtcbbenncdainfaaGreatDoor
namespace Go.Proofs.YtcbbenncdainfaaGreatDoor
open Go Go.ChangeShapes Go.WideShapes Go.ChangeAt Go.RowKit Go.Lib Go.Deep Go.Shelf
theorem own : ownKnob Tryz.prog.godebug = none := by kernel_rfl
theorem laidOut : laidOutB Tryz.prog = true := by kernel_rfl
theorem undBool : Tryz.prog.underlying 4 = some .bool := by kernel_rfl
theorem undU64 : Tryz.prog.underlying 43 = some (.int .u64) := by kernel_rfl
theorem undStr : Tryz.prog.underlying 9 = some .string := by kernel_rfl
theorem undInt : Tryz.prog.underlying 3 = some (.int .i64) := by kernel_rfl
theorem and2 {a b : Bool} (ha : a = true) (hb : b = true) : (a && b) = true := by rw [ha, hb]; rfl
theorem pfMaps : mapsRowed Tryz.pinned.checked.prog = true := by kernel_rfl
theorem pfOut : laidOutB Tryz.pinned.checked.prog = true := by kernel_rfl
theorem pfStops : (Tryz.pinned.checked.prog.stops == []) = true := by kernel_rfl
theorem pfKnobs : (Tryz.pinned.checked.prog.stopKnobs == []) = true := by kernel_rfl
theorem pfHeard : Tryz.pinned.checked.prog.stopsHeard = true := by kernel_rfl
theorem pfEnter : Tryz.pinned.checked.prog.mayEnter = true := by kernel_rfl
theorem pfKeys : (Rows.ladderMergesRow.plainKeys == Tryz.pinned.checked.prog.plainKeys) = true := by kernel_rfl
theorem pfLift : (Rows.ladderMergesRow.lifted == Tryz.pinned.checked.prog.liftsFinal) = true := by kernel_rfl
theorem pfMake : (Tryz.pinned.checked.prog.make == some Rows.ladderMergesRow.make) = true := by kernel_rfl
theorem gET : Tryz.prog.globalNamed "errors.errorType" = some 0 := by kernel_rfl
theorem rtCut : (Tryz.prog.cutTypes.find? (·.1 == "internal/reflectlite.rtype")).map (·.2) = some 176 := by kernel_rfl
theorem oneRow : ((List.range 292).filter fun t => Tryz.prog.rowNamed t [101, 114, 114, 111, 114]) = [62] := by kernel_rfl
theorem typesSize : Tryz.prog.types.size = 292 := by kernel_rfl
theorem gt_of {W : World} (h : handlesMet Tryz.prog [("errors.errorType", Rows.laid_errors_errorType)] W) : GT W := by
 obtain ⟨name, u, ty, e1, e2, e3, e4, e5⟩ := h _ (List.mem_singleton.2 rfl)
 have en : name = [101, 114, 114, 111, 114] := (Option.some.inj e1).symm
 subst en
 obtain rfl := Option.some.inj (rtCut.symm.trans e2)
 have hm : ty ∈ (List.range 292).filter fun t => Tryz.prog.rowNamed t [101, 114, 114, 111, 114] := List.mem_filter.2 ⟨List.mem_range.2 (by rw [← typesSize]; exact e3), e4⟩
 rw [oneRow] at hm
 obtain rfl := List.mem_singleton.1 hm
 have hh : typeHandle Tryz.prog 62 = .pointer (some ⟨1, 62, none⟩) := by kernel_rfl
 rw [hh] at e5
 have h9 := World.var?_cell gET e5 0
 simp at h9
 exact h9
section
variable {H : Type} {enc : TypeId × Value → H} {w : World} {base : Nat} {held : Bool}
theorem fields_of {P : Program} {t : TypeId} {fs : Array Field} {fuel : Nat} {cs : List Value} {x : DataW H × List MemPlace} (ht : P.underlying t = some (.struct fs)) (h : DataW.trod enc P w base (fun _ => true) held fuel t cs = some x) :
  cs.length = P.cellsOf t ∧ ∃ n, ∀ (i : Nat) (f : Field), fs[i]? = some f → ∃ y, DataW.trod enc P w base (fun _ => true) held n f.type ((cs.drop f.offset).take (P.cellsOf f.type)) = some y := by
 obtain ⟨xs, n, _, _, hl, hx, hf⟩ := DataW.trod_struct ht h
 refine ⟨hl, n, fun i f hi => ?_⟩
 have h1 := hf i f hi
 have h2 := (Array.getElem?_eq_some_iff.1 hi).1
 rw [List.getElem?_eq_getElem (by omega)] at h1
 exact ⟨_, h1⟩
theorem SlC.map {α β : Type} {encA : β → List Value} {k n : Nat} {a : Option Addr} {len cap : Nat} {f : α → β} {l : List α} (h : SlC (fun x => encA (f x)) k n w a len cap l) : SlC encA k n w a len cap (l.map f) :=
 ⟨⟨by rw [List.length_map]; exact h.1.1, fun j x hx => by rw [List.getElem?_map] at hx; obtain ⟨y, hy, rfl⟩ := Option.map_eq_some_iff.1 hx; exact h.1.2 j y hy⟩, h.2⟩
theorem slC_open {P : Program} {α : Type} {t e : TypeId} {k : Nat} {encA : α → List Value} {Q : α → Prop} (hk : 0 < k) (ht : P.underlying t = some (.slice e)) (hc : P.cellsOf e = k)
  (hel : ∀ n cs x, DataW.trod enc P w base (fun _ => true) held n e cs = some x → ∃ y, cs = encA y ∧ Q y) {fuel : Nat} {v : Value} {x : DataW H × List MemPlace}
  (h : DataW.trod enc P w base (fun _ => true) held fuel t [v] = some x) : ∃ a len cap l, v = .slice a len cap ∧ SlC encA k w.heap.size w a len cap l ∧ ∀ y ∈ l, Q y := by
 obtain ⟨a, len, cap, rfl⟩ : ∃ a len cap, v = .slice a len cap := by
  rcases open_slice ht h with ⟨h0, _⟩ | ⟨a', len', cap', m, n, D, Pl, hcs, -⟩
  ·simp only [List.cons.injEq, and_true] at h0; exact ⟨_, _, _, h0⟩
  ·simp only [List.cons.injEq, and_true] at hcs; exact ⟨_, _, _, hcs⟩
 obtain ⟨l, hl⟩ := slC_of_trod (encA := fun y : { y // Q y } => encA y.1) hk ht hc (fun n cs x hx => by obtain ⟨y, h1, h2⟩ := hel n cs x hx; exact ⟨⟨y, h2⟩, h1⟩) h
 refine ⟨a, len, cap, l.map (·.1), rfl, hl.map, fun y hy => ?_⟩
 obtain ⟨z, _, rfl⟩ := List.mem_map.1 hy
 exact z.2
theorem wf_u64 {n : Int} (w0 : (Lit.int .u64 n).wf = true) : U64 n := by
 simp only [Lit.wf, IntKind.min, IntKind.max, IntKind.signed, IntKind.bits, Bool.and_eq_true] at w0
 exact ⟨by simpa using w0.1, by have := w0.2; simp at this; omega⟩
theorem wf_i64 {n : Int} (w0 : (Lit.int .i64 n).wf = true) : I64 n := by
 simp only [Lit.wf, IntKind.min, IntKind.max, IntKind.signed, IntKind.bits, Bool.and_eq_true] at w0
 exact ⟨by have := w0.1; simp at this; omega, by have := w0.2; simp at this; omega⟩
theorem u64_elem (n : Nat) (cs : List Value) (x : DataW H × List MemPlace) (h : DataW.trod enc Tryz.prog w base (fun _ => true) held n 43 cs = some x) : ∃ y : Int, cs = encU y ∧ U64 y := by
 obtain ⟨s0, c0, -, w0⟩ := DataW.trod_int undU64 h
 exact ⟨s0, c0, wf_u64 w0⟩
theorem bin_elem (n : Nat) (cs : List Value) (x : DataW H × List MemPlace) (h : DataW.trod enc Tryz.prog w base (fun _ => true) held n 123 cs = some x) : ∃ y : Int × Int, cs = encB y ∧ (I64 y.1 ∧ U64 y.2) := by
 obtain ⟨hl, m, hf⟩ := struct_cells Tryz.underlying123 (by kernel_rfl) (by kernel_rfl) h
 obtain ⟨v0, y0, e0, h0⟩ := hf 0 _ rfl
 obtain ⟨v1, y1, e1, h1⟩ := hf 1 _ rfl
 obtain ⟨s0, c0, -, w0⟩ := DataW.trod_int undInt h0
 obtain ⟨s1, c1, -, w1⟩ := DataW.trod_int undU64 h1
 match cs, hl with
 | [a, b], _ =>
  simp only [List.getElem?_cons_zero, List.getElem?_cons_succ, Option.some.injEq, List.cons.injEq, and_true] at e0 e1 c0 c1
  exact ⟨(s0, s1), by rw [e0, e1, c0, c1]; rfl, wf_i64 w0, wf_u64 w1⟩
end
def eT : String × DataW Unit := ("errors.errorType", Rows.laid_errors_errorType)
def laidL : List (String × DataW Unit) := [eT]
theorem metL {W : World} (h : laidMetH Tryz.prog laidL W) : handlesMet Tryz.prog [eT] W := by
 have h' : laidMet Tryz.prog [] W ∧ handlesMet Tryz.prog [eT] W := h
 exact h'.2
def typeCell : Obj → Obj
 | .cells _ t frozen => .cells #[.iface 176 (.agg #[.pointer (some ⟨1, 62, none⟩)])] t frozen
 | o => o
noncomputable def laidWorldL (os : Os) : World :=
 let w0 := World.holding Tryz.prog os ⟨#[], #[], []⟩
 { w0 with heap := w0.heap.modify 0 typeCell }
theorem laid_metL (os : Os) (args : Array Value) : laidMetH Tryz.prog laidL ((laidWorldL os).forCall (fun _ _ => 0) ⟨#[], args, []⟩).memory :=
 laidMetH_of_parts (laidMet_nil _ _) (by kernel_rfl)
end Go.Proofs.YtcbbenncdainfaaGreatDoor

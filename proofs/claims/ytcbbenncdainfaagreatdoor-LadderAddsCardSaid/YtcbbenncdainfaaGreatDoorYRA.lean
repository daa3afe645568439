/- Package cms: New, begin, Add, Lower. Package cms: Add, Lower. Package cms: Lower. Package exact: Add : any list. The references of layers 6 to 8: Right, Numbers, Same. -/
import Derived.Test.YtcbbenncdainfaaGreatDoorYGC
namespace Go.Proofs.YtcbbenncdainfaaGreatDoor
open Go Go.RowKit Go.Shelf
theorem casNil (w : World) : (Instr.typeAssert .nilIface 62 158 true).run Tryz.prog w = .ok (.tuple #[.agg #[.string ⟨#[]⟩], .bool false]) w := by kernel_rfl
theorem cerrno_nil (w : World) : Calls Tryz.prog 80 #[.nilIface] w fun e w' => e = .returned (.int .i64 0) ∧ Below w.heap.size w w' := by
 have h := casNil w
 go_enter Tryz.func80, Tryz.ntmps80
 go_wp2
 go_ret
 exact ⟨rfl, (Below.refl _ w).alloc (Nat.le_refl _) _⟩
theorem flat_map (l : List Int) : l.flatMap encU = l.map (Value.int .u64) := by
 induction l with
 | nil => rfl
 | cons x l ih => rw [List.flatMap_cons, ih]; rfl
theorem make_nums (w : World) (len : Nat) (h : len ≤ 1000) : ∃ w1, (Instr.makeSlice 22 (.int .i64 (len : Int)) (.int .i64 (len : Int))).run Tryz.prog w = .ok (.slice (some ⟨w.heap.size, 0, none⟩) len len) w1 ∧ NumsAt w1 w.heap.size (List.replicate len 0) ∧ Below w.heap.size w w1 ∧ w1.heap.size = w.heap.size + 1 := by
 obtain ⟨i, hi, hz, hsize, hby⟩ := info_parts info_u64
 have hr := run_makeSlice (P := Tryz.prog) (w := w) 22 43 i _ und_u64 hi hz .i64 .i64 (len : Int) (len : Int) (by omega) (Int.le_refl _) (by rw [hsize]; omega) (by rw [hby]; omega) (by omega)
 rw [Int.toNat_natCast] at hr
 refine ⟨_, hr, ?_, (Below.refl _ w).alloc (Nat.le_refl _) _, by simp⟩
 have e : madeCells (Value.int .u64 0).cells (len * i.size) = ((List.replicate len (0 : Int)).map (Value.int .u64)).toArray := by
  rw [hsize, Nat.mul_one]
  apply Array.ext
  ·rw [size_madeCells]; simp
  ·intro j h1 h2
   simp [madeCells, Value.cells, Nat.mod_one]
 rw [e]
 exact World.alloc_heap_new _ _
set_option maxRecDepth 100000 in
set_option maxHeartbeats 1000000 in
theorem cblank_any (c : Nat) (w : World) (hs : isShapeB 2 c = true) (h2 : c ≤ 32) :
  Calls Tryz.prog 79 #[.int .i64 2, .int .i64 c] w fun e w' => ∃ g, e = .returned (.tuple #[.agg #[.int .i64 2, .int .i64 c, .slice (some ⟨g, 0, none⟩) (2 * c) (2 * c)], .nilIface]) ∧ NumsAt w' g (List.replicate (2 * c) 0) ∧ w.heap.size ≤ g ∧ Below w.heap.size w w' := by
 have hib := fun w => isShape_any 2 c w
 rw [hs] at hib
 obtain ⟨W0, hW0, hX0, hB0, hs0⟩ := boxes1 w #[.int .i64 0, .int .i64 0, .slice none 0 0] 135
 obtain ⟨W1, hmk, hr1, hB1, hs1⟩ := make_nums W0 (2 * c) (by omega)
 have hX1 := (hB1.block _ (by omega)).trans hX0
 rw [hs0] at hmk hr1
 rw [show (((2 * c : Nat)) : Int) = 2 * (c : Int) by omega] at hmk
 obtain ⟨d0, d1, d2⟩ := cl3 hX1
 obtain ⟨f0, f1, f2⟩ := cz3 hX1
 have HR := Lib.hid hr1
 have hB := hB0.trans (hB1.mono hB0.size)
 have HX := Lib.hid hX1
 clear hX0 hX1 hr1 hB0 hB1 hs1 hs
 obtain ⟨W4, hW4⟩ : ∃ W4, ((W1.setCell ⟨w.heap.size, 0, none⟩ (.int .i64 2)).setCell ⟨w.heap.size, 1, none⟩ (.int .i64 c)).setCell ⟨w.heap.size, 2, none⟩ (.slice (some ⟨w.heap.size + 1, 0, none⟩) (2 * c) (2 * c)) = W4 := ⟨_, rfl⟩
 have hX4 : W4.heap[w.heap.size]? = some (.cells #[.int .i64 2, .int .i64 c, .slice (some ⟨w.heap.size + 1, 0, none⟩) (2 * c) (2 * c)] 135 (0, 0)) := by rw [← hW4]; exact hSk (hSk (hSk HX.out _) _) _
 have hB4 : Below w.heap.size w W4 := by rw [← hW4]; exact ((hB.setCell (p := ⟨w.heap.size, 0, none⟩) (Nat.le_refl _) _).setCell (p := ⟨w.heap.size, 1, none⟩) (Nat.le_refl _) _).setCell (p := ⟨w.heap.size, 2, none⟩) (Nat.le_refl _) _
 have hr4 : NumsAt W4 (w.heap.size + 1) (List.replicate (2 * c) 0) := by
  rw [← hW4]
  exact ((HR.out.block (heap_set_other (p := ⟨w.heap.size, 0, none⟩) (by show w.heap.size ≠ _; omega) _)).block (heap_set_other (p := ⟨w.heap.size, 1, none⟩) (by show w.heap.size ≠ _; omega) _)).block (heap_set_other (p := ⟨w.heap.size, 2, none⟩) (by show w.heap.size ≠ _; omega) _)
 go_enter Tryz.func79, Tryz.ntmps79
 go_wp2_with (first | (go_at_call 94; refine (hib _).mono ?_; rintro e w' ⟨rfl, rfl⟩) | fail)
 obtain ⟨k0, k1, k2⟩ := cl3 hX4
 exact bodyPost_ret (v := .tuple #[.agg #[.int .i64 2, .int .i64 c, .slice (some ⟨w.heap.size + 1, 0, none⟩) (2 * c) (2 * c)], .nilIface]) (by simp [results, Tryz.f79, go_sem, k0, k1, k2]) rfl ⟨_, rfl, hr4, Nat.le_succ _, hB4⟩
set_option maxRecDepth 100000 in
set_option maxHeartbeats 1000000 in
theorem cNew_any (w : World) :
  Calls Tryz.prog 52 #[.int .i64 2, .int .i64 32] w fun e w' => ∃ g, e = .returned (.tuple #[.agg #[.int .i64 2, .int .i64 32, .slice (some ⟨g, 0, none⟩) 64 64], .int .i64 0]) ∧ NumsAt w' g (List.replicate 64 0) ∧ w.heap.size ≤ g ∧ Below w.heap.size w w' := by
 have hB := fun w => cblank_any 32 w (by decide) (by omega)
 obtain ⟨W0, hW0, hX0, hB0, hs0⟩ := boxes1 w #[.int .i64 0, .int .i64 0, .slice none 0 0] 28
 have HX0 := Lib.hid hX0
 clear hX0
 go_enter Tryz.func52, Tryz.ntmps52
 go_wp2_with fail
 refine (hB _).mono ?_
 rintro e w1 ⟨g, rfl, hr1, hg1, hb1⟩
 obtain ⟨W2, hW2, hX2, hB2, hs2⟩ := boxes1 w1 #[.int .i64 2, .int .i64 32, .slice (some ⟨g, 0, none⟩) 64 64] 135
 have hgl := hr1.lt
 have hB12 : Below w.heap.size w W2.drew := ((hB0.trans (hb1.mono hB0.size)).trans (hB2.mono (by have := hb1.size; omega))).drew
 have hXR : W2.drew.heap[w.heap.size]? = some (.cells #[.int .i64 0, .int .i64 0, .slice none 0 0] 28 (0, 0)) := known (hb1.trans (hB2.drew.mono hb1.size)) (Nat.le_refl _) HX0.out
 have hXB : W2.drew.heap[w1.heap.size]? = some (.cells #[.int .i64 2, .int .i64 32, .slice (some ⟨g, 0, none⟩) 64 64] 135 (0, 0)) := hX2
 have HXB := Lib.hid hXB
 have HXR := Lib.hid hXR
 obtain ⟨c0, c1, c2⟩ := cl3 hXB
 obtain ⟨o0, o1, o2⟩ := cl3 hXR
 have hr2 : NumsAt W2.drew g (List.replicate 64 0) := (hr1.block (hB2.block _ hgl)).block rfl
 have hgw : w.heap.size ≠ g := by omega
 have fin : ∀ w5, Below W2.drew.heap.size W2.drew w5 → ∃ g', Ending.returned (.tuple #[.agg #[.int .i64 2, .int .i64 32, .slice (some ⟨g, 0, none⟩) 64 64], .int .i64 0]) = .returned (.tuple #[.agg #[.int .i64 2, .int .i64 32, .slice (some ⟨g', 0, none⟩) 64 64], .int .i64 0]) ∧ NumsAt (((w5.setCell ⟨w.heap.size, 0, none⟩ (.int .i64 2)).setCell ⟨w.heap.size, 1, none⟩ (.int .i64 32)).setCell ⟨w.heap.size, 2, none⟩ (.slice (some ⟨g, 0, none⟩) 64 64)) g' (List.replicate 64 0) ∧ w.heap.size ≤ g' ∧ Below w.heap.size w (((w5.setCell ⟨w.heap.size, 0, none⟩ (.int .i64 2)).setCell ⟨w.heap.size, 1, none⟩ (.int .i64 32)).setCell ⟨w.heap.size, 2, none⟩ (.slice (some ⟨g, 0, none⟩) 64 64)) := fun w5 hb5 =>
  ⟨g, rfl, (((hr2.block (hb5.block _ hr2.lt)).block (heap_set_other (p := ⟨w.heap.size, 0, none⟩) hgw _)).block (heap_set_other (p := ⟨w.heap.size, 1, none⟩) hgw _)).block (heap_set_other (p := ⟨w.heap.size, 2, none⟩) hgw _), by omega,
   (((hB12.trans (hb5.mono hB12.size)).setCell (p := ⟨w.heap.size, 0, none⟩) (Nat.le_refl _) _).setCell (p := ⟨w.heap.size, 1, none⟩) (Nat.le_refl _) _).setCell (p := ⟨w.heap.size, 2, none⟩) (Nat.le_refl _) _⟩
 clear hX2 hB2 hr1 hXB hXR hr2 hb1 hB12
 go_wp2_with fail
 refine wp_region_any (by kernel_rfl) ?_
 change wpAny _ _ _ _ _ _ _ (World.drew _)
 refine tk 0 (v := ?_) rfl ?_ ?_
 rotate_left
 ·intro w; go_simp; with_reducible rfl
 refine tk 2 (v := ?_) rfl ?_ ?_
 rotate_left
 ·intro w; go_simp; with_reducible rfl
 refine wpAny_ready (rs := [1, 3]) (by kernel_rfl) (by simp) ?_
 refine AllReady.cons rfl (fun K hK => ?_) ?_
 ·go_simp
  refine hK _ _ ?_
  clear hK K
  refine wpAny_ready (rs := [3]) (by kernel_rfl) (by simp) ?_
  refine AllReady.cons rfl (fun K hK => ?_) ?_
  ·go_simp
   refine (cerrno_nil _).mono ?_
   rintro e w5 ⟨rfl, hb5⟩
   have hX5 := known hb5 (Nat.le_refl _) HXB.out
   have hX05 := known hb5 (Nat.le_refl _) HXR.out
   obtain ⟨u0, u1, u2⟩ := cl3 hX5
   obtain ⟨v0, v1, v2⟩ := cl3 hX05
   obtain ⟨f0, f1, f2⟩ := cz3 hX05
   refine hK _ _ ?_
   clear hK K hX5
   refine wpAny_ready (rs := [4]) (by kernel_rfl) (by simp) ?_
   refine AllReady.cons rfl (fun K hK => ?_) ?_
   ·go_simp
    refine hK _ _ ?_
    clear hK K
    refine tk 5 (v := ?_) rfl ?_ ?_
    rotate_left
    ·intro w; go_simp; with_reducible rfl
    refine wpAny_done (by kernel_rfl) ?_ _
    go_wp2_with fail
    refine bodyPost_ret (v := .tuple #[.agg #[.int .i64 2, .int .i64 32, .slice (some ⟨g, 0, none⟩) 64 64], .int .i64 0]) ?_ rfl (fin w5 hb5)
    have hX6 := set_cells3 (u := .int .i64 2) (v := .int .i64 32) (q := .slice (some ⟨g, 0, none⟩) 64 64) hX05
    have k0 := cCc hX6 0
    have k1 := cCc hX6 1
    have k2 := cCc hX6 2
    simp at k0 k1 k2
    simp [results, Tryz.f52, go_sem, k0, k1, k2]
   exact AllReady.nil
  exact AllReady.nil
 refine AllReady.cons rfl (fun K hK => ?_) ?_
 ·go_simp
  refine (cerrno_nil _).mono ?_
  rintro e w5 ⟨rfl, hb5⟩
  have hX5 := known hb5 (Nat.le_refl _) HXB.out
  have hX05 := known hb5 (Nat.le_refl _) HXR.out
  obtain ⟨u0, u1, u2⟩ := cl3 hX5
  obtain ⟨v0, v1, v2⟩ := cl3 hX05
  obtain ⟨f0, f1, f2⟩ := cz3 hX05
  refine hK _ _ ?_
  clear hK K hX5
  refine wpAny_ready (rs := [1]) (by kernel_rfl) (by simp) ?_
  refine AllReady.cons rfl (fun K hK => ?_) ?_
  ·go_simp
   refine hK _ _ ?_
   clear hK K
   refine wpAny_ready (rs := [4]) (by kernel_rfl) (by simp) ?_
   refine AllReady.cons rfl (fun K hK => ?_) ?_
   ·go_simp
    refine hK _ _ ?_
    clear hK K
    refine tk 5 (v := ?_) rfl ?_ ?_
    rotate_left
    ·intro w; go_simp; with_reducible rfl
    refine wpAny_done (by kernel_rfl) ?_ _
    go_wp2_with fail
    refine bodyPost_ret (v := .tuple #[.agg #[.int .i64 2, .int .i64 32, .slice (some ⟨g, 0, none⟩) 64 64], .int .i64 0]) ?_ rfl (fin w5 hb5)
    have hX6 := set_cells3 (u := .int .i64 2) (v := .int .i64 32) (q := .slice (some ⟨g, 0, none⟩) 64 64) hX05
    have k0 := cCc hX6 0
    have k1 := cCc hX6 1
    have k2 := cCc hX6 2
    simp at k0 k1 k2
    simp [results, Tryz.f52, go_sem, k0, k1, k2]
   exact AllReady.nil
  exact AllReady.nil
 exact AllReady.nil
set_option maxRecDepth 100000 in
set_option maxHeartbeats 1000000 in
theorem cbegin_any (c : Nat) (l : List Int) (a : Option Addr) (len cap : Nat) (w : World) (hs : isShapeB 2 c = true) (h2 : c ≤ 32) (hL : SlE encU 1 w.heap.size w a len l) (hl : l.length = 2 * c) (hn : a = none → len = 0) :
  Calls Tryz.prog 179 #[.agg #[.int .i64 2, .int .i64 c, .slice a len cap]] w fun e w' => ∃ g, e = .returned (.tuple #[.agg #[.int .i64 2, .int .i64 c, .slice (some ⟨g, 0, none⟩) (2 * c) (2 * c)], .nilIface]) ∧ NumsAt w' g l ∧ w.heap.size ≤ g ∧ Below w.heap.size w w' := by
 have hR : Hid (∀ w1, Calls Tryz.prog 97 #[.agg #[.int .i64 2, .int .i64 c, .slice a len cap]] w1 fun e w' => e = .returned (.bool true) ∧ Below w1.heap.size w1 w') := fun w1 => (cms_Right_any 2 c l a len cap w1 hL.1).mono fun e w' h => ⟨by rw [h.1]; simp [cmRight, hs, hl], h.2⟩
 have hB := fun w => cblank_any c w hs h2
 obtain ⟨W0, hW0, hXp, hX0, hB0, hs0⟩ := boxes2 w #[.int .i64 2, .int .i64 c, .slice a len cap] 28 #[.int .i64 0, .int .i64 0, .slice none 0 0] 135
 have HX0 := Lib.hid hX0
 have HXP := Lib.hid hXp
 obtain ⟨z0, z1, z2⟩ := cl3 hXp
 have HL := Lib.hid hL
 have HLN := Lib.hid hl
 have HNN := Lib.hid hn
 clear hX0 hXp hL hl hs hn
 go_enter Tryz.func179, Tryz.ntmps179
 go_wp2_with fail
 refine (hR.out _).mono ?_
 rintro e w1 ⟨rfl, hb1⟩
 have hXp1 := known hb1 (Nat.le_refl _) HXP.out
 obtain ⟨y0, y1, y2⟩ := cl3 hXp1
 go_wp2_with fail
 refine (hB _).mono ?_
 rintro e w2 ⟨g, rfl, hr2, hg2, hb2⟩
 obtain ⟨W2, hW2, hX2, hB2, hs2⟩ := boxes1 w2 #[.int .i64 2, .int .i64 c, .slice (some ⟨g, 0, none⟩) (2 * c) (2 * c)] 135
 have hgl := hr2.lt
 have hB02 : Below w.heap.size w w2 := (hB0.trans (hb1.mono hB0.size)).trans (hb2.mono (by have := hb1.size; omega))
 have hB12 : Below w.heap.size w W2 := hB02.trans (hB2.mono hB02.size)
 have hXp2 := known (hb2.trans (hB2.mono hb2.size)) (Nat.le_refl _) hXp1
 have hXr2 := known (hb2.trans (hB2.mono hb2.size)) (Nat.le_refl _) (known hb1 (Nat.le_refl _) HX0.out)
 have hr3 : NumsAt W2 g (List.replicate (2 * c) 0) := hr2.block (hB2.block _ hgl)
 have hlen : len = 2 * c := by rw [HL.out.1, HLN.out]
 subst hlen
 obtain ⟨W3, hcp, hX3, hB3, hs3, hk3⟩ := copy_u64 (cap := cap) hr3 (by simp) (HL.out.below hB12) HNN.out
 rw [flat_map] at hX3
 have hXw := (hk3 w2.heap.size (by omega)).trans hX2
 have hXr3 := (hk3 (w.heap.size + 1) (by have := hb1.size; omega)).trans hXr2
 obtain ⟨q0, q1, q2⟩ := cl3 hXp2
 obtain ⟨s0, s1, s2⟩ := cl3 hX2
 obtain ⟨t0, t1, t2⟩ := cl3 hXw
 obtain ⟨o0, o1, o2⟩ := cl3 hXr3
 obtain ⟨f0, f1, f2⟩ := cz3 hXr3
 have hB13 : Below w.heap.size w W3 := hB12.trans (hB3.mono (by have := hb1.size; omega))
 have hX6 := set_cells3 (u := .int .i64 2) (v := .int .i64 c) (q := .slice (some ⟨g, 0, none⟩) (2 * c) (2 * c)) hXr3
 have hgw : w.heap.size + 1 ≠ g := by have := hb1.size; omega
 have hN3 : NumsAt (((W3.setCell ⟨w.heap.size + 1, 0, none⟩ (.int .i64 2)).setCell ⟨w.heap.size + 1, 1, none⟩ (.int .i64 c)).setCell ⟨w.heap.size + 1, 2, none⟩ (.slice (some ⟨g, 0, none⟩) (2 * c) (2 * c))) g l :=
  ((NumsAt.block (W := W3) hX3 (heap_set_other (p := ⟨w.heap.size + 1, 0, none⟩) hgw _)).block (heap_set_other (p := ⟨w.heap.size + 1, 1, none⟩) hgw _)).block (heap_set_other (p := ⟨w.heap.size + 1, 2, none⟩) hgw _)
 have hB6 := ((hB13.setCell (p := ⟨w.heap.size + 1, 0, none⟩) (Nat.le_succ _) (.int .i64 2)).setCell (p := ⟨w.heap.size + 1, 1, none⟩) (Nat.le_succ _) (.int .i64 c)).setCell (p := ⟨w.heap.size + 1, 2, none⟩) (Nat.le_succ _) (.slice (some ⟨g, 0, none⟩) (2 * c) (2 * c))
 have hg9 : w.heap.size ≤ g := by have := hb1.size; omega
 clear hX2 hX3 hXp2 hXr2 hr2 hr3 hB2 hb1 hb2 hB3 hB12 hB02 hB13 hk3 hXw hXr3
 go_wp2_with fail
 generalize ((W3.setCell ⟨w.heap.size + 1, 0, none⟩ (.int .i64 2)).setCell ⟨w.heap.size + 1, 1, none⟩ (.int .i64 c)).setCell ⟨w.heap.size + 1, 2, none⟩ (.slice (some ⟨g, 0, none⟩) (2 * c) (2 * c)) = V at hX6 hN3 hB6 ⊢
 obtain ⟨k0, k1, k2⟩ := cl3 hX6
 exact bodyPost_ret (v := .tuple #[.agg #[.int .i64 2, .int .i64 c, .slice (some ⟨g, 0, none⟩) (2 * c) (2 * c)], .nilIface]) (by simp [results, Tryz.f179, go_sem, k0, k1, k2]) rfl ⟨g, rfl, hN3, hg9, hB6⟩
end Go.Proofs.YtcbbenncdainfaaGreatDoor
namespace Go.Proofs.YtcbbenncdainfaaGreatDoor
open Go Go.RowKit Go.Shelf
set_option maxRecDepth 100000 in
set_option maxHeartbeats 1000000 in
theorem cAdd_any (c h : Nat) (n : Int) (l : List Int) (a : Option Addr) (len cap : Nat) (w : World) (hs : isShapeB 2 c = true) (hc : 0 < c) (h2 : c ≤ 32) (hh : h < 2 ^ 64) (hu : U64 n) (hL : SlE encU 1 w.heap.size w a len l) (hl : l.length = 2 * c) (hlu : U64s l) (hn : a = none → len = 0) :
  Calls Tryz.prog 175 #[.agg #[.int .i64 2, .int .i64 c, .slice a len cap], .int .u64 h, .int .u64 n] w fun e w' => ∃ g, e = .returned (.tuple #[.agg #[.int .i64 2, .int .i64 c, .slice (some ⟨g, 0, none⟩) (2 * c) (2 * c)], .int .i64 0]) ∧ NumsAt w' g (cmAdd c l h n) ∧ w.heap.size ≤ g ∧ Below w.heap.size w w' := by
 have hB : Hid (∀ w1, Below w.heap.size w w1 → Calls Tryz.prog 179 #[.agg #[.int .i64 2, .int .i64 c, .slice a len cap]] w1 fun e w' => ∃ g, e = .returned (.tuple #[.agg #[.int .i64 2, .int .i64 c, .slice (some ⟨g, 0, none⟩) (2 * c) (2 * c)], .nilIface]) ∧ NumsAt w' g l ∧ w1.heap.size ≤ g ∧ Below w1.heap.size w1 w') := fun w1 hb => cbegin_any c l a len cap w1 hs h2 ((hL.below hb).mono hb.size) hl hn
 have HCC : Hid (0 < c ∧ c ≤ 32 ∧ h < 2 ^ 64 ∧ U64 n ∧ l.length = 2 * c ∧ U64s l) := ⟨hc, h2, hh, hu, hl, hlu⟩
 clear hL hl hlu hs hn hu
 obtain ⟨W0, hW0, hXp, hXn, hXr, hB0, hs0⟩ := boxes3 w #[.int .i64 2, .int .i64 c, .slice a len cap] 28 #[.int .u64 n] 43 #[.int .i64 0, .int .i64 0, .slice none 0 0] 28
 have HXN := Lib.hid hXn
 have HXR := Lib.hid hXr
 obtain ⟨x0, x1, x2⟩ := cl3 hXp
 clear hXp hXn hXr
 go_enter Tryz.func175, Tryz.ntmps175
 go_wp2_with fail
 refine (hB.out _ hB0).mono ?_
 rintro e w1 ⟨g, rfl, hr1, hg1, hb1⟩
 obtain ⟨W2, hW2, hX2, hB2, hs2⟩ := boxes1 w1 #[.int .i64 2, .int .i64 c, .slice (some ⟨g, 0, none⟩) (2 * c) (2 * c)] 135
 obtain ⟨W5, hW5, hY5, hZ5, hB5, hs5⟩ := boxes2 W2.drew #[.int .i64 2, .int .i64 c, .slice (some ⟨g, 0, none⟩) (2 * c) (2 * c)] 135 #[.int .u64 h] 43
 have hzd : W2.drew.heap.size = w1.heap.size + 1 := hs2
 rw [hzd] at hY5 hZ5 hB5 hs5
 have hgl := hr1.lt
 have hb1s := hb1.size
 have hB15 : Below w1.heap.size w1 W5 := hB2.drew.trans (hB5.mono (by omega))
 have hr5 : NumsAt W5 g l := hr1.block (hB15.block _ hgl)
 have hX5 : W5.heap[w1.heap.size]? = some (.cells #[.int .i64 2, .int .i64 c, .slice (some ⟨g, 0, none⟩) (2 * c) (2 * c)] 135 (0, 0)) := (hB5.block _ (by omega)).trans (show W2.drew.heap[w1.heap.size]? = _ from hX2)
 have hN5 : W5.heap[w.heap.size + 1]? = some (.cells #[.int .u64 n] 43 (0, 0)) := known (hb1.trans (hB15.mono hb1s)) (Nat.le_refl _) HXN.out
 have hR5 : W5.heap[w.heap.size + 2]? = some (.cells #[.int .i64 0, .int .i64 0, .slice none 0 0] 28 (0, 0)) := known (hb1.trans (hB15.mono hb1s)) (Nat.le_refl _) HXR.out
 have hCH := change_add (fun _ x => satI x n) c h (w.heap.size + 1) (w1.heap.size + 1) (w1.heap.size + 2) g (2 * c) (2 * c) 2 (.slice (some ⟨g, 0, none⟩) (2 * c) (2 * c)) l W5 HCC.out.1 HCC.out.2.1 HCC.out.2.2.1 hY5 hZ5 hr5 HCC.out.2.2.2.2.1 HCC.out.2.2.2.2.2 (by intro k hk; simp at hk; omega)
  (fun W p x hG hx => addF_any (w.heap.size + 1) p.1 x n W (cCc ((hG.block _ (Array.getElem?_eq_some_iff.1 hN5).1 (fun e => by cases e; omega)).trans hN5) 0) hx HCC.out.2.2.2.1) (fun p x hx => satI_u64 x n hx HCC.out.2.2.2.1) (fun p => p.2)
 have hB05 : Below w.heap.size w W5 := (hB0.trans (hb1.mono (by omega))).trans (hB15.mono (by omega))
 have HW5 := Lib.hid hW5
 have HX5 := Lib.hid hX5
 have HR5 := Lib.hid hR5
 have HB05 := Lib.hid hB05
 have hXd : W2.drew.heap[w1.heap.size]? = some (.cells #[.int .i64 2, .int .i64 c, .slice (some ⟨g, 0, none⟩) (2 * c) (2 * c)] 135 (0, 0)) := hX2
 obtain ⟨c0, c1, c2⟩ := cl3 hXd
 obtain ⟨y0, y1, y2⟩ := cl3 hX5
 have hgw : w.heap.size + 2 < g := by omega
 clear hW5 hX2 hXd hX5 hR5 hN5 hY5 hZ5 hB2 hB5 hB15 hB05 hr1 hr5 hb1
 have fin : ∀ w6, NumsAt w6 g (cmAdd c l h n) → W5.grownBy w6 (some g) → ∃ V, ((w6.setCell ⟨w.heap.size + 1 + 1, 0, none⟩ (.int .i64 2)).setCell ⟨w.heap.size + 1 + 1, 1, none⟩ (.int .i64 c)).setCell ⟨w.heap.size + 1 + 1, 2, none⟩ (.slice (some ⟨g, 0, none⟩) (2 * c) (2 * c)) = V ∧ V.heap[w.heap.size + 1 + 1]? = some (.cells #[.int .i64 2, .int .i64 c, .slice (some ⟨g, 0, none⟩) (2 * c) (2 * c)] 28 (0, 0)) ∧ NumsAt V g (cmAdd c l h n) ∧ Below w.heap.size w V := fun w6 hN6 hG6 => by
  have hR6 := (hG6.block _ (Array.getElem?_eq_some_iff.1 HR5.out).1 (fun e => by cases e; omega)).trans HR5.out
  have hne : w.heap.size + 1 + 1 ≠ g := by omega
  refine ⟨_, rfl, set_cells3 hR6, ((hN6.block (heap_set_other (p := ⟨w.heap.size + 1 + 1, 0, none⟩) hne _)).block (heap_set_other (p := ⟨w.heap.size + 1 + 1, 1, none⟩) hne _)).block (heap_set_other (p := ⟨w.heap.size + 1 + 1, 2, none⟩) hne _), ?_⟩
  exact (((HB05.out.grown hG6 HB05.out.size (fun k e => by cases e; omega)).setCell (p := ⟨w.heap.size + 1 + 1, 0, none⟩) (by show _ ≤ _ + 1 + 1; omega) _).setCell (p := ⟨w.heap.size + 1 + 1, 1, none⟩) (by show _ ≤ _ + 1 + 1; omega) _).setCell (p := ⟨w.heap.size + 1 + 1, 2, none⟩) (by show _ ≤ _ + 1 + 1; omega) _
 go_wp2_with fail
 refine wp_region_any (by kernel_rfl) ?_
 change wpAny _ _ _ _ _ _ _ (World.drew _)
 refine tk 2 (v := ?_) rfl ?_ ?_
 rotate_left
 ·intro w; go_simp; with_reducible rfl
 refine tk 4 (v := ?_) rfl ?_ ?_
 rotate_left
 ·intro w; go_simp; with_reducible rfl
 refine wpAny_ready (rs := [0, 1]) (by kernel_rfl) (by simp) ?_
 refine AllReady.cons rfl (fun K hK => ?_) ?_
 ·go_simp
  refine hK _ _ ?_
  clear hK K
  refine wpAny_ready (rs := [1]) (by kernel_rfl) (by simp) ?_
  refine AllReady.cons rfl (fun K hK => ?_) ?_
  ·go_simp
   refine hK _ _ ?_
   clear hK K
   refine wpAny_ready (rs := [3]) (by kernel_rfl) (by simp) ?_
   refine AllReady.cons rfl (fun K hK => ?_) ?_
   ·go_simp
    refine (told_any 2 c (.slice (some ⟨g, 0, none⟩) (2 * c) (2 * c)) h _).mono ?_
    rintro e w5 ⟨rfl, rfl⟩
    rw [HW5.out]
    refine hK _ _ ?_
    clear hK K
    refine wpAny_ready (rs := [5]) (by kernel_rfl) (by simp) ?_
    refine AllReady.cons rfl (fun K hK => ?_) ?_
    ·go_simp
     refine hCH.mono ?_
     rintro e w6 ⟨rfl, hN6, hG6⟩
     refine hK _ _ ?_
     clear hK K
     refine wpAny_done (by kernel_rfl) ?_ _
     have hX6 := (hG6.block _ (Array.getElem?_eq_some_iff.1 HX5.out).1 (fun e => by cases e; omega)).trans HX5.out
     have hR6 : w6.heap[w.heap.size + 1 + 1]? = _ := (hG6.block _ (Array.getElem?_eq_some_iff.1 HR5.out).1 (fun e => by cases e; omega)).trans HR5.out
     obtain ⟨z0, z1, z2⟩ := cl3 hX6
     obtain ⟨v0, v1, v2⟩ := cl3 hR6
     obtain ⟨f0, f1, f2⟩ := cz3 hR6
     obtain ⟨V, hV, hXV, hNV, hBV⟩ := fin w6 hN6 hG6
     clear fin hX6 hR6 hN6 hG6 hCH
     go_wp2_with fail
     have k0 := cCc hXV 0
     have k1 := cCc hXV 1
     have k2 := cCc hXV 2
     simp at k0 k1 k2
     exact bodyPost_ret (v := .tuple #[.agg #[.int .i64 2, .int .i64 c, .slice (some ⟨g, 0, none⟩) (2 * c) (2 * c)], .int .i64 0]) (by simp [results, Tryz.f175, go_sem, k0, k1, k2]) rfl ⟨g, rfl, hNV, by omega, hBV⟩
    exact AllReady.nil
   exact AllReady.nil
  exact AllReady.nil
 refine AllReady.cons rfl (fun K hK => ?_) ?_
 ·go_simp
  refine hK _ _ ?_
  clear hK K
  refine wpAny_ready (rs := [0, 3]) (by kernel_rfl) (by simp) ?_
  refine AllReady.cons rfl (fun K hK => ?_) ?_
  ·go_simp
   refine hK _ _ ?_
   clear hK K
   refine wpAny_ready (rs := [3]) (by kernel_rfl) (by simp) ?_
   refine AllReady.cons rfl (fun K hK => ?_) ?_
   ·go_simp
    refine (told_any 2 c (.slice (some ⟨g, 0, none⟩) (2 * c) (2 * c)) h _).mono ?_
    rintro e w5 ⟨rfl, rfl⟩
    rw [HW5.out]
    refine hK _ _ ?_
    clear hK K
    refine wpAny_ready (rs := [5]) (by kernel_rfl) (by simp) ?_
    refine AllReady.cons rfl (fun K hK => ?_) ?_
    ·go_simp
     refine hCH.mono ?_
     rintro e w6 ⟨rfl, hN6, hG6⟩
     refine hK _ _ ?_
     clear hK K
     refine wpAny_done (by kernel_rfl) ?_ _
     have hX6 := (hG6.block _ (Array.getElem?_eq_some_iff.1 HX5.out).1 (fun e => by cases e; omega)).trans HX5.out
     have hR6 : w6.heap[w.heap.size + 1 + 1]? = _ := (hG6.block _ (Array.getElem?_eq_some_iff.1 HR5.out).1 (fun e => by cases e; omega)).trans HR5.out
     obtain ⟨z0, z1, z2⟩ := cl3 hX6
     obtain ⟨v0, v1, v2⟩ := cl3 hR6
     obtain ⟨f0, f1, f2⟩ := cz3 hR6
     obtain ⟨V, hV, hXV, hNV, hBV⟩ := fin w6 hN6 hG6
     clear fin hX6 hR6 hN6 hG6 hCH
     go_wp2_with fail
     have k0 := cCc hXV 0
     have k1 := cCc hXV 1
     have k2 := cCc hXV 2
     simp at k0 k1 k2
     exact bodyPost_ret (v := .tuple #[.agg #[.int .i64 2, .int .i64 c, .slice (some ⟨g, 0, none⟩) (2 * c) (2 * c)], .int .i64 0]) (by simp [results, Tryz.f175, go_sem, k0, k1, k2]) rfl ⟨g, rfl, hNV, by omega, hBV⟩
    exact AllReady.nil
   exact AllReady.nil
  refine AllReady.cons rfl (fun K hK => ?_) ?_
  ·go_simp
   refine (told_any 2 c (.slice (some ⟨g, 0, none⟩) (2 * c) (2 * c)) h _).mono ?_
   rintro e w5 ⟨rfl, rfl⟩
   rw [HW5.out]
   refine hK _ _ ?_
   clear hK K
   refine wpAny_ready (rs := [0]) (by kernel_rfl) (by simp) ?_
   refine AllReady.cons rfl (fun K hK => ?_) ?_
   ·go_simp
    refine hK _ _ ?_
    clear hK K
    refine wpAny_ready (rs := [5]) (by kernel_rfl) (by simp) ?_
    refine AllReady.cons rfl (fun K hK => ?_) ?_
    ·go_simp
     refine hCH.mono ?_
     rintro e w6 ⟨rfl, hN6, hG6⟩
     refine hK _ _ ?_
     clear hK K
     refine wpAny_done (by kernel_rfl) ?_ _
     have hX6 := (hG6.block _ (Array.getElem?_eq_some_iff.1 HX5.out).1 (fun e => by cases e; omega)).trans HX5.out
     have hR6 : w6.heap[w.heap.size + 1 + 1]? = _ := (hG6.block _ (Array.getElem?_eq_some_iff.1 HR5.out).1 (fun e => by cases e; omega)).trans HR5.out
     obtain ⟨z0, z1, z2⟩ := cl3 hX6
     obtain ⟨v0, v1, v2⟩ := cl3 hR6
     obtain ⟨f0, f1, f2⟩ := cz3 hR6
     obtain ⟨V, hV, hXV, hNV, hBV⟩ := fin w6 hN6 hG6
     clear fin hX6 hR6 hN6 hG6 hCH
     go_wp2_with fail
     have k0 := cCc hXV 0
     have k1 := cCc hXV 1
     have k2 := cCc hXV 2
     simp at k0 k1 k2
     exact bodyPost_ret (v := .tuple #[.agg #[.int .i64 2, .int .i64 c, .slice (some ⟨g, 0, none⟩) (2 * c) (2 * c)], .int .i64 0]) (by simp [results, Tryz.f175, go_sem, k0, k1, k2]) rfl ⟨g, rfl, hNV, by omega, hBV⟩
    exact AllReady.nil
   exact AllReady.nil
  exact AllReady.nil
 exact AllReady.nil
end Go.Proofs.YtcbbenncdainfaaGreatDoor
namespace Go.Proofs.YtcbbenncdainfaaGreatDoor
open Go Go.RowKit Go.Shelf
set_option maxRecDepth 100000 in
set_option maxHeartbeats 1000000 in
theorem cLower_any (c : Nat) (l : List Int) (a : Option Addr) (len cap : Nat) (w : World) (hs : isShapeB 2 c = true) (hs2 : isShapeB 2 ((c / 2 : Nat) : Int) = true) (hc : c = 8 ∨ c = 16 ∨ c = 32) (hL : SlE encU 1 w.heap.size w a len l) (hl : l.length = 2 * c) (hlu : U64s l) :
  Calls Tryz.prog 177 #[.agg #[.int .i64 2, .int .i64 c, .slice a len cap]] w fun e w' => ∃ g, e = .returned (.tuple #[.agg #[.int .i64 2, .int .i64 ((c / 2 : Nat) : Int), .slice (some ⟨g, 0, none⟩) (2 * (c / 2)) (2 * (c / 2))], .int .i64 0]) ∧ NumsAt w' g (cmLow c l) ∧ w.heap.size ≤ g ∧ Below w.heap.size w w' := by
 have hR : Hid (∀ w1, Calls Tryz.prog 97 #[.agg #[.int .i64 2, .int .i64 c, .slice a len cap]] w1 fun e w' => e = .returned (.bool true) ∧ Below w1.heap.size w1 w') := fun w1 => (cms_Right_any 2 c l a len cap w1 hL.1).mono fun e w' h => ⟨by rw [h.1]; simp [cmRight, hs, hl], h.2⟩
 obtain ⟨d, hd⟩ : ∃ d, c / 2 = d := ⟨_, rfl⟩
 have hB : Hid (∀ w, Calls Tryz.prog 79 #[.int .i64 2, .int .i64 d] w fun e w' => ∃ g, e = .returned (.tuple #[.agg #[.int .i64 2, .int .i64 d, .slice (some ⟨g, 0, none⟩) (2 * d) (2 * d)], .nilIface]) ∧ NumsAt w' g (List.replicate (2 * d) 0) ∧ w.heap.size ≤ g ∧ Below w.heap.size w w') := fun w => by rw [← hd]; exact cblank_any (c / 2) w hs2 (by omega)
 have HF : Hid (∀ (fb xb p : Nat) (old : Int) (v : Value) (w1 : World), p < 2 * d → SlE encU 1 w1.heap.size w1 a len l → w1.heap[fb]? = some (.cells #[.int .i64 2, .int .i64 d, v] 135 (0, 0)) → w1.heap[xb]? = some (.cells #[.int .i64 2, .int .i64 c, .slice a len cap] 28 (0, 0)) →
   Calls Tryz.prog 185 #[.int .i64 p, .int .u64 old, .pointer (some ⟨fb, 0, none⟩), .pointer (some ⟨xb, 0, none⟩)] w1 fun e w' => e = .returned (.int .u64 (lowF c l p old)) ∧ Below w1.heap.size w1 w') := fun fb xb p old v w1 hp hL1 hf hx => by rw [← hd] at hp hf; exact lowF_any c fb xb p old l a len cap v w1 hc hp hl hlu hL1 hf hx
 have HE : Hid (chFold (fun x : Fin (2 * d) => x.1) (lowF c l) (List.replicate (2 * d) 0) (List.finRange (2 * d)) = cmLow c l) := by rw [Hid, ← hd]; exact chFold_low c l
 have HU : Hid (∀ p x, U64 (lowF c l p x)) := fun p x => satI_u64 _ _ (getD_u64 l hlu _) (getD_u64 l hlu _)
 have hd16 : d ≤ 16 := by omega
 have hcd : ((c : Int).tdiv 2) = (d : Int) := by rw [Int.tdiv_eq_ediv_of_nonneg (by omega)]; omega
 have hcd2 : ((c : Int) / 2) = (d : Int) := by omega
 have hcw : wrap64 (d : Int) = d := wrap64_nat d (by omega)
 rw [hd]
 have HL := Lib.hid hL
 obtain ⟨W0, hW0, hXp, hXr, hB0, hs0⟩ := boxes2 w #[.int .i64 2, .int .i64 c, .slice a len cap] 28 #[.int .i64 0, .int .i64 0, .slice none 0 0] 28
 have HXP := Lib.hid hXp
 have HXR := Lib.hid hXr
 obtain ⟨x0, x1, x2⟩ := cl3 hXp
 clear hXp hXr hL hl hlu hs hs2 hd hc
 go_enter Tryz.func177, Tryz.ntmps177
 go_wp2_with fail
 refine (hR.out _).mono ?_
 rintro e w1 ⟨rfl, hb1⟩
 have hXp1 := known hb1 (Nat.le_refl _) HXP.out
 obtain ⟨y0, y1, y2⟩ := cl3 hXp1
 go_wp2_with fail
 refine (hB.out _).mono ?_
 rintro e w2 ⟨g, rfl, hr2, hg2, hb2⟩
 obtain ⟨W2, hW2, hX2, hB2, hs2⟩ := boxes1 w2 #[.int .i64 2, .int .i64 d, .slice (some ⟨g, 0, none⟩) (2 * d) (2 * d)] 135
 obtain ⟨W5, hW5, hY5, hB5, hs5⟩ := boxes1 W2.drew #[.int .i64 2, .int .i64 d, .slice (some ⟨g, 0, none⟩) (2 * d) (2 * d)] 135
 have hzd : W2.drew.heap.size = w2.heap.size + 1 := hs2
 rw [hzd] at hY5 hB5 hs5
 have hgl := hr2.lt
 have hb1s := hb1.size
 have hb2s := hb2.size
 have hB25 : Below w2.heap.size w2 W5 := hB2.drew.trans (hB5.mono (by omega))
 have hr5 : NumsAt W5 g (List.replicate (2 * d) 0) := hr2.block (hB25.block _ hgl)
 have hX5 : W5.heap[w2.heap.size]? = some (.cells #[.int .i64 2, .int .i64 d, .slice (some ⟨g, 0, none⟩) (2 * d) (2 * d)] 135 (0, 0)) := (hB5.block _ (by omega)).trans (show W2.drew.heap[w2.heap.size]? = _ from hX2)
 have hP5 : W5.heap[w.heap.size]? = some (.cells #[.int .i64 2, .int .i64 c, .slice a len cap] 28 (0, 0)) := known ((hb1.trans (hb2.mono hb1s)).trans (hB25.mono (by omega))) (Nat.le_refl _) HXP.out
 have hR5 : W5.heap[w.heap.size + 1]? = some (.cells #[.int .i64 0, .int .i64 0, .slice none 0 0] 28 (0, 0)) := known ((hb1.trans (hb2.mono hb1s)).trans (hB25.mono (by omega))) (Nat.le_refl _) HXR.out
 have hB05 : Below w.heap.size w W5 := (hB0.trans (hb1.mono (by omega))).trans ((hb2.mono (by omega)).trans (hB25.mono (by omega)))
 have hCH := change_low (lowF c l) (w2.heap.size + 1) w2.heap.size w.heap.size g (2 * d) (2 * d) (2 * d) (2 * d) 2 d 2 d (some ⟨g, 0, none⟩) (List.replicate (2 * d) 0) W5 (by omega) hY5 hr5 (by simp) (fun x hx => by rw [List.eq_of_mem_replicate hx]; exact u64_0) (by intro k hk; simp at hk; omega)
  (fun W p x hG hx => by
   have hBW : Below w.heap.size W5 W := (Below.refl _ W5).grown hG hB05.size (fun k e => by cases e; omega)
   have hbb := hB05.trans hBW
   exact HF.out w2.heap.size w.heap.size p.1 x (.slice (some ⟨g, 0, none⟩) (2 * d) (2 * d)) W p.2 ((HL.out.below hbb).mono hbb.size) ((hG.block _ (Array.getElem?_eq_some_iff.1 hX5).1 (fun e => by cases e; omega)).trans hX5) ((hG.block _ (Array.getElem?_eq_some_iff.1 hP5).1 (fun e => by cases e; omega)).trans hP5)) (fun p x _ => HU.out p x) (fun p => p.2)
 have HW5 := Lib.hid hW5
 have HX5 := Lib.hid hX5
 have HR5 := Lib.hid hR5
 have HB05 := Lib.hid hB05
 have hXd : W2.drew.heap[w2.heap.size]? = some (.cells #[.int .i64 2, .int .i64 d, .slice (some ⟨g, 0, none⟩) (2 * d) (2 * d)] 135 (0, 0)) := hX2
 obtain ⟨c0, c1, c2⟩ := cl3 hXd
 obtain ⟨z0, z1, z2⟩ := cl3 hX5
 have hgw : w.heap.size + 1 < g := by omega
 clear hW5 hX2 hXd hX5 hR5 hP5 hY5 hB2 hB5 hB25 hB05 hr2 hr5 hb1 hb2
 have fin : ∀ w6, NumsAt w6 g (cmLow c l) → W5.grownBy w6 (some g) → ∃ V, ((w6.setCell ⟨w.heap.size + 1, 0, none⟩ (.int .i64 2)).setCell ⟨w.heap.size + 1, 1, none⟩ (.int .i64 d)).setCell ⟨w.heap.size + 1, 2, none⟩ (.slice (some ⟨g, 0, none⟩) (2 * d) (2 * d)) = V ∧ V.heap[w.heap.size + 1]? = some (.cells #[.int .i64 2, .int .i64 d, .slice (some ⟨g, 0, none⟩) (2 * d) (2 * d)] 28 (0, 0)) ∧ NumsAt V g (cmLow c l) ∧ Below w.heap.size w V := fun w6 hN6 hG6 => by
  have hR6 := (hG6.block _ (Array.getElem?_eq_some_iff.1 HR5.out).1 (fun e => by cases e; omega)).trans HR5.out
  have hne : w.heap.size + 1 ≠ g := by omega
  refine ⟨_, rfl, set_cells3 hR6, ((hN6.block (heap_set_other (p := ⟨w.heap.size + 1, 0, none⟩) hne _)).block (heap_set_other (p := ⟨w.heap.size + 1, 1, none⟩) hne _)).block (heap_set_other (p := ⟨w.heap.size + 1, 2, none⟩) hne _), ?_⟩
  exact (((HB05.out.grown hG6 HB05.out.size (fun k e => by cases e; omega)).setCell (p := ⟨w.heap.size + 1, 0, none⟩) (by show _ ≤ _ + 1; omega) _).setCell (p := ⟨w.heap.size + 1, 1, none⟩) (by show _ ≤ _ + 1; omega) _).setCell (p := ⟨w.heap.size + 1, 2, none⟩) (by show _ ≤ _ + 1; omega) _
 go_wp2_with fail
 refine wp_region_any (by kernel_rfl) ?_
 change wpAny _ _ _ _ _ _ _ (World.drew _)
 refine tk 3 (v := ?_) rfl ?_ ?_
 rotate_left
 ·intro w; go_simp; with_reducible rfl
 refine wpAny_ready (rs := [0, 1]) (by kernel_rfl) (by simp) ?_
 refine AllReady.cons rfl (fun K hK => ?_) ?_
 ·go_simp
  refine hK _ _ ?_
  clear hK K
  refine wpAny_ready (rs := [1]) (by kernel_rfl) (by simp) ?_
  refine AllReady.cons rfl (fun K hK => ?_) ?_
  ·go_simp
   refine hK _ _ ?_
   clear hK K
   refine wpAny_ready (rs := [2]) (by kernel_rfl) (by simp) ?_
   refine AllReady.cons rfl (fun K hK => ?_) ?_
   ·go_simp
    refine (all_any 2 d (.slice (some ⟨g, 0, none⟩) (2 * d) (2 * d)) _).mono ?_
    rintro e w5 ⟨rfl, rfl⟩
    rw [HW5.out]
    refine hK _ _ ?_
    clear hK K
    refine wpAny_ready (rs := [4]) (by kernel_rfl) (by simp) ?_
    refine AllReady.cons rfl (fun K hK => ?_) ?_
    ·go_simp
     refine hCH.mono ?_
     rintro e w6 ⟨rfl, hN6, hG6⟩
     rw [HE.out] at hN6
     refine hK _ _ ?_
     clear hK K
     refine wpAny_done (by kernel_rfl) ?_ _
     have hX6 := (hG6.block _ (Array.getElem?_eq_some_iff.1 HX5.out).1 (fun e => by cases e; omega)).trans HX5.out
     have hR6 : w6.heap[w.heap.size + 1]? = _ := (hG6.block _ (Array.getElem?_eq_some_iff.1 HR5.out).1 (fun e => by cases e; omega)).trans HR5.out
     obtain ⟨z0, z1, z2⟩ := cl3 hX6
     obtain ⟨v0, v1, v2⟩ := cl3 hR6
     obtain ⟨f0, f1, f2⟩ := cz3 hR6
     obtain ⟨V, hV, hXV, hNV, hBV⟩ := fin w6 hN6 hG6
     clear fin hX6 hR6 hN6 hG6 hCH
     go_wp2_with fail
     have k0 := cCc hXV 0
     have k1 := cCc hXV 1
     have k2 := cCc hXV 2
     simp at k0 k1 k2
     exact bodyPost_ret (v := .tuple #[.agg #[.int .i64 2, .int .i64 d, .slice (some ⟨g, 0, none⟩) (2 * d) (2 * d)], .int .i64 0]) (by simp [results, Tryz.f177, go_sem, k0, k1, k2]) rfl ⟨g, rfl, hNV, by omega, hBV⟩
    exact AllReady.nil
   exact AllReady.nil
  exact AllReady.nil
 refine AllReady.cons rfl (fun K hK => ?_) ?_
 ·go_simp
  refine hK _ _ ?_
  clear hK K
  refine wpAny_ready (rs := [0, 2]) (by kernel_rfl) (by simp) ?_
  refine AllReady.cons rfl (fun K hK => ?_) ?_
  ·go_simp
   refine hK _ _ ?_
   clear hK K
   refine wpAny_ready (rs := [2]) (by kernel_rfl) (by simp) ?_
   refine AllReady.cons rfl (fun K hK => ?_) ?_
   ·go_simp
    refine (all_any 2 d (.slice (some ⟨g, 0, none⟩) (2 * d) (2 * d)) _).mono ?_
    rintro e w5 ⟨rfl, rfl⟩
    rw [HW5.out]
    refine hK _ _ ?_
    clear hK K
    refine wpAny_ready (rs := [4]) (by kernel_rfl) (by simp) ?_
    refine AllReady.cons rfl (fun K hK => ?_) ?_
    ·go_simp
     refine hCH.mono ?_
     rintro e w6 ⟨rfl, hN6, hG6⟩
     rw [HE.out] at hN6
     refine hK _ _ ?_
     clear hK K
     refine wpAny_done (by kernel_rfl) ?_ _
     have hX6 := (hG6.block _ (Array.getElem?_eq_some_iff.1 HX5.out).1 (fun e => by cases e; omega)).trans HX5.out
     have hR6 : w6.heap[w.heap.size + 1]? = _ := (hG6.block _ (Array.getElem?_eq_some_iff.1 HR5.out).1 (fun e => by cases e; omega)).trans HR5.out
     obtain ⟨z0, z1, z2⟩ := cl3 hX6
     obtain ⟨v0, v1, v2⟩ := cl3 hR6
     obtain ⟨f0, f1, f2⟩ := cz3 hR6
     obtain ⟨V, hV, hXV, hNV, hBV⟩ := fin w6 hN6 hG6
     clear fin hX6 hR6 hN6 hG6 hCH
     go_wp2_with fail
     have k0 := cCc hXV 0
     have k1 := cCc hXV 1
     have k2 := cCc hXV 2
     simp at k0 k1 k2
     exact bodyPost_ret (v := .tuple #[.agg #[.int .i64 2, .int .i64 d, .slice (some ⟨g, 0, none⟩) (2 * d) (2 * d)], .int .i64 0]) (by simp [results, Tryz.f177, go_sem, k0, k1, k2]) rfl ⟨g, rfl, hNV, by omega, hBV⟩
    exact AllReady.nil
   exact AllReady.nil
  refine AllReady.cons rfl (fun K hK => ?_) ?_
  ·go_simp
   refine (all_any 2 d (.slice (some ⟨g, 0, none⟩) (2 * d) (2 * d)) _).mono ?_
   rintro e w5 ⟨rfl, rfl⟩
   rw [HW5.out]
   refine hK _ _ ?_
   clear hK K
   refine wpAny_ready (rs := [0]) (by kernel_rfl) (by simp) ?_
   refine AllReady.cons rfl (fun K hK => ?_) ?_
   ·go_simp
    refine hK _ _ ?_
    clear hK K
    refine wpAny_ready (rs := [4]) (by kernel_rfl) (by simp) ?_
    refine AllReady.cons rfl (fun K hK => ?_) ?_
    ·go_simp
     refine hCH.mono ?_
     rintro e w6 ⟨rfl, hN6, hG6⟩
     rw [HE.out] at hN6
     refine hK _ _ ?_
     clear hK K
     refine wpAny_done (by kernel_rfl) ?_ _
     have hX6 := (hG6.block _ (Array.getElem?_eq_some_iff.1 HX5.out).1 (fun e => by cases e; omega)).trans HX5.out
     have hR6 : w6.heap[w.heap.size + 1]? = _ := (hG6.block _ (Array.getElem?_eq_some_iff.1 HR5.out).1 (fun e => by cases e; omega)).trans HR5.out
     obtain ⟨z0, z1, z2⟩ := cl3 hX6
     obtain ⟨v0, v1, v2⟩ := cl3 hR6
     obtain ⟨f0, f1, f2⟩ := cz3 hR6
     obtain ⟨V, hV, hXV, hNV, hBV⟩ := fin w6 hN6 hG6
     clear fin hX6 hR6 hN6 hG6 hCH
     go_wp2_with fail
     have k0 := cCc hXV 0
     have k1 := cCc hXV 1
     have k2 := cCc hXV 2
     simp at k0 k1 k2
     exact bodyPost_ret (v := .tuple #[.agg #[.int .i64 2, .int .i64 d, .slice (some ⟨g, 0, none⟩) (2 * d) (2 * d)], .int .i64 0]) (by simp [results, Tryz.f177, go_sem, k0, k1, k2]) rfl ⟨g, rfl, hNV, by omega, hBV⟩
    exact AllReady.nil
   exact AllReady.nil
  exact AllReady.nil
 exact AllReady.nil
end Go.Proofs.YtcbbenncdainfaaGreatDoor
namespace Go.Proofs.YtcbbenncdainfaaGreatDoor
open Go Go.RowKit Go.Shelf
set_option maxRecDepth 100000 in
set_option maxHeartbeats 1000000 in
theorem exAdd_any (l : List Int) (a : Option Addr) (len cap : Nat) (n : Int) (w : World) (hL : SlE encU 1 w.heap.size w a len l) (hn : a = none → len = 0) :
  Calls Tryz.prog 135 #[.agg #[.slice a len cap], .int .u64 n] w (ExPost (exAdd l n) w) := by
 have hR : Hid (∀ w1, Below w.heap.size w w1 → Calls Tryz.prog 95 #[.agg #[.slice a len cap]] w1 fun e w' => e = .returned (.bool (exRight l)) ∧ Below w1.heap.size w1 w') := fun w1 hb => exact_Right_any l a len cap w1 ((hL.below hb).mono hb.size)
 have HL := Lib.hid hL
 have HN := Lib.hid hn
 obtain ⟨rb, hrb⟩ : ∃ rb, exRight l = rb := ⟨_, rfl⟩
 rw [hrb] at hR
 have HR := Lib.hid hrb
 clear hrb hL hn
 go_enter Tryz.func135, Tryz.ntmps135
 go_wp2_with fail
 have hb0 : Below w.heap.size w ((w.alloc (.cells #[.slice a len cap] 24)).alloc (.cells #[.slice none 0 0] 24)) := ((Below.refl _ w).alloc (Nat.le_refl _) _).alloc (by simp) _
 have hc0 : ((w.alloc (.cells #[.slice a len cap] 24)).alloc (.cells #[.slice none 0 0] 24)).heap[w.heap.size]? = some (.cells #[.slice a len cap] 24 (0, 0)) := (Boxed.new w 24 (.slice a len cap)).alloc _
 refine (hR.out _ hb0).mono ?_
 rintro e w1 ⟨rfl, hb1⟩
 have c1 := cCc (known hb1 (Nat.le_refl _) hc0) 0
 have hz0 : ((w.alloc (.cells #[.slice a len cap] 24)).alloc (.cells #[.slice none 0 0] 24)).heap.size = w.heap.size + 2 := by simp
 have hy0 : Boxed ((w.alloc (.cells #[.slice a len cap] 24)).alloc (.cells #[.slice none 0 0] 24)) (w.heap.size + 1) 24 (.slice none 0 0) := by
  have h := Boxed.new (w.alloc (.cells #[.slice a len cap] 24)) 24 (.slice none 0 0)
  simpa using h
 have hy1 : Boxed w1 (w.heap.size + 1) 24 (.slice none 0 0) := (hb1.block _ (by omega)).trans hy0
 have c2 := hy1.cell
 have f2 := hy1.frozen
 have hb1 := hb0.trans (hb1.mono hb0.size)
 cases rb with
 | true =>
  have hru := exRight_up l HR.out
  have hb2 : Below w.heap.size w (w1.alloc (.cells #[.int .u64 n] 43)) := hb1.alloc hb1.size _
  have hM : SlE encU 1 (w1.alloc (.cells #[.int .u64 n] 43)).heap.size (w1.alloc (.cells #[.int .u64 n] 43)) (some ⟨w1.heap.size, 0, none⟩) 1 [n] := by
   refine ⟨rfl, fun j x hx => ⟨w1.heap.size, 0, rfl, by simp, fun i hi => ?_⟩⟩
   obtain rfl : i = 0 := by omega
   have h5 := flat_cell encU 1 (fun _ => rfl) [n] j 0 x hx (by omega)
   rw [cCc (World.alloc_heap_new w1 _), Nat.zero_add]
   simpa [encU] using h5
  have hG := gather_any l [n] a len cap (some ⟨w1.heap.size, 0, none⟩) 1 1 (w1.alloc (.cells #[.int .u64 n] 43)) ((HL.out.below hb2).mono hb2.size) hM hru.1 (by have := HL.out.1; have := hru.2; omega) (by omega) HN.out
  have HRU := Lib.hid hru
  clear hM hru
  go_wp2_with fail
  refine hG.mono ?_
  rintro e w3 ⟨hb3, hp⟩
  have hy3 : Boxed w3 (w.heap.size + 1) 24 (.slice none 0 0) := (hb3.block _ (by have := hy1.lt; simp; omega)).trans (hy1.alloc _)
  have c4 := hy3.cell
  have f4 := hy3.frozen
  cases hg : exGather l [n] with
  | none =>
   rw [hg] at hp
   dsimp only at hp
   subst hp
   go_wp2_with fail
   have hy4 : Boxed (w3.alloc (.cells #[.slice none 0 0] 24)).drew w3.heap.size 24 (.slice none 0 0) := Boxed.new w3 24 (.slice none 0 0)
   have e4 := hy4.cell
   have hr4 : Boxed (w3.alloc (.cells #[.slice none 0 0] 24)).drew (w.heap.size + 1) 24 (.slice none 0 0) := hy3.alloc _
   have hz4 : w.heap.size + 1 < w3.heap.size := hy3.lt
   have hb4 : Below w.heap.size w (w3.alloc (.cells #[.slice none 0 0] 24)).drew := ((hb2.trans (hb3.mono (by have := hb2.size; simp at this ⊢; omega))).alloc (by omega) _).drew
   have HY4 := Lib.hid hy4
   have HR4 := Lib.hid hr4
   refine wp_region_any (by kernel_rfl) ?_
   change wpAny _ _ _ _ _ _ _ (World.drew _)
   refine tk 1 (v := ?_) rfl ?_ ?_
   rotate_left
   ·intro w; go_simp; with_reducible rfl
   refine wpAny_ready (rs := [0, 2]) (by kernel_rfl) (by simp) ?_
   refine AllReady.cons rfl (fun K hK => ?_) ?_
   ·go_simp
    refine hK _ _ ?_
    clear hK K
    refine wpAny_ready (rs := [2]) (by kernel_rfl) (by simp) ?_
    refine AllReady.cons rfl (fun K hK => ?_) ?_
    ·go_simp
     refine (exErrno_fault _).mono ?_
     rintro e w5 ⟨rfl, hb5⟩
     have hy5 := (hb5.block _ HY4.out.lt).trans HY4.out
     have hr5 := (hb5.block _ HR4.out.lt).trans HR4.out
     have g1 := Boxed.cell hy5
     have g2 := Boxed.cell hr5
     have g3 := Boxed.frozen hr5
     refine hK _ _ ?_
     clear hK K
     refine wpAny_ready (rs := [3]) (by kernel_rfl) (by simp) ?_
     refine AllReady.cons rfl (fun K hK => ?_) ?_
     ·go_simp
      refine hK _ _ ?_
      clear hK K
      refine tk 4 (v := ?_) rfl ?_ ?_
      rotate_left
      ·intro w; go_simp; with_reducible rfl
      refine wpAny_done (by kernel_rfl) ?_ _
      go_wp2_with fail
      have g4 := (Boxed.set (.slice none 0 0) hr5).cell
      refine bodyPost_ret (v := .tuple #[.agg #[.slice none 0 0], .int .i64 60]) ?_ rfl ?_
      ·simp [results, Tryz.f135, go_sem, g4]
      ·refine ⟨(hb4.trans (hb5.mono hb4.size)).setCell (p := ⟨w.heap.size + 1, 0, none⟩) (by show _ ≤ _ + 1; omega) _, ?_⟩
       unfold exAdd
       rw [HR.out, if_pos rfl, hg]
     exact AllReady.nil
    exact AllReady.nil
   refine AllReady.cons rfl (fun K hK => ?_) ?_
   ·go_simp
    refine (exErrno_fault _).mono ?_
    rintro e w5 ⟨rfl, hb5⟩
    have hy5 := (hb5.block _ HY4.out.lt).trans HY4.out
    have hr5 := (hb5.block _ HR4.out.lt).trans HR4.out
    have g1 := Boxed.cell hy5
    have g2 := Boxed.cell hr5
    have g3 := Boxed.frozen hr5
    refine hK _ _ ?_
    clear hK K
    refine wpAny_ready (rs := [0]) (by kernel_rfl) (by simp) ?_
    refine AllReady.cons rfl (fun K hK => ?_) ?_
    ·go_simp
     refine hK _ _ ?_
     clear hK K
     refine wpAny_ready (rs := [3]) (by kernel_rfl) (by simp) ?_
     refine AllReady.cons rfl (fun K hK => ?_) ?_
     ·go_simp
      refine hK _ _ ?_
      clear hK K
      refine tk 4 (v := ?_) rfl ?_ ?_
      rotate_left
      ·intro w; go_simp; with_reducible rfl
      refine wpAny_done (by kernel_rfl) ?_ _
      go_wp2_with fail
      have g4 := (Boxed.set (.slice none 0 0) hr5).cell
      refine bodyPost_ret (v := .tuple #[.agg #[.slice none 0 0], .int .i64 60]) ?_ rfl ?_
      ·simp [results, Tryz.f135, go_sem, g4]
      ·refine ⟨(hb4.trans (hb5.mono hb4.size)).setCell (p := ⟨w.heap.size + 1, 0, none⟩) (by show _ ≤ _ + 1; omega) _, ?_⟩
       unfold exAdd
       rw [HR.out, if_pos rfl, hg]
     exact AllReady.nil
    exact AllReady.nil
   exact AllReady.nil
  | some m =>
   rw [hg] at hp
   obtain ⟨a3, cap3, rfl, hS3, hfar3⟩ := hp
   go_wp2_with fail
   have hy4 : Boxed (w3.alloc (.cells #[.slice a3 m.length cap3] 24)).drew w3.heap.size 24 (.slice a3 m.length cap3) := Boxed.new w3 24 (.slice a3 m.length cap3)
   have e4 := hy4.cell
   have hr4 : Boxed (w3.alloc (.cells #[.slice a3 m.length cap3] 24)).drew (w.heap.size + 1) 24 (.slice none 0 0) := hy3.alloc _
   have hz4 : w.heap.size + 1 < w3.heap.size := hy3.lt
   have hb4 : Below w.heap.size w (w3.alloc (.cells #[.slice a3 m.length cap3] 24)).drew := ((hb2.trans (hb3.mono (by have := hb2.size; simp at this ⊢; omega))).alloc (by omega) _).drew
   have HY4 := Lib.hid hy4
   have HR4 := Lib.hid hr4
   refine wp_region_any (by kernel_rfl) ?_
   change wpAny _ _ _ _ _ _ _ (World.drew _)
   refine tk 1 (v := ?_) rfl ?_ ?_
   rotate_left
   ·intro w; go_simp; with_reducible rfl
   refine wpAny_ready (rs := [0, 2]) (by kernel_rfl) (by simp) ?_
   refine AllReady.cons rfl (fun K hK => ?_) ?_
   ·go_simp
    refine hK _ _ ?_
    clear hK K
    refine wpAny_ready (rs := [2]) (by kernel_rfl) (by simp) ?_
    refine AllReady.cons rfl (fun K hK => ?_) ?_
    ·go_simp
     refine (exErrno_nil _).mono ?_
     rintro e w5 ⟨rfl, hb5⟩
     have hy5 := (hb5.block _ HY4.out.lt).trans HY4.out
     have hr5 := (hb5.block _ HR4.out.lt).trans HR4.out
     have g1 := Boxed.cell hy5
     have g2 := Boxed.cell hr5
     have g3 := Boxed.frozen hr5
     refine hK _ _ ?_
     clear hK K
     refine wpAny_ready (rs := [3]) (by kernel_rfl) (by simp) ?_
     refine AllReady.cons rfl (fun K hK => ?_) ?_
     ·go_simp
      refine hK _ _ ?_
      clear hK K
      refine tk 4 (v := ?_) rfl ?_ ?_
      rotate_left
      ·intro w; go_simp; with_reducible rfl
      refine wpAny_done (by kernel_rfl) ?_ _
      go_wp2_with fail
      have g4 := (Boxed.set (.slice a3 m.length cap3) hr5).cell
      refine bodyPost_ret (v := .tuple #[.agg #[.slice a3 m.length cap3], .int .i64 0]) ?_ rfl ?_
      ·simp [results, Tryz.f135, go_sem, g4]
      ·refine ⟨(hb4.trans (hb5.mono hb4.size)).setCell (p := ⟨w.heap.size + 1, 0, none⟩) (by show _ ≤ _ + 1; omega) _, ?_⟩
       unfold exAdd
       rw [HR.out, if_pos rfl, hg]
       refine ⟨a3, cap3, rfl, ?_, fun x hx => ?_⟩
       ·rw [size_set]; exact (((hS3.go ((Below.refl _ _).alloc (Nat.le_refl _) _)).go (Below.refl _ _).drew).go hb5).set_far (fun y hy => by have h7 := hfar3 y hy; have := hy1.lt; rw [World.size_alloc] at h7; show w.heap.size + 1 ≠ _; omega) _
       ·have := hfar3 x hx; have := hb2.size; omega
     exact AllReady.nil
    exact AllReady.nil
   refine AllReady.cons rfl (fun K hK => ?_) ?_
   ·go_simp
    refine (exErrno_nil _).mono ?_
    rintro e w5 ⟨rfl, hb5⟩
    have hy5 := (hb5.block _ HY4.out.lt).trans HY4.out
    have hr5 := (hb5.block _ HR4.out.lt).trans HR4.out
    have g1 := Boxed.cell hy5
    have g2 := Boxed.cell hr5
    have g3 := Boxed.frozen hr5
    refine hK _ _ ?_
    clear hK K
    refine wpAny_ready (rs := [0]) (by kernel_rfl) (by simp) ?_
    refine AllReady.cons rfl (fun K hK => ?_) ?_
    ·go_simp
     refine hK _ _ ?_
     clear hK K
     refine wpAny_ready (rs := [3]) (by kernel_rfl) (by simp) ?_
     refine AllReady.cons rfl (fun K hK => ?_) ?_
     ·go_simp
      refine hK _ _ ?_
      clear hK K
      refine tk 4 (v := ?_) rfl ?_ ?_
      rotate_left
      ·intro w; go_simp; with_reducible rfl
      refine wpAny_done (by kernel_rfl) ?_ _
      go_wp2_with fail
      have g4 := (Boxed.set (.slice a3 m.length cap3) hr5).cell
      refine bodyPost_ret (v := .tuple #[.agg #[.slice a3 m.length cap3], .int .i64 0]) ?_ rfl ?_
      ·simp [results, Tryz.f135, go_sem, g4]
      ·refine ⟨(hb4.trans (hb5.mono hb4.size)).setCell (p := ⟨w.heap.size + 1, 0, none⟩) (by show _ ≤ _ + 1; omega) _, ?_⟩
       unfold exAdd
       rw [HR.out, if_pos rfl, hg]
       refine ⟨a3, cap3, rfl, ?_, fun x hx => ?_⟩
       ·rw [size_set]; exact (((hS3.go ((Below.refl _ _).alloc (Nat.le_refl _) _)).go (Below.refl _ _).drew).go hb5).set_far (fun y hy => by have h7 := hfar3 y hy; have := hy1.lt; rw [World.size_alloc] at h7; show w.heap.size + 1 ≠ _; omega) _
       ·have := hfar3 x hx; have := hb2.size; omega
     exact AllReady.nil
    exact AllReady.nil
   exact AllReady.nil
 | false =>
  go_wp2_with fail
  refine bodyPost_ret (v := .tuple #[.agg #[.slice none 0 0], .int .i64 60]) ?_ rfl ?_
  ·have c3 := (hy1.set (.slice none 0 0)).cell
   simp [results, Tryz.f135, go_sem, c3]
  ·refine ⟨hb1.setCell (p := ⟨w.heap.size + 1, 0, none⟩) (by show _ ≤ _ + 1; omega) _, ?_⟩
   unfold exAdd
   rw [HR.out]
   rfl
end Go.Proofs.YtcbbenncdainfaaGreatDoor
namespace Go.Proofs.YtcbbenncdainfaaGreatDoor
open Go Go.RowKit Go.Shelf
def upB : List Int → Bool
 | x :: y :: r => decide (x < y) && upB (y :: r)
 | _ => true
theorem upB_iff : ∀ l : List Int, upB l = true ↔ Up l
 | [] => by simp [upB, Up]
 | [x] => by simp [upB, Up]
 | x :: y :: r => by
  have ih := upB_iff (y :: r)
  simp only [upB, Bool.and_eq_true, decide_eq_true_eq, ih]
  constructor
  ·rintro ⟨h1, h2⟩
   refine List.pairwise_cons.2 ⟨fun z hz => ?_, h2⟩
   rcases List.mem_cons.1 hz with rfl | hz
   ·exact h1
   ·have := (List.pairwise_cons.1 h2).1 z hz; omega
  ·intro h
   obtain ⟨h1, h2⟩ := List.pairwise_cons.1 h
   exact ⟨h1 y List.mem_cons_self, h2⟩
theorem exRight_upB (l : List Int) : exRight l = (decide (l.length ≤ 64) && upB l) := by
 rw [Bool.eq_iff_iff, Bool.and_eq_true, decide_eq_true_eq, upB_iff]
 exact ⟨fun h => ⟨(exRight_up l h).2, (exRight_up l h).1⟩, fun h => up_right l h.2 h.1⟩
theorem upB_at {l : List Int} {k : Nat} {x y : Int} (hx : l[k]? = some x) (hy : l[k + 1]? = some y) : upB (l.drop k) = (decide (x < y) && upB (l.drop (k + 1))) := by
 rw [drop_cons' hx, drop_cons' hy]; rfl
theorem upB_end {l : List Int} {k : Nat} (h : l.length ≤ k + 1) : upB (l.drop k) = true := by
 have : (l.drop k).length ≤ 1 := by rw [List.length_drop]; omega
 match hl : l.drop k, this with
 | [], _ => rfl
 | [x], _ => rfl
set_option maxRecDepth 100000 in
set_option maxHeartbeats 1000000 in
theorem ref06_Right_any (a : Option Addr) (len cap : Nat) (l : List Int) (w : World) (hL : SlE encU 1 w.heap.size w a len l) (hm : len ≤ maxLen) (hU : U64s l) :
  Calls Tryz.prog 54 #[.agg #[.slice a len cap]] w fun e w' => e = .returned (.bool (exRight l)) ∧ Below w.heap.size w w' := by
 have hlen := hL.1
 unfold maxLen at hm
 obtain ⟨W0, hW0, hX0, hB0, hs0⟩ := boxes1 w #[.slice a len cap] 24
 have HX0 := Lib.hid hX0
 have HL := Lib.hid (hL.go hB0)
 have HU := Lib.hid hU
 have HN := Lib.hid hlen
 have HB0 := Lib.hid hB0
 have HE := Lib.hid (exRight_upB l)
 have hz0 : w.heap.size < W0.heap.size := by omega
 clear hL hB0 hlen hU
 generalize exRight l = bR at HE ⊢
 have c0 : W0.cell? ⟨w.heap.size, 0, none⟩ = some (.slice a len cap) := cCc hX0 0
 clear hX0
 go_enter Tryz.func54, Tryz.ntmps54
 go_wp2_with fail
 go_loopw [3] (fun i wr => ∃ (k : Nat), i = .int .i64 ((k : Int) + 1) ∧ (k ≤ len) ∧ (k = 0 ∨ k < len) ∧ Below W0.heap.size W0 wr ∧ Hid (upB l = upB (l.drop k))) (fun i _ => len + 1 - (intOf i).toNat)
 case atStart => exact ⟨0, rfl, Nat.zero_le _, .inl rfl, Below.refl _ _, rfl⟩
 case round =>
  obtain ⟨k, rfl, hk, hk0, hB, HS⟩ := hrel
  have hsz := hB.size
  have r0 : wr.cell? ⟨w.heap.size, 0, none⟩ = some (.slice a len cap) := (hB.cell (p := ⟨w.heap.size, 0, none⟩) hz0).trans c0
  by_cases hlt : k + 1 < len
  ·obtain ⟨x, b, off, hx, rfl, hbb, hc⟩ := (HL.out.below hB).at (j := k) (by omega)
   obtain ⟨y, b', off', hy, e1, hbb', hc'⟩ := (HL.out.below hB).at (j := k + 1) hlt
   injection e1 with e1
   injection e1 with e1 e2
   subst e1; subst e2
   have p0 : wr.cell? ⟨b, off + k * 1 + 0, none⟩ = some (.int .u64 x) := hc 0 (by omega)
   have q0 : wr.cell? ⟨b, off + (k + 1) * 1 + 0, none⟩ = some (.int .u64 y) := hc' 0 (by omega)
   simp only [Nat.mul_one, Nat.add_zero] at p0 q0
   have HX := Lib.hid (upB_at hx hy)
   obtain ⟨u1, u2⟩ := HU.out x (List.mem_of_getElem? hx)
   obtain ⟨v1, v2⟩ := HU.out y (List.mem_of_getElem? hy)
   have i1 : (k : Int) + 1 < (len : Int) := by omega
   clear hc hc' hx hy
   by_cases hxy : x < y
   ·have t0 : decide (y ≤ x) = false := by simp; omega
    have H9 : Hid (upB l = upB (l.drop (k + 1))) := by rw [Hid, HS.out, HX.out, decide_eq_true hxy]; rfl
    go_wp2_with fail
    go_quiet (fail)
    go_wp2_with fail
    go_roundw
    case rel => exact ⟨k + 1, by go_num, by omega, .inr (by omega), bDr hB _, H9.out⟩
    case measure => simp [intOf]; omega
   ·have t0 : decide (y ≤ x) = true := by simp; omega
    have H9 : Hid (bR = false) := by rw [Hid, HE.out, HS.out, HX.out, decide_eq_false hxy]; simp
    go_wp2_with fail
    go_quiet (fail)
    go_wp2_with fail
    go_ret
    exact ⟨by rw [H9.out]; rfl, HB0.out.trans ((bDr hB _).mono HB0.out.size)⟩
  ·have H9 : Hid (bR = decide ((len : Int) ≤ 64)) := by
    rw [Hid, HE.out, HS.out, upB_end (by rw [← HN.out]; omega), Bool.and_true, ← HN.out]
    exact decide_eq_decide.2 (by omega)
   go_wp2_with fail
   go_ret
   exact ⟨by rw [H9.out]; rfl, HB0.out.trans (hB.mono HB0.out.size)⟩
set_option maxRecDepth 100000 in
set_option maxHeartbeats 1000000 in
theorem ref06_Numbers_any (a1 : Option Addr) (len1 cap1 : Nat) (l1 : List Int) (a2 : Option Addr) (len2 cap2 : Nat) (l2 : List Int) (w : World) (h1 : SlE encU 1 w.heap.size w a1 len1 l1) (h2 : SlE encU 1 w.heap.size w a2 len2 l2) (hm : len1 ≤ maxLen) :
  Calls Tryz.prog 41 #[.slice a1 len1 cap1, .slice a2 len2 cap2] w fun e w' => e = .returned (.bool (l1 == l2)) ∧ Below w.heap.size w w' := by
 have e1 := h1.1
 have e2 := h2.1
 unfold maxLen at hm
 by_cases hl : len1 = len2
 ·subst hl
  have t0 : ((len1 : Int) != (len1 : Int)) = false := by simp
  have E1 := Lib.hid e1
  have E2 := Lib.hid e2
  clear e1 e2
  go_enter Tryz.func41, Tryz.ntmps41
  go_wp2_with fail
  go_loopw [5] (fun i wr => ∃ (k : Nat), i = .int .i64 k ∧ k ≤ len1 ∧ Below w.heap.size w wr ∧ Hid (l1.take k = l2.take k)) (fun i _ => len1 - (intOf i).toNat)
  case atStart => exact ⟨0, rfl, Nat.zero_le _, Below.refl _ _, rfl⟩
  case round =>
   obtain ⟨k, rfl, hk, hB, HF⟩ := hrel
   by_cases hlt : k < len1
   ·obtain ⟨x, b1, o1, hx, ea1, hb1, hc1⟩ := (h1.below hB).at hlt
    obtain ⟨y, b2, o2, hy, ea2, hb2, hc2⟩ := (h2.below hB).at hlt
    subst ea1; subst ea2
    have p0 : wr.cell? ⟨b1, o1 + k * 1 + 0, none⟩ = some (.int .u64 x) := hc1 0 (by omega)
    have q0 : wr.cell? ⟨b2, o2 + k * 1 + 0, none⟩ = some (.int .u64 y) := hc2 0 (by omega)
    simp only [Nat.mul_one, Nat.add_zero] at p0 q0
    have i0 : (0 : Int) ≤ (k : Int) := by omega
    have i1 : (k : Int) < (len1 : Int) := by omega
    have HX := Lib.hid hx
    have HY := Lib.hid hy
    clear hc1 hc2 hx hy h1 h2
    by_cases hxy : x = y
    ·have n1 : (x != y) = false := by simp [hxy]
     have HXY : Hid (x = y) := hxy
     clear hxy
     go_wp2_with fail
     go_quiet (fail)
     go_wp2_with fail
     go_roundw
     case rel => exact ⟨k + 1, by go_num, by omega, bDr hB _, by rw [Hid, take_snoc' HX.out, take_snoc' HY.out, HF.out, HXY.out]⟩
     case measure => simp [intOf]; omega
    ·have n1 : (x != y) = true := by simp [hxy]
     have HXY : Hid (¬ x = y) := hxy
     clear hxy
     go_wp2_with fail
     go_quiet (fail)
     go_wp2_with fail
     go_ret
     have hne : (l1 == l2) = false := by
      rw [beq_eq_false_iff_ne]
      intro e
      have hx := HX.out
      rw [e, HY.out] at hx
      exact HXY.out (Option.some.inj hx).symm
     exact ⟨by rw [hne]; rfl, bDr hB _⟩
   ·obtain rfl : k = len1 := by omega
    clear h1 h2
    go_wp2_with fail
    go_ret
    have h9 := HF.out
    rw [List.take_of_length_le (by rw [← E1.out]; omega), List.take_of_length_le (by rw [← E2.out]; omega)] at h9
    exact ⟨by rw [h9]; simp, hB⟩
 ·have t0 : ((len1 : Int) != (len2 : Int)) = true := by rw [bne_iff_ne]; omega
  have hne : Hid ((l1 == l2) = false) := by
   rw [Hid, beq_eq_false_iff_ne]
   intro e
   rw [e] at e1
   omega
  clear e1 e2
  go_enter Tryz.func41, Tryz.ntmps41
  go_wp2_with fail
  go_ret
  exact ⟨by rw [hne.out]; rfl, Below.refl _ _⟩
end Go.Proofs.YtcbbenncdainfaaGreatDoor

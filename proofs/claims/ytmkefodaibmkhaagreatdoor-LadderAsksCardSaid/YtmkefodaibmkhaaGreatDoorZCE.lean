/- Package cms: New, begin, Add, Lower. Package cms: Add, Lower. -/
import Derived.Test.YtmkefodaibmkhaaGreatDoorZCC
namespace Go.Proofs.YtmkefodaibmkhaaGreatDoor
open Go Go.RowKit Go.Shelf

theorem casNil (w : World) : (Instr.typeAssert .nilIface 70 198 true).run Tryz.prog w = .ok (.tuple #[.agg #[.string ⟨#[]⟩], .bool false]) w := by kernel_rfl
theorem cerrno_nil (w : World) : Calls Tryz.prog 98 #[.nilIface] w fun e w' => e = .returned (.int .i64 0) ∧ Below w.heap.size w w' := by
  have h := casNil w
  go_enter Tryz.func98, Tryz.ntmps98
  go_wp2
  go_ret
  exact ⟨rfl, (Below.refl _ w).alloc (Nat.le_refl _) _⟩
theorem flat_map (l : List Int) : l.flatMap encU = l.map (Value.int .u64) := by
  induction l with
  | nil => rfl
  | cons x l ih => rw [List.flatMap_cons, ih]; rfl
theorem make_nums (w : World) (len : Nat) (h : len ≤ 1000) : ∃ w1, (Instr.makeSlice 25 (.int .i64 (len : Int)) (.int .i64 (len : Int))).run Tryz.prog w = .ok (.slice (some ⟨w.heap.size, 0, none⟩) len len) w1 ∧ NumsAt w1 w.heap.size (List.replicate len 0) ∧ Below w.heap.size w w1 ∧ w1.heap.size = w.heap.size + 1 := by
  obtain ⟨i, hi, hz, hsize, hby⟩ := info_parts info_u64
  have hr := run_makeSlice (P := Tryz.prog) (w := w) 25 50 i _ und_u64 hi hz .i64 .i64 (len : Int) (len : Int) (by omega) (Int.le_refl _) (by rw [hsize]; omega) (by rw [hby]; omega) (by omega)
  rw [Int.toNat_natCast] at hr
  refine ⟨_, hr, ?_, (Below.refl _ w).alloc (Nat.le_refl _) _, by simp⟩
  have e : madeCells (Value.int .u64 0).cells (len * i.size) = ((List.replicate len (0 : Int)).map (Value.int .u64)).toArray := by
    rw [hsize, Nat.mul_one]
    apply Array.ext
    · rw [size_madeCells]; simp
    · intro j h1 h2
      simp [madeCells, Value.cells, Nat.mod_one]
  rw [e]
  exact World.alloc_heap_new _ _
set_option maxRecDepth 100000 in
set_option maxHeartbeats 1000000 in
theorem cblank_any (c : Nat) (w : World) (hs : isShapeB 2 c = true) (h2 : c ≤ 32) :
    Calls Tryz.prog 97 #[.int .i64 2, .int .i64 c] w fun e w' => ∃ g, e = .returned (.tuple #[.agg #[.int .i64 2, .int .i64 c, .slice (some ⟨g, 0, none⟩) (2 * c) (2 * c)], .nilIface]) ∧ NumsAt w' g (List.replicate (2 * c) 0) ∧ w.heap.size ≤ g ∧ Below w.heap.size w w' := by
  have hib := fun w => isShape_any 2 c w
  rw [hs] at hib
  obtain ⟨W0, hW0, hX0, hB0, hs0⟩ := boxes1 w #[.int .i64 0, .int .i64 0, .slice none 0 0] 165
  obtain ⟨W1, hmk, hr1, hB1, hs1⟩ := make_nums W0 (2 * c) (by omega)
  have hX1 := (hB1.block _ (by omega)).trans hX0
  rw [hs0] at hmk hr1
  rw [show (((2 * c : Nat)) : Int) = 2 * (c : Int) by omega] at hmk
  have d0 : W1.cell? ⟨w.heap.size, 0, none⟩ = some (.int .i64 0) := cell_of_cells hX1 0
  have d1 : W1.cell? ⟨w.heap.size, 1, none⟩ = some (.int .i64 0) := cell_of_cells hX1 1
  have d2 : W1.cell? ⟨w.heap.size, 2, none⟩ = some (.slice none 0 0) := cell_of_cells hX1 2
  have f0 : W1.frozen? ⟨w.heap.size, 0, none⟩ = false := frozen_of_cells hX1 0
  have f1 : W1.frozen? ⟨w.heap.size, 1, none⟩ = false := frozen_of_cells hX1 1
  have f2 : W1.frozen? ⟨w.heap.size, 2, none⟩ = false := frozen_of_cells hX1 2
  have HR := Lib.hid hr1
  have hB := hB0.trans (hB1.mono hB0.size)
  have HX := Lib.hid hX1
  clear hX0 hX1 hr1 hB0 hB1 hs1 hs
  obtain ⟨W4, hW4⟩ : ∃ W4, ((W1.setCell ⟨w.heap.size, 0, none⟩ (.int .i64 2)).setCell ⟨w.heap.size, 1, none⟩ (.int .i64 c)).setCell ⟨w.heap.size, 2, none⟩ (.slice (some ⟨w.heap.size + 1, 0, none⟩) (2 * c) (2 * c)) = W4 := ⟨_, rfl⟩
  have hX4 : W4.heap[w.heap.size]? = some (.cells #[.int .i64 2, .int .i64 c, .slice (some ⟨w.heap.size + 1, 0, none⟩) (2 * c) (2 * c)] 165 (0, 0)) := by rw [← hW4]; exact heap_set_known (heap_set_known (heap_set_known HX.out _) _) _
  have hB4 : Below w.heap.size w W4 := by rw [← hW4]; exact ((hB.setCell (p := ⟨w.heap.size, 0, none⟩) (Nat.le_refl _) _).setCell (p := ⟨w.heap.size, 1, none⟩) (Nat.le_refl _) _).setCell (p := ⟨w.heap.size, 2, none⟩) (Nat.le_refl _) _
  have hr4 : NumsAt W4 (w.heap.size + 1) (List.replicate (2 * c) 0) := by
    rw [← hW4]
    exact ((HR.out.block (heap_set_other (p := ⟨w.heap.size, 0, none⟩) (by show w.heap.size ≠ _; omega) _)).block (heap_set_other (p := ⟨w.heap.size, 1, none⟩) (by show w.heap.size ≠ _; omega) _)).block (heap_set_other (p := ⟨w.heap.size, 2, none⟩) (by show w.heap.size ≠ _; omega) _)
  go_enter Tryz.func97, Tryz.ntmps97
  go_wp2_with (first | (go_at_call 121; refine (hib _).mono ?_; rintro e w' ⟨rfl, rfl⟩) | fail)
  have k0 : W4.cell? ⟨w.heap.size, 0, none⟩ = some (.int .i64 2) := cell_of_cells hX4 0
  have k1 : W4.cell? ⟨w.heap.size, 1, none⟩ = some (.int .i64 c) := cell_of_cells hX4 1
  have k2 : W4.cell? ⟨w.heap.size, 2, none⟩ = some (.slice (some ⟨w.heap.size + 1, 0, none⟩) (2 * c) (2 * c)) := cell_of_cells hX4 2
  exact bodyPost_ret (v := .tuple #[.agg #[.int .i64 2, .int .i64 c, .slice (some ⟨w.heap.size + 1, 0, none⟩) (2 * c) (2 * c)], .nilIface]) (by simp [results, Tryz.f97, go_sem, k0, k1, k2]) rfl ⟨_, rfl, hr4, Nat.le_succ _, hB4⟩
set_option maxRecDepth 100000 in
set_option maxHeartbeats 1000000 in
theorem cNew_any (w : World) :
    Calls Tryz.prog 63 #[.int .i64 2, .int .i64 32] w fun e w' => ∃ g, e = .returned (.tuple #[.agg #[.int .i64 2, .int .i64 32, .slice (some ⟨g, 0, none⟩) 64 64], .int .i64 0]) ∧ NumsAt w' g (List.replicate 64 0) ∧ w.heap.size ≤ g ∧ Below w.heap.size w w' := by
  have hB := fun w => cblank_any 32 w (by decide) (by omega)
  obtain ⟨W0, hW0, hX0, hB0, hs0⟩ := boxes1 w #[.int .i64 0, .int .i64 0, .slice none 0 0] 31
  have HX0 := Lib.hid hX0
  clear hX0
  go_enter Tryz.func63, Tryz.ntmps63
  go_wp2_with fail
  refine (hB _).mono ?_
  rintro e w1 ⟨g, rfl, hr1, hg1, hb1⟩
  obtain ⟨W2, hW2, hX2, hB2, hs2⟩ := boxes1 w1 #[.int .i64 2, .int .i64 32, .slice (some ⟨g, 0, none⟩) 64 64] 165
  have hgl := hr1.lt
  have hB12 : Below w.heap.size w W2.drew := ((hB0.trans (hb1.mono hB0.size)).trans (hB2.mono (by have := hb1.size; omega))).drew
  have hXR : W2.drew.heap[w.heap.size]? = some (.cells #[.int .i64 0, .int .i64 0, .slice none 0 0] 31 (0, 0)) := known (hb1.trans (hB2.drew.mono hb1.size)) (Nat.le_refl _) HX0.out
  have hXB : W2.drew.heap[w1.heap.size]? = some (.cells #[.int .i64 2, .int .i64 32, .slice (some ⟨g, 0, none⟩) 64 64] 165 (0, 0)) := hX2
  have HXB := Lib.hid hXB
  have HXR := Lib.hid hXR
  have c0 : W2.drew.cell? ⟨w1.heap.size, 0, none⟩ = some (.int .i64 2) := cell_of_cells hXB 0
  have c1 : W2.drew.cell? ⟨w1.heap.size, 1, none⟩ = some (.int .i64 32) := cell_of_cells hXB 1
  have c2 : W2.drew.cell? ⟨w1.heap.size, 2, none⟩ = some (.slice (some ⟨g, 0, none⟩) 64 64) := cell_of_cells hXB 2
  have o0 : W2.drew.cell? ⟨w.heap.size, 0, none⟩ = some (.int .i64 0) := cell_of_cells hXR 0
  have o1 : W2.drew.cell? ⟨w.heap.size, 1, none⟩ = some (.int .i64 0) := cell_of_cells hXR 1
  have o2 : W2.drew.cell? ⟨w.heap.size, 2, none⟩ = some (.slice none 0 0) := cell_of_cells hXR 2
  have hr2 : NumsAt W2.drew g (List.replicate 64 0) := (hr1.block (hB2.block _ hgl)).block rfl
  have hgw : w.heap.size ≠ g := by omega
  have fin : ∀ w5, Below W2.drew.heap.size W2.drew w5 → ∃ g', Ending.returned (.tuple #[.agg #[.int .i64 2, .int .i64 32, .slice (some ⟨g, 0, none⟩) 64 64], .int .i64 0]) = .returned (.tuple #[.agg #[.int .i64 2, .int .i64 32, .slice (some ⟨g', 0, none⟩) 64 64], .int .i64 0]) ∧ NumsAt (((w5.setCell ⟨w.heap.size, 0, none⟩ (.int .i64 2)).setCell ⟨w.heap.size, 1, none⟩ (.int .i64 32)).setCell ⟨w.heap.size, 2, none⟩ (.slice (some ⟨g, 0, none⟩) 64 64)) g' (List.replicate 64 0) ∧ w.heap.size ≤ g' ∧ Below w.heap.size w (((w5.setCell ⟨w.heap.size, 0, none⟩ (.int .i64 2)).setCell ⟨w.heap.size, 1, none⟩ (.int .i64 32)).setCell ⟨w.heap.size, 2, none⟩ (.slice (some ⟨g, 0, none⟩) 64 64)) := fun w5 hb5 =>
    ⟨g, rfl, (((hr2.block (hb5.block _ hr2.lt)).block (heap_set_other (p := ⟨w.heap.size, 0, none⟩) hgw _)).block (heap_set_other (p := ⟨w.heap.size, 1, none⟩) hgw _)).block (heap_set_other (p := ⟨w.heap.size, 2, none⟩) hgw _), by omega,
      (((hB12.trans (hb5.mono hB12.size)).setCell (p := ⟨w.heap.size, 0, none⟩) (Nat.le_refl _) _).setCell (p := ⟨w.heap.size, 1, none⟩) (Nat.le_refl _) _).setCell (p := ⟨w.heap.size, 2, none⟩) (Nat.le_refl _) _⟩
  clear hX2 hB2 hr1 hXB hXR hr2 hb1 hB12
  go_wp2_with fail
  refine wp_region_any (by kernel_rfl) ?_
  change wpAny _ _ _ _ _ _ _ (World.drew _)
  refine wpAny_take (i := 0) (v := ?_) rfl (by kernel_rfl) (by kernel_rfl) (by kernel_rfl) (fun _ _ _ h => h) (Or.inl ⟨by rfl, ?_⟩) ?_
  rotate_left
  · intro w; go_simp; with_reducible rfl
  refine wpAny_take (i := 2) (v := ?_) rfl (by kernel_rfl) (by kernel_rfl) (by kernel_rfl) (fun _ _ _ h => h) (Or.inl ⟨by rfl, ?_⟩) ?_
  rotate_left
  · intro w; go_simp; with_reducible rfl
  refine wpAny_ready (rs := [1, 3]) (by kernel_rfl) (by simp) ?_
  refine AllReady.cons rfl (fun K hK => ?_) ?_
  · go_simp
    refine hK _ _ ?_
    clear hK K
    refine wpAny_ready (rs := [3]) (by kernel_rfl) (by simp) ?_
    refine AllReady.cons rfl (fun K hK => ?_) ?_
    · go_simp
      refine (cerrno_nil _).mono ?_
      rintro e w5 ⟨rfl, hb5⟩
      have hX5 := known hb5 (Nat.le_refl _) HXB.out
      have hX05 := known hb5 (Nat.le_refl _) HXR.out
      have u0 : w5.cell? ⟨w1.heap.size, 0, none⟩ = some (.int .i64 2) := cell_of_cells hX5 0
      have u1 : w5.cell? ⟨w1.heap.size, 1, none⟩ = some (.int .i64 32) := cell_of_cells hX5 1
      have u2 : w5.cell? ⟨w1.heap.size, 2, none⟩ = some (.slice (some ⟨g, 0, none⟩) 64 64) := cell_of_cells hX5 2
      have v0 : w5.cell? ⟨w.heap.size, 0, none⟩ = some (.int .i64 0) := cell_of_cells hX05 0
      have v1 : w5.cell? ⟨w.heap.size, 1, none⟩ = some (.int .i64 0) := cell_of_cells hX05 1
      have v2 : w5.cell? ⟨w.heap.size, 2, none⟩ = some (.slice none 0 0) := cell_of_cells hX05 2
      have f0 : w5.frozen? ⟨w.heap.size, 0, none⟩ = false := frozen_of_cells hX05 0
      have f1 : w5.frozen? ⟨w.heap.size, 1, none⟩ = false := frozen_of_cells hX05 1
      have f2 : w5.frozen? ⟨w.heap.size, 2, none⟩ = false := frozen_of_cells hX05 2
      refine hK _ _ ?_
      clear hK K hX5
      refine wpAny_ready (rs := [4]) (by kernel_rfl) (by simp) ?_
      refine AllReady.cons rfl (fun K hK => ?_) ?_
      · go_simp
        refine hK _ _ ?_
        clear hK K
        refine wpAny_take (i := 5) (v := ?_) rfl (by kernel_rfl) (by kernel_rfl) (by kernel_rfl) (fun _ _ _ h => h) (Or.inl ⟨by rfl, ?_⟩) ?_
        rotate_left
        · intro w; go_simp; with_reducible rfl
        refine wpAny_done (by kernel_rfl) ?_ _
        go_wp2_with fail
        refine bodyPost_ret (v := .tuple #[.agg #[.int .i64 2, .int .i64 32, .slice (some ⟨g, 0, none⟩) 64 64], .int .i64 0]) ?_ rfl (fin w5 hb5)
        have hX6 := set_cells3 (u := .int .i64 2) (v := .int .i64 32) (q := .slice (some ⟨g, 0, none⟩) 64 64) hX05
        have k0 := cell_of_cells hX6 0
        have k1 := cell_of_cells hX6 1
        have k2 := cell_of_cells hX6 2
        simp at k0 k1 k2
        simp [results, Tryz.f63, go_sem, k0, k1, k2]
      exact AllReady.nil
    exact AllReady.nil
  refine AllReady.cons rfl (fun K hK => ?_) ?_
  · go_simp
    refine (cerrno_nil _).mono ?_
    rintro e w5 ⟨rfl, hb5⟩
    have hX5 := known hb5 (Nat.le_refl _) HXB.out
    have hX05 := known hb5 (Nat.le_refl _) HXR.out
    have u0 : w5.cell? ⟨w1.heap.size, 0, none⟩ = some (.int .i64 2) := cell_of_cells hX5 0
    have u1 : w5.cell? ⟨w1.heap.size, 1, none⟩ = some (.int .i64 32) := cell_of_cells hX5 1
    have u2 : w5.cell? ⟨w1.heap.size, 2, none⟩ = some (.slice (some ⟨g, 0, none⟩) 64 64) := cell_of_cells hX5 2
    have v0 : w5.cell? ⟨w.heap.size, 0, none⟩ = some (.int .i64 0) := cell_of_cells hX05 0
    have v1 : w5.cell? ⟨w.heap.size, 1, none⟩ = some (.int .i64 0) := cell_of_cells hX05 1
    have v2 : w5.cell? ⟨w.heap.size, 2, none⟩ = some (.slice none 0 0) := cell_of_cells hX05 2
    have f0 : w5.frozen? ⟨w.heap.size, 0, none⟩ = false := frozen_of_cells hX05 0
    have f1 : w5.frozen? ⟨w.heap.size, 1, none⟩ = false := frozen_of_cells hX05 1
    have f2 : w5.frozen? ⟨w.heap.size, 2, none⟩ = false := frozen_of_cells hX05 2
    refine hK _ _ ?_
    clear hK K hX5
    refine wpAny_ready (rs := [1]) (by kernel_rfl) (by simp) ?_
    refine AllReady.cons rfl (fun K hK => ?_) ?_
    · go_simp
      refine hK _ _ ?_
      clear hK K
      refine wpAny_ready (rs := [4]) (by kernel_rfl) (by simp) ?_
      refine AllReady.cons rfl (fun K hK => ?_) ?_
      · go_simp
        refine hK _ _ ?_
        clear hK K
        refine wpAny_take (i := 5) (v := ?_) rfl (by kernel_rfl) (by kernel_rfl) (by kernel_rfl) (fun _ _ _ h => h) (Or.inl ⟨by rfl, ?_⟩) ?_
        rotate_left
        · intro w; go_simp; with_reducible rfl
        refine wpAny_done (by kernel_rfl) ?_ _
        go_wp2_with fail
        refine bodyPost_ret (v := .tuple #[.agg #[.int .i64 2, .int .i64 32, .slice (some ⟨g, 0, none⟩) 64 64], .int .i64 0]) ?_ rfl (fin w5 hb5)
        have hX6 := set_cells3 (u := .int .i64 2) (v := .int .i64 32) (q := .slice (some ⟨g, 0, none⟩) 64 64) hX05
        have k0 := cell_of_cells hX6 0
        have k1 := cell_of_cells hX6 1
        have k2 := cell_of_cells hX6 2
        simp at k0 k1 k2
        simp [results, Tryz.f63, go_sem, k0, k1, k2]
      exact AllReady.nil
    exact AllReady.nil
  exact AllReady.nil
set_option maxRecDepth 100000 in
set_option maxHeartbeats 1000000 in
theorem cbegin_any (c : Nat) (l : List Int) (a : Option Addr) (len cap : Nat) (w : World) (hs : isShapeB 2 c = true) (h2 : c ≤ 32) (hL : SlE encU 1 w.heap.size w a len l) (hl : l.length = 2 * c) (hn : a = none → len = 0) :
    Calls Tryz.prog 214 #[.agg #[.int .i64 2, .int .i64 c, .slice a len cap]] w fun e w' => ∃ g, e = .returned (.tuple #[.agg #[.int .i64 2, .int .i64 c, .slice (some ⟨g, 0, none⟩) (2 * c) (2 * c)], .nilIface]) ∧ NumsAt w' g l ∧ w.heap.size ≤ g ∧ Below w.heap.size w w' := by
  have hR : Hid (∀ w1, Calls Tryz.prog 128 #[.agg #[.int .i64 2, .int .i64 c, .slice a len cap]] w1 fun e w' => e = .returned (.bool true) ∧ Below w1.heap.size w1 w') := fun w1 => (cms_Right_any 2 c l a len cap w1 hL.1).mono fun e w' h => ⟨by rw [h.1]; simp [cmRight, hs, hl], h.2⟩
  have hB := fun w => cblank_any c w hs h2
  obtain ⟨W0, hW0, hXp, hX0, hB0, hs0⟩ := boxes2 w #[.int .i64 2, .int .i64 c, .slice a len cap] 31 #[.int .i64 0, .int .i64 0, .slice none 0 0] 165
  have HX0 := Lib.hid hX0
  have HXP := Lib.hid hXp
  have z0 : W0.cell? ⟨w.heap.size, 0, none⟩ = some (.int .i64 2) := cell_of_cells hXp 0
  have z1 : W0.cell? ⟨w.heap.size, 1, none⟩ = some (.int .i64 c) := cell_of_cells hXp 1
  have z2 : W0.cell? ⟨w.heap.size, 2, none⟩ = some (.slice a len cap) := cell_of_cells hXp 2
  have HL := Lib.hid hL
  have HLN := Lib.hid hl
  have HNN := Lib.hid hn
  clear hX0 hXp hL hl hs hn
  go_enter Tryz.func214, Tryz.ntmps214
  go_wp2_with fail
  refine (hR.out _).mono ?_
  rintro e w1 ⟨rfl, hb1⟩
  have hXp1 := known hb1 (Nat.le_refl _) HXP.out
  have y0 : w1.cell? ⟨w.heap.size, 0, none⟩ = some (.int .i64 2) := cell_of_cells hXp1 0
  have y1 : w1.cell? ⟨w.heap.size, 1, none⟩ = some (.int .i64 c) := cell_of_cells hXp1 1
  have y2 : w1.cell? ⟨w.heap.size, 2, none⟩ = some (.slice a len cap) := cell_of_cells hXp1 2
  go_wp2_with fail
  refine (hB _).mono ?_
  rintro e w2 ⟨g, rfl, hr2, hg2, hb2⟩
  obtain ⟨W2, hW2, hX2, hB2, hs2⟩ := boxes1 w2 #[.int .i64 2, .int .i64 c, .slice (some ⟨g, 0, none⟩) (2 * c) (2 * c)] 165
  have hgl := hr2.lt
  have hB02 : Below w.heap.size w w2 := (hB0.trans (hb1.mono hB0.size)).trans (hb2.mono (by have := hb1.size; omega))
  have hB12 : Below w.heap.size w W2 := hB02.trans (hB2.mono hB02.size)
  have hXp2 := known (hb2.trans (hB2.mono hb2.size)) (Nat.le_refl _) hXp1
  have hXr2 := known (hb2.trans (hB2.mono hb2.size)) (Nat.le_refl _) (known hb1 (Nat.le_refl _) HX0.out)
  have hr3 : NumsAt W2 g (List.replicate (2 * c) 0) := hr2.block (hB2.block _ hgl)
  have hlen : len = 2 * c := by rw [HL.out.1, HLN.out]
  subst hlen
  obtain ⟨W3, hcp, hX3, hB3, hs3, hk3⟩ := copy_u64 (cap := cap) hr3 (by simp) (HL.out.below hB12) HNN.out
  rw [flat_map] at hX3
  have hXw := (hk3 w2.heap.size (by omega)).trans hX2
  have hXr3 := (hk3 (w.heap.size + 1) (by have := hb1.size; omega)).trans hXr2
  have q0 : W2.cell? ⟨w.heap.size, 0, none⟩ = some (.int .i64 2) := cell_of_cells hXp2 0
  have q1 : W2.cell? ⟨w.heap.size, 1, none⟩ = some (.int .i64 c) := cell_of_cells hXp2 1
  have q2 : W2.cell? ⟨w.heap.size, 2, none⟩ = some (.slice a (2 * c) cap) := cell_of_cells hXp2 2
  have s0 : W2.cell? ⟨w2.heap.size, 0, none⟩ = some (.int .i64 2) := cell_of_cells hX2 0
  have s1 : W2.cell? ⟨w2.heap.size, 1, none⟩ = some (.int .i64 c) := cell_of_cells hX2 1
  have s2 : W2.cell? ⟨w2.heap.size, 2, none⟩ = some (.slice (some ⟨g, 0, none⟩) (2 * c) (2 * c)) := cell_of_cells hX2 2
  have t0 : W3.cell? ⟨w2.heap.size, 0, none⟩ = some (.int .i64 2) := cell_of_cells hXw 0
  have t1 : W3.cell? ⟨w2.heap.size, 1, none⟩ = some (.int .i64 c) := cell_of_cells hXw 1
  have t2 : W3.cell? ⟨w2.heap.size, 2, none⟩ = some (.slice (some ⟨g, 0, none⟩) (2 * c) (2 * c)) := cell_of_cells hXw 2
  have o0 : W3.cell? ⟨w.heap.size + 1, 0, none⟩ = some (.int .i64 0) := cell_of_cells hXr3 0
  have o1 : W3.cell? ⟨w.heap.size + 1, 1, none⟩ = some (.int .i64 0) := cell_of_cells hXr3 1
  have o2 : W3.cell? ⟨w.heap.size + 1, 2, none⟩ = some (.slice none 0 0) := cell_of_cells hXr3 2
  have f0 : W3.frozen? ⟨w.heap.size + 1, 0, none⟩ = false := frozen_of_cells hXr3 0
  have f1 : W3.frozen? ⟨w.heap.size + 1, 1, none⟩ = false := frozen_of_cells hXr3 1
  have f2 : W3.frozen? ⟨w.heap.size + 1, 2, none⟩ = false := frozen_of_cells hXr3 2
  have hB13 : Below w.heap.size w W3 := hB12.trans (hB3.mono (by have := hb1.size; omega))
  have hX6 := set_cells3 (u := .int .i64 2) (v := .int .i64 c) (q := .slice (some ⟨g, 0, none⟩) (2 * c) (2 * c)) hXr3
  have hgw : w.heap.size + 1 ≠ g := by have := hb1.size; omega
  have hN3 : NumsAt (((W3.setCell ⟨w.heap.size + 1, 0, none⟩ (.int .i64 2)).setCell ⟨w.heap.size + 1, 1, none⟩ (.int .i64 c)).setCell ⟨w.heap.size + 1, 2, none⟩ (.slice (some ⟨g, 0, none⟩) (2 * c) (2 * c))) g l :=
    ((NumsAt.block (W := W3) hX3 (heap_set_other (p := ⟨w.heap.size + 1, 0, none⟩) hgw _)).block (heap_set_other (p := ⟨w.heap.size + 1, 1, none⟩) hgw _)).block (heap_set_other (p := ⟨w.heap.size + 1, 2, none⟩) hgw _)
  have hB6 := ((hB13.setCell (p := ⟨w.heap.size + 1, 0, none⟩) (Nat.le_succ _) (.int .i64 2)).setCell (p := ⟨w.heap.size + 1, 1, none⟩) (Nat.le_succ _) (.int .i64 c)).setCell (p := ⟨w.heap.size + 1, 2, none⟩) (Nat.le_succ _) (.slice (some ⟨g, 0, none⟩) (2 * c) (2 * c))
  have hg9 : w.heap.size ≤ g := by have := hb1.size; omega
  clear hX2 hX3 hXp2 hXr2 hr2 hr3 hB2 hb1 hb2 hB3 hB12 hB02 hB13 hk3 hXw hXr3
  go_wp2_with fail
  generalize ((W3.setCell ⟨w.heap.size + 1, 0, none⟩ (.int .i64 2)).setCell ⟨w.heap.size + 1, 1, none⟩ (.int .i64 c)).setCell ⟨w.heap.size + 1, 2, none⟩ (.slice (some ⟨g, 0, none⟩) (2 * c) (2 * c)) = V at hX6 hN3 hB6 ⊢
  have k0 : V.cell? ⟨w.heap.size + 1, 0, none⟩ = some (.int .i64 2) := cell_of_cells hX6 0
  have k1 : V.cell? ⟨w.heap.size + 1, 1, none⟩ = some (.int .i64 c) := cell_of_cells hX6 1
  have k2 : V.cell? ⟨w.heap.size + 1, 2, none⟩ = some (.slice (some ⟨g, 0, none⟩) (2 * c) (2 * c)) := cell_of_cells hX6 2
  exact bodyPost_ret (v := .tuple #[.agg #[.int .i64 2, .int .i64 c, .slice (some ⟨g, 0, none⟩) (2 * c) (2 * c)], .nilIface]) (by simp [results, Tryz.f214, go_sem, k0, k1, k2]) rfl ⟨g, rfl, hN3, hg9, hB6⟩
end Go.Proofs.YtmkefodaibmkhaaGreatDoor
namespace Go.Proofs.YtmkefodaibmkhaaGreatDoor
open Go Go.RowKit Go.Shelf

set_option maxRecDepth 100000 in
set_option maxHeartbeats 1000000 in
theorem cAdd_any (c h : Nat) (n : Int) (l : List Int) (a : Option Addr) (len cap : Nat) (w : World) (hs : isShapeB 2 c = true) (hc : 0 < c) (h2 : c ≤ 32) (hh : h < 2 ^ 64) (hu : U64 n) (hL : SlE encU 1 w.heap.size w a len l) (hl : l.length = 2 * c) (hlu : U64s l) (hn : a = none → len = 0) :
    Calls Tryz.prog 210 #[.agg #[.int .i64 2, .int .i64 c, .slice a len cap], .int .u64 h, .int .u64 n] w fun e w' => ∃ g, e = .returned (.tuple #[.agg #[.int .i64 2, .int .i64 c, .slice (some ⟨g, 0, none⟩) (2 * c) (2 * c)], .int .i64 0]) ∧ NumsAt w' g (cmAdd c l h n) ∧ w.heap.size ≤ g ∧ Below w.heap.size w w' := by
  have hB : Hid (∀ w1, Below w.heap.size w w1 → Calls Tryz.prog 214 #[.agg #[.int .i64 2, .int .i64 c, .slice a len cap]] w1 fun e w' => ∃ g, e = .returned (.tuple #[.agg #[.int .i64 2, .int .i64 c, .slice (some ⟨g, 0, none⟩) (2 * c) (2 * c)], .nilIface]) ∧ NumsAt w' g l ∧ w1.heap.size ≤ g ∧ Below w1.heap.size w1 w') := fun w1 hb => cbegin_any c l a len cap w1 hs h2 ((hL.below hb).mono hb.size) hl hn
  have HCC : Hid (0 < c ∧ c ≤ 32 ∧ h < 2 ^ 64 ∧ U64 n ∧ l.length = 2 * c ∧ U64s l) := ⟨hc, h2, hh, hu, hl, hlu⟩
  clear hL hl hlu hs hn hu
  obtain ⟨W0, hW0, hXp, hXn, hXr, hB0, hs0⟩ := boxes3 w #[.int .i64 2, .int .i64 c, .slice a len cap] 31 #[.int .u64 n] 50 #[.int .i64 0, .int .i64 0, .slice none 0 0] 31
  have HXN := Lib.hid hXn
  have HXR := Lib.hid hXr
  have x0 : W0.cell? ⟨w.heap.size, 0, none⟩ = some (.int .i64 2) := cell_of_cells hXp 0
  have x1 : W0.cell? ⟨w.heap.size, 1, none⟩ = some (.int .i64 c) := cell_of_cells hXp 1
  have x2 : W0.cell? ⟨w.heap.size, 2, none⟩ = some (.slice a len cap) := cell_of_cells hXp 2
  clear hXp hXn hXr
  go_enter Tryz.func210, Tryz.ntmps210
  go_wp2_with fail
  refine (hB.out _ hB0).mono ?_
  rintro e w1 ⟨g, rfl, hr1, hg1, hb1⟩
  obtain ⟨W2, hW2, hX2, hB2, hs2⟩ := boxes1 w1 #[.int .i64 2, .int .i64 c, .slice (some ⟨g, 0, none⟩) (2 * c) (2 * c)] 165
  obtain ⟨W5, hW5, hY5, hZ5, hB5, hs5⟩ := boxes2 W2.drew #[.int .i64 2, .int .i64 c, .slice (some ⟨g, 0, none⟩) (2 * c) (2 * c)] 165 #[.int .u64 h] 50
  have hzd : W2.drew.heap.size = w1.heap.size + 1 := hs2
  rw [hzd] at hY5 hZ5 hB5 hs5
  have hgl := hr1.lt
  have hb1s := hb1.size
  have hB15 : Below w1.heap.size w1 W5 := hB2.drew.trans (hB5.mono (by omega))
  have hr5 : NumsAt W5 g l := hr1.block (hB15.block _ hgl)
  have hX5 : W5.heap[w1.heap.size]? = some (.cells #[.int .i64 2, .int .i64 c, .slice (some ⟨g, 0, none⟩) (2 * c) (2 * c)] 165 (0, 0)) := (hB5.block _ (by omega)).trans (show W2.drew.heap[w1.heap.size]? = _ from hX2)
  have hN5 : W5.heap[w.heap.size + 1]? = some (.cells #[.int .u64 n] 50 (0, 0)) := known (hb1.trans (hB15.mono hb1s)) (Nat.le_refl _) HXN.out
  have hR5 : W5.heap[w.heap.size + 2]? = some (.cells #[.int .i64 0, .int .i64 0, .slice none 0 0] 31 (0, 0)) := known (hb1.trans (hB15.mono hb1s)) (Nat.le_refl _) HXR.out
  have hCH := change_add (fun _ x => satI x n) c h (w.heap.size + 1) (w1.heap.size + 1) (w1.heap.size + 2) g (2 * c) (2 * c) 2 (.slice (some ⟨g, 0, none⟩) (2 * c) (2 * c)) l W5 HCC.out.1 HCC.out.2.1 HCC.out.2.2.1 hY5 hZ5 hr5 HCC.out.2.2.2.2.1 HCC.out.2.2.2.2.2 (by intro k hk; simp at hk; omega)
    (fun W p x hG hx => addF_any (w.heap.size + 1) p.1 x n W (cell_of_cells ((hG.block _ (Array.getElem?_eq_some_iff.1 hN5).1 (fun e => by cases e; omega)).trans hN5) 0) hx HCC.out.2.2.2.1) (fun p x hx => satI_u64 x n hx HCC.out.2.2.2.1) (fun p => p.2)
  have hB05 : Below w.heap.size w W5 := (hB0.trans (hb1.mono (by omega))).trans (hB15.mono (by omega))
  have HW5 := Lib.hid hW5
  have HX5 := Lib.hid hX5
  have HR5 := Lib.hid hR5
  have HB05 := Lib.hid hB05
  have hXd : W2.drew.heap[w1.heap.size]? = some (.cells #[.int .i64 2, .int .i64 c, .slice (some ⟨g, 0, none⟩) (2 * c) (2 * c)] 165 (0, 0)) := hX2
  have c0 : W2.drew.cell? ⟨w1.heap.size, 0, none⟩ = some (.int .i64 2) := cell_of_cells hXd 0
  have c1 : W2.drew.cell? ⟨w1.heap.size, 1, none⟩ = some (.int .i64 c) := cell_of_cells hXd 1
  have c2 : W2.drew.cell? ⟨w1.heap.size, 2, none⟩ = some (.slice (some ⟨g, 0, none⟩) (2 * c) (2 * c)) := cell_of_cells hXd 2
  have y0 : W5.cell? ⟨w1.heap.size, 0, none⟩ = some (.int .i64 2) := cell_of_cells hX5 0
  have y1 : W5.cell? ⟨w1.heap.size, 1, none⟩ = some (.int .i64 c) := cell_of_cells hX5 1
  have y2 : W5.cell? ⟨w1.heap.size, 2, none⟩ = some (.slice (some ⟨g, 0, none⟩) (2 * c) (2 * c)) := cell_of_cells hX5 2
  have hgw : w.heap.size + 2 < g := by omega
  clear hW5 hX2 hXd hX5 hR5 hN5 hY5 hZ5 hB2 hB5 hB15 hB05 hr1 hr5 hb1
  have fin : ∀ w6, NumsAt w6 g (cmAdd c l h n) → W5.grownBy w6 (some g) → ∃ V, ((w6.setCell ⟨w.heap.size + 1 + 1, 0, none⟩ (.int .i64 2)).setCell ⟨w.heap.size + 1 + 1, 1, none⟩ (.int .i64 c)).setCell ⟨w.heap.size + 1 + 1, 2, none⟩ (.slice (some ⟨g, 0, none⟩) (2 * c) (2 * c)) = V ∧ V.heap[w.heap.size + 1 + 1]? = some (.cells #[.int .i64 2, .int .i64 c, .slice (some ⟨g, 0, none⟩) (2 * c) (2 * c)] 31 (0, 0)) ∧ NumsAt V g (cmAdd c l h n) ∧ Below w.heap.size w V := fun w6 hN6 hG6 => by
    have hR6 := (hG6.block _ (Array.getElem?_eq_some_iff.1 HR5.out).1 (fun e => by cases e; omega)).trans HR5.out
    have hne : w.heap.size + 1 + 1 ≠ g := by omega
    refine ⟨_, rfl, set_cells3 hR6, ((hN6.block (heap_set_other (p := ⟨w.heap.size + 1 + 1, 0, none⟩) hne _)).block (heap_set_other (p := ⟨w.heap.size + 1 + 1, 1, none⟩) hne _)).block (heap_set_other (p := ⟨w.heap.size + 1 + 1, 2, none⟩) hne _), ?_⟩
    exact (((HB05.out.grown hG6 HB05.out.size (fun k e => by cases e; omega)).setCell (p := ⟨w.heap.size + 1 + 1, 0, none⟩) (by show _ ≤ _ + 1 + 1; omega) _).setCell (p := ⟨w.heap.size + 1 + 1, 1, none⟩) (by show _ ≤ _ + 1 + 1; omega) _).setCell (p := ⟨w.heap.size + 1 + 1, 2, none⟩) (by show _ ≤ _ + 1 + 1; omega) _
  go_wp2_with fail
  refine wp_region_any (by kernel_rfl) ?_
  change wpAny _ _ _ _ _ _ _ (World.drew _)
  refine wpAny_take (i := 2) (v := ?_) rfl (by kernel_rfl) (by kernel_rfl) (by kernel_rfl) (fun _ _ _ h => h) (Or.inl ⟨by rfl, ?_⟩) ?_
  rotate_left
  · intro w; go_simp; with_reducible rfl
  refine wpAny_take (i := 4) (v := ?_) rfl (by kernel_rfl) (by kernel_rfl) (by kernel_rfl) (fun _ _ _ h => h) (Or.inl ⟨by rfl, ?_⟩) ?_
  rotate_left
  · intro w; go_simp; with_reducible rfl
  refine wpAny_ready (rs := [0, 1]) (by kernel_rfl) (by simp) ?_
  refine AllReady.cons rfl (fun K hK => ?_) ?_
  · go_simp
    refine hK _ _ ?_
    clear hK K
    refine wpAny_ready (rs := [1]) (by kernel_rfl) (by simp) ?_
    refine AllReady.cons rfl (fun K hK => ?_) ?_
    · go_simp
      refine hK _ _ ?_
      clear hK K
      refine wpAny_ready (rs := [3]) (by kernel_rfl) (by simp) ?_
      refine AllReady.cons rfl (fun K hK => ?_) ?_
      · go_simp
        refine (told_any 2 c (.slice (some ⟨g, 0, none⟩) (2 * c) (2 * c)) h _).mono ?_
        rintro e w5 ⟨rfl, rfl⟩
        rw [HW5.out]
        refine hK _ _ ?_
        clear hK K
        refine wpAny_ready (rs := [5]) (by kernel_rfl) (by simp) ?_
        refine AllReady.cons rfl (fun K hK => ?_) ?_
        · go_simp
          refine hCH.mono ?_
          rintro e w6 ⟨rfl, hN6, hG6⟩
          refine hK _ _ ?_
          clear hK K
          refine wpAny_done (by kernel_rfl) ?_ _
          have hX6 := (hG6.block _ (Array.getElem?_eq_some_iff.1 HX5.out).1 (fun e => by cases e; omega)).trans HX5.out
          have hR6 : w6.heap[w.heap.size + 1 + 1]? = _ := (hG6.block _ (Array.getElem?_eq_some_iff.1 HR5.out).1 (fun e => by cases e; omega)).trans HR5.out
          have z0 : w6.cell? ⟨w1.heap.size, 0, none⟩ = some (.int .i64 2) := cell_of_cells hX6 0
          have z1 : w6.cell? ⟨w1.heap.size, 1, none⟩ = some (.int .i64 c) := cell_of_cells hX6 1
          have z2 : w6.cell? ⟨w1.heap.size, 2, none⟩ = some (.slice (some ⟨g, 0, none⟩) (2 * c) (2 * c)) := cell_of_cells hX6 2
          have v0 : w6.cell? ⟨w.heap.size + 1 + 1, 0, none⟩ = some (.int .i64 0) := cell_of_cells hR6 0
          have v1 : w6.cell? ⟨w.heap.size + 1 + 1, 1, none⟩ = some (.int .i64 0) := cell_of_cells hR6 1
          have v2 : w6.cell? ⟨w.heap.size + 1 + 1, 2, none⟩ = some (.slice none 0 0) := cell_of_cells hR6 2
          have f0 : w6.frozen? ⟨w.heap.size + 1 + 1, 0, none⟩ = false := frozen_of_cells hR6 0
          have f1 : w6.frozen? ⟨w.heap.size + 1 + 1, 1, none⟩ = false := frozen_of_cells hR6 1
          have f2 : w6.frozen? ⟨w.heap.size + 1 + 1, 2, none⟩ = false := frozen_of_cells hR6 2
          obtain ⟨V, hV, hXV, hNV, hBV⟩ := fin w6 hN6 hG6
          clear fin hX6 hR6 hN6 hG6 hCH
          go_wp2_with fail
          have k0 := cell_of_cells hXV 0
          have k1 := cell_of_cells hXV 1
          have k2 := cell_of_cells hXV 2
          simp at k0 k1 k2
          exact bodyPost_ret (v := .tuple #[.agg #[.int .i64 2, .int .i64 c, .slice (some ⟨g, 0, none⟩) (2 * c) (2 * c)], .int .i64 0]) (by simp [results, Tryz.f210, go_sem, k0, k1, k2]) rfl ⟨g, rfl, hNV, by omega, hBV⟩
        exact AllReady.nil
      exact AllReady.nil
    exact AllReady.nil
  refine AllReady.cons rfl (fun K hK => ?_) ?_
  · go_simp
    refine hK _ _ ?_
    clear hK K
    refine wpAny_ready (rs := [0, 3]) (by kernel_rfl) (by simp) ?_
    refine AllReady.cons rfl (fun K hK => ?_) ?_
    · go_simp
      refine hK _ _ ?_
      clear hK K
      refine wpAny_ready (rs := [3]) (by kernel_rfl) (by simp) ?_
      refine AllReady.cons rfl (fun K hK => ?_) ?_
      · go_simp
        refine (told_any 2 c (.slice (some ⟨g, 0, none⟩) (2 * c) (2 * c)) h _).mono ?_
        rintro e w5 ⟨rfl, rfl⟩
        rw [HW5.out]
        refine hK _ _ ?_
        clear hK K
        refine wpAny_ready (rs := [5]) (by kernel_rfl) (by simp) ?_
        refine AllReady.cons rfl (fun K hK => ?_) ?_
        · go_simp
          refine hCH.mono ?_
          rintro e w6 ⟨rfl, hN6, hG6⟩
          refine hK _ _ ?_
          clear hK K
          refine wpAny_done (by kernel_rfl) ?_ _
          have hX6 := (hG6.block _ (Array.getElem?_eq_some_iff.1 HX5.out).1 (fun e => by cases e; omega)).trans HX5.out
          have hR6 : w6.heap[w.heap.size + 1 + 1]? = _ := (hG6.block _ (Array.getElem?_eq_some_iff.1 HR5.out).1 (fun e => by cases e; omega)).trans HR5.out
          have z0 : w6.cell? ⟨w1.heap.size, 0, none⟩ = some (.int .i64 2) := cell_of_cells hX6 0
          have z1 : w6.cell? ⟨w1.heap.size, 1, none⟩ = some (.int .i64 c) := cell_of_cells hX6 1
          have z2 : w6.cell? ⟨w1.heap.size, 2, none⟩ = some (.slice (some ⟨g, 0, none⟩) (2 * c) (2 * c)) := cell_of_cells hX6 2
          have v0 : w6.cell? ⟨w.heap.size + 1 + 1, 0, none⟩ = some (.int .i64 0) := cell_of_cells hR6 0
          have v1 : w6.cell? ⟨w.heap.size + 1 + 1, 1, none⟩ = some (.int .i64 0) := cell_of_cells hR6 1
          have v2 : w6.cell? ⟨w.heap.size + 1 + 1, 2, none⟩ = some (.slice none 0 0) := cell_of_cells hR6 2
          have f0 : w6.frozen? ⟨w.heap.size + 1 + 1, 0, none⟩ = false := frozen_of_cells hR6 0
          have f1 : w6.frozen? ⟨w.heap.size + 1 + 1, 1, none⟩ = false := frozen_of_cells hR6 1
          have f2 : w6.frozen? ⟨w.heap.size + 1 + 1, 2, none⟩ = false := frozen_of_cells hR6 2
          obtain ⟨V, hV, hXV, hNV, hBV⟩ := fin w6 hN6 hG6
          clear fin hX6 hR6 hN6 hG6 hCH
          go_wp2_with fail
          have k0 := cell_of_cells hXV 0
          have k1 := cell_of_cells hXV 1
          have k2 := cell_of_cells hXV 2
          simp at k0 k1 k2
          exact bodyPost_ret (v := .tuple #[.agg #[.int .i64 2, .int .i64 c, .slice (some ⟨g, 0, none⟩) (2 * c) (2 * c)], .int .i64 0]) (by simp [results, Tryz.f210, go_sem, k0, k1, k2]) rfl ⟨g, rfl, hNV, by omega, hBV⟩
        exact AllReady.nil
      exact AllReady.nil
    refine AllReady.cons rfl (fun K hK => ?_) ?_
    · go_simp
      refine (told_any 2 c (.slice (some ⟨g, 0, none⟩) (2 * c) (2 * c)) h _).mono ?_
      rintro e w5 ⟨rfl, rfl⟩
      rw [HW5.out]
      refine hK _ _ ?_
      clear hK K
      refine wpAny_ready (rs := [0]) (by kernel_rfl) (by simp) ?_
      refine AllReady.cons rfl (fun K hK => ?_) ?_
      · go_simp
        refine hK _ _ ?_
        clear hK K
        refine wpAny_ready (rs := [5]) (by kernel_rfl) (by simp) ?_
        refine AllReady.cons rfl (fun K hK => ?_) ?_
        · go_simp
          refine hCH.mono ?_
          rintro e w6 ⟨rfl, hN6, hG6⟩
          refine hK _ _ ?_
          clear hK K
          refine wpAny_done (by kernel_rfl) ?_ _
          have hX6 := (hG6.block _ (Array.getElem?_eq_some_iff.1 HX5.out).1 (fun e => by cases e; omega)).trans HX5.out
          have hR6 : w6.heap[w.heap.size + 1 + 1]? = _ := (hG6.block _ (Array.getElem?_eq_some_iff.1 HR5.out).1 (fun e => by cases e; omega)).trans HR5.out
          have z0 : w6.cell? ⟨w1.heap.size, 0, none⟩ = some (.int .i64 2) := cell_of_cells hX6 0
          have z1 : w6.cell? ⟨w1.heap.size, 1, none⟩ = some (.int .i64 c) := cell_of_cells hX6 1
          have z2 : w6.cell? ⟨w1.heap.size, 2, none⟩ = some (.slice (some ⟨g, 0, none⟩) (2 * c) (2 * c)) := cell_of_cells hX6 2
          have v0 : w6.cell? ⟨w.heap.size + 1 + 1, 0, none⟩ = some (.int .i64 0) := cell_of_cells hR6 0
          have v1 : w6.cell? ⟨w.heap.size + 1 + 1, 1, none⟩ = some (.int .i64 0) := cell_of_cells hR6 1
          have v2 : w6.cell? ⟨w.heap.size + 1 + 1, 2, none⟩ = some (.slice none 0 0) := cell_of_cells hR6 2
          have f0 : w6.frozen? ⟨w.heap.size + 1 + 1, 0, none⟩ = false := frozen_of_cells hR6 0
          have f1 : w6.frozen? ⟨w.heap.size + 1 + 1, 1, none⟩ = false := frozen_of_cells hR6 1
          have f2 : w6.frozen? ⟨w.heap.size + 1 + 1, 2, none⟩ = false := frozen_of_cells hR6 2
          obtain ⟨V, hV, hXV, hNV, hBV⟩ := fin w6 hN6 hG6
          clear fin hX6 hR6 hN6 hG6 hCH
          go_wp2_with fail
          have k0 := cell_of_cells hXV 0
          have k1 := cell_of_cells hXV 1
          have k2 := cell_of_cells hXV 2
          simp at k0 k1 k2
          exact bodyPost_ret (v := .tuple #[.agg #[.int .i64 2, .int .i64 c, .slice (some ⟨g, 0, none⟩) (2 * c) (2 * c)], .int .i64 0]) (by simp [results, Tryz.f210, go_sem, k0, k1, k2]) rfl ⟨g, rfl, hNV, by omega, hBV⟩
        exact AllReady.nil
      exact AllReady.nil
    exact AllReady.nil
  exact AllReady.nil
end Go.Proofs.YtmkefodaibmkhaaGreatDoor

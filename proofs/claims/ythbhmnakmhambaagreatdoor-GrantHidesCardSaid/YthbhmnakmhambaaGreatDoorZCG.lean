/- Package cms: New, begin, Add, Lower. Package cms: Lower. -/
import Derived.Test.YthbhmnakmhambaaGreatDoorZGE
namespace Go.Proofs.YthbhmnakmhambaaGreatDoor
open Go Go.RowKit Go.Shelf
theorem casNil (w : World) : (Instr.typeAssert .nilIface 110 217 true).run Tryz.prog w = .ok (.tuple #[.agg #[.string ⟨#[]⟩], .bool false]) w := by kernel_rfl
theorem cerrno_nil (w : World) : Calls Tryz.prog 98 #[.nilIface] w fun e w' => e = .returned (.int .i64 0) ∧ Below w.heap.size w w' := by
 have h := casNil w
 go_enter Tryz.func98, Tryz.ntmps98
 go_wp2
 go_ret
 exact ⟨rfl, (Below.refl _ w).alloc (Nat.le_refl _) _⟩
theorem make_nums (w : World) (len : Nat) (h : len ≤ 1000) : ∃ w1, (Instr.makeSlice 28 (.int .i64 (len : Int)) (.int .i64 (len : Int))).run Tryz.prog w = .ok (.slice (some ⟨w.heap.size, 0, none⟩) len len) w1 ∧ NumsAt w1 w.heap.size (List.replicate len 0) ∧ Below w.heap.size w w1 ∧ w1.heap.size = w.heap.size + 1 := by
 obtain ⟨i, hi, hz, hsize, hby⟩ := info_parts info_u64
 have hr := run_makeSlice (P := Tryz.prog) (w := w) 28 41 i _ und_u64 hi hz .i64 .i64 (len : Int) (len : Int) (by omega) (Int.le_refl _) (by rw [hsize]; omega) (by rw [hby]; omega) (by omega)
 rw [Int.toNat_natCast] at hr
 refine ⟨_, hr, ?_, (Below.refl _ w).alloc (Nat.le_refl _) _, by simp⟩
 have e : madeCells (Value.int .u64 0).cells (len * i.size) = ((List.replicate len (0 : Int)).map (Value.int .u64)).toArray := by
  rw [hsize, Nat.mul_one]
  apply Array.ext
  ·rw [size_madeCells]; simp
  ·intro j h1 h2
   simp [madeCells, Value.cells, Nat.mod_one]
 rw [e]
 exact World.alloc_heap_new _ _
set_option maxRecDepth 100000 in
set_option maxHeartbeats 1000000 in
theorem cblank_any (c : Nat) (w : World) (hs : isShapeB 2 c = true) (h2 : c ≤ 32) :
  Calls Tryz.prog 97 #[.int .i64 2, .int .i64 c] w fun e w' => ∃ g, e = .returned (.tuple #[.agg #[.int .i64 2, .int .i64 c, .slice (some ⟨g, 0, none⟩) (2 * c) (2 * c)], .nilIface]) ∧ NumsAt w' g (List.replicate (2 * c) 0) ∧ w.heap.size ≤ g ∧ Below w.heap.size w w' := by
 have hib := fun w => isShape_any 2 c w
 rw [hs] at hib
 obtain ⟨W0, hW0, hX0, hB0, hs0⟩ := boxes1 w #[.int .i64 0, .int .i64 0, .slice none 0 0] 173
 obtain ⟨W1, hmk, hr1, hB1, hs1⟩ := make_nums W0 (2 * c) (by omega)
 have hX1 := (hB1.block _ (by omega)).trans hX0
 rw [hs0] at hmk hr1
 rw [show (((2 * c : Nat)) : Int) = 2 * (c : Int) by omega] at hmk
 obtain ⟨d0, d1, d2⟩ := cl3 hX1
 obtain ⟨f0, f1, f2⟩ := cz3 hX1
 have HR := Lib.hid hr1
 have hB := hB0.trans (hB1.mono hB0.size)
 have HX := Lib.hid hX1
 clear hX0 hX1 hr1 hB0 hB1 hs1 hs
 obtain ⟨W4, hW4⟩ : ∃ W4, ((W1.setCell ⟨w.heap.size, 0, none⟩ (.int .i64 2)).setCell ⟨w.heap.size, 1, none⟩ (.int .i64 c)).setCell ⟨w.heap.size, 2, none⟩ (.slice (some ⟨w.heap.size + 1, 0, none⟩) (2 * c) (2 * c)) = W4 := ⟨_, rfl⟩
 have hX4 : W4.heap[w.heap.size]? = some (.cells #[.int .i64 2, .int .i64 c, .slice (some ⟨w.heap.size + 1, 0, none⟩) (2 * c) (2 * c)] 173 (0, 0)) := by rw [← hW4]; exact hSk (hSk (hSk HX.out _) _) _
 have hB4 : Below w.heap.size w W4 := by rw [← hW4]; exact ((hB.setCell (p := ⟨w.heap.size, 0, none⟩) (Nat.le_refl _) _).setCell (p := ⟨w.heap.size, 1, none⟩) (Nat.le_refl _) _).setCell (p := ⟨w.heap.size, 2, none⟩) (Nat.le_refl _) _
 have hr4 : NumsAt W4 (w.heap.size + 1) (List.replicate (2 * c) 0) := by
  rw [← hW4]
  exact ((HR.out.block (heap_set_other (p := ⟨w.heap.size, 0, none⟩) (by show w.heap.size ≠ _; omega) _)).block (heap_set_other (p := ⟨w.heap.size, 1, none⟩) (by show w.heap.size ≠ _; omega) _)).block (heap_set_other (p := ⟨w.heap.size, 2, none⟩) (by show w.heap.size ≠ _; omega) _)
 go_enter Tryz.func97, Tryz.ntmps97
 go_wp2_with (first | (go_at_call 123; refine (hib _).mono ?_; rintro e w' ⟨rfl, rfl⟩) | fail)
 obtain ⟨k0, k1, k2⟩ := cl3 hX4
 exact bodyPost_ret (v := .tuple #[.agg #[.int .i64 2, .int .i64 c, .slice (some ⟨w.heap.size + 1, 0, none⟩) (2 * c) (2 * c)], .nilIface]) (by simp [results, Tryz.f97, go_sem, k0, k1, k2]) rfl ⟨_, rfl, hr4, Nat.le_succ _, hB4⟩
set_option maxRecDepth 100000 in
set_option maxHeartbeats 1000000 in
theorem cNew_any (w : World) :
  Calls Tryz.prog 64 #[.int .i64 2, .int .i64 32] w fun e w' => ∃ g, e = .returned (.tuple #[.agg #[.int .i64 2, .int .i64 32, .slice (some ⟨g, 0, none⟩) 64 64], .int .i64 0]) ∧ NumsAt w' g (List.replicate 64 0) ∧ w.heap.size ≤ g ∧ Below w.heap.size w w' := by
 have hB := fun w => cblank_any 32 w (by decide) (by omega)
 obtain ⟨W0, hW0, hX0, hB0, hs0⟩ := boxes1 w #[.int .i64 0, .int .i64 0, .slice none 0 0] 34
 have HX0 := Lib.hid hX0
 clear hX0
 go_enter Tryz.func64, Tryz.ntmps64
 go_wp2_with fail
 refine (hB _).mono ?_
 rintro e w1 ⟨g, rfl, hr1, hg1, hb1⟩
 obtain ⟨W2, hW2, hX2, hB2, hs2⟩ := boxes1 w1 #[.int .i64 2, .int .i64 32, .slice (some ⟨g, 0, none⟩) 64 64] 173
 have hgl := hr1.lt
 have hB12 : Below w.heap.size w W2.drew := ((hB0.trans (hb1.mono hB0.size)).trans (hB2.mono (by have := hb1.size; omega))).drew
 have hXR : W2.drew.heap[w.heap.size]? = some (.cells #[.int .i64 0, .int .i64 0, .slice none 0 0] 34 (0, 0)) := known (hb1.trans (hB2.drew.mono hb1.size)) (Nat.le_refl _) HX0.out
 have hXB : W2.drew.heap[w1.heap.size]? = some (.cells #[.int .i64 2, .int .i64 32, .slice (some ⟨g, 0, none⟩) 64 64] 173 (0, 0)) := hX2
 have HXB := Lib.hid hXB
 have HXR := Lib.hid hXR
 obtain ⟨c0, c1, c2⟩ := cl3 hXB
 obtain ⟨o0, o1, o2⟩ := cl3 hXR
 have hr2 : NumsAt W2.drew g (List.replicate 64 0) := (hr1.block (hB2.block _ hgl)).block rfl
 have hgw : w.heap.size ≠ g := by omega
 have fin : ∀ w5, Below W2.drew.heap.size W2.drew w5 → ∃ g', Ending.returned (.tuple #[.agg #[.int .i64 2, .int .i64 32, .slice (some ⟨g, 0, none⟩) 64 64], .int .i64 0]) = .returned (.tuple #[.agg #[.int .i64 2, .int .i64 32, .slice (some ⟨g', 0, none⟩) 64 64], .int .i64 0]) ∧ NumsAt (((w5.setCell ⟨w.heap.size, 0, none⟩ (.int .i64 2)).setCell ⟨w.heap.size, 1, none⟩ (.int .i64 32)).setCell ⟨w.heap.size, 2, none⟩ (.slice (some ⟨g, 0, none⟩) 64 64)) g' (List.replicate 64 0) ∧ w.heap.size ≤ g' ∧ Below w.heap.size w (((w5.setCell ⟨w.heap.size, 0, none⟩ (.int .i64 2)).setCell ⟨w.heap.size, 1, none⟩ (.int .i64 32)).setCell ⟨w.heap.size, 2, none⟩ (.slice (some ⟨g, 0, none⟩) 64 64)) := fun w5 hb5 =>
  ⟨g, rfl, (((hr2.block (hb5.block _ hr2.lt)).block (heap_set_other (p := ⟨w.heap.size, 0, none⟩) hgw _)).block (heap_set_other (p := ⟨w.heap.size, 1, none⟩) hgw _)).block (heap_set_other (p := ⟨w.heap.size, 2, none⟩) hgw _), by omega,
   (((hB12.trans (hb5.mono hB12.size)).setCell (p := ⟨w.heap.size, 0, none⟩) (Nat.le_refl _) _).setCell (p := ⟨w.heap.size, 1, none⟩) (Nat.le_refl _) _).setCell (p := ⟨w.heap.size, 2, none⟩) (Nat.le_refl _) _⟩
 clear hX2 hB2 hr1 hXB hXR hr2 hb1 hB12
 go_wp2_with fail
 refine wp_region_any (by kernel_rfl) ?_
 change wpAny _ _ _ _ _ _ _ (World.drew _)
 refine tk 0 (v := ?_) rfl ?_ ?_
 rotate_left
 ·intro w; go_simp; with_reducible rfl
 refine tk 2 (v := ?_) rfl ?_ ?_
 rotate_left
 ·intro w; go_simp; with_reducible rfl
 refine wpAny_ready (rs := [1, 3]) (by kernel_rfl) (by simp) ?_
 refine AllReady.cons rfl (fun K hK => ?_) ?_
 ·go_simp
  refine hK _ _ ?_
  clear hK K
  refine wpAny_ready (rs := [3]) (by kernel_rfl) (by simp) ?_
  refine AllReady.cons rfl (fun K hK => ?_) ?_
  ·go_simp
   refine (cerrno_nil _).mono ?_
   rintro e w5 ⟨rfl, hb5⟩
   have hX5 := known hb5 (Nat.le_refl _) HXB.out
   have hX05 := known hb5 (Nat.le_refl _) HXR.out
   obtain ⟨u0, u1, u2⟩ := cl3 hX5
   obtain ⟨v0, v1, v2⟩ := cl3 hX05
   obtain ⟨f0, f1, f2⟩ := cz3 hX05
   refine hK _ _ ?_
   clear hK K hX5
   refine wpAny_ready (rs := [4]) (by kernel_rfl) (by simp) ?_
   refine AllReady.cons rfl (fun K hK => ?_) ?_
   ·go_simp
    refine hK _ _ ?_
    clear hK K
    refine tk 5 (v := ?_) rfl ?_ ?_
    rotate_left
    ·intro w; go_simp; with_reducible rfl
    refine wpAny_done (by kernel_rfl) ?_ _
    go_wp2_with fail
    refine bodyPost_ret (v := .tuple #[.agg #[.int .i64 2, .int .i64 32, .slice (some ⟨g, 0, none⟩) 64 64], .int .i64 0]) ?_ rfl (fin w5 hb5)
    have hX6 := set_cells3 (u := .int .i64 2) (v := .int .i64 32) (q := .slice (some ⟨g, 0, none⟩) 64 64) hX05
    have k0 := cCc hX6 0
    have k1 := cCc hX6 1
    have k2 := cCc hX6 2
    simp at k0 k1 k2
    simp [results, Tryz.f64, go_sem, k0, k1, k2]
   exact AllReady.nil
  exact AllReady.nil
 refine AllReady.cons rfl (fun K hK => ?_) ?_
 ·go_simp
  refine (cerrno_nil _).mono ?_
  rintro e w5 ⟨rfl, hb5⟩
  have hX5 := known hb5 (Nat.le_refl _) HXB.out
  have hX05 := known hb5 (Nat.le_refl _) HXR.out
  obtain ⟨u0, u1, u2⟩ := cl3 hX5
  obtain ⟨v0, v1, v2⟩ := cl3 hX05
  obtain ⟨f0, f1, f2⟩ := cz3 hX05
  refine hK _ _ ?_
  clear hK K hX5
  refine wpAny_ready (rs := [1]) (by kernel_rfl) (by simp) ?_
  refine AllReady.cons rfl (fun K hK => ?_) ?_
  ·go_simp
   refine hK _ _ ?_
   clear hK K
   refine wpAny_ready (rs := [4]) (by kernel_rfl) (by simp) ?_
   refine AllReady.cons rfl (fun K hK => ?_) ?_
   ·go_simp
    refine hK _ _ ?_
    clear hK K
    refine tk 5 (v := ?_) rfl ?_ ?_
    rotate_left
    ·intro w; go_simp; with_reducible rfl
    refine wpAny_done (by kernel_rfl) ?_ _
    go_wp2_with fail
    refine bodyPost_ret (v := .tuple #[.agg #[.int .i64 2, .int .i64 32, .slice (some ⟨g, 0, none⟩) 64 64], .int .i64 0]) ?_ rfl (fin w5 hb5)
    have hX6 := set_cells3 (u := .int .i64 2) (v := .int .i64 32) (q := .slice (some ⟨g, 0, none⟩) 64 64) hX05
    have k0 := cCc hX6 0
    have k1 := cCc hX6 1
    have k2 := cCc hX6 2
    simp at k0 k1 k2
    simp [results, Tryz.f64, go_sem, k0, k1, k2]
   exact AllReady.nil
  exact AllReady.nil
 exact AllReady.nil
end Go.Proofs.YthbhmnakmhambaaGreatDoor
namespace Go.Proofs.YthbhmnakmhambaaGreatDoor
open Go Go.RowKit Go.Shelf
set_option maxRecDepth 100000 in
set_option maxHeartbeats 1000000 in
theorem cLower_any (c : Nat) (l : List Int) (a : Option Addr) (len cap : Nat) (w : World) (hs : isShapeB 2 c = true) (hs2 : isShapeB 2 ((c / 2 : Nat) : Int) = true) (hc : c = 8 ∨ c = 16 ∨ c = 32) (hL : SlE encU 1 w.heap.size w a len l) (hl : l.length = 2 * c) (hlu : U64s l) :
  Calls Tryz.prog 229 #[.agg #[.int .i64 2, .int .i64 c, .slice a len cap]] w fun e w' => ∃ g, e = .returned (.tuple #[.agg #[.int .i64 2, .int .i64 ((c / 2 : Nat) : Int), .slice (some ⟨g, 0, none⟩) (2 * (c / 2)) (2 * (c / 2))], .int .i64 0]) ∧ NumsAt w' g (cmLow c l) ∧ w.heap.size ≤ g ∧ Below w.heap.size w w' := by
 have hR : Hid (∀ w1, Calls Tryz.prog 139 #[.agg #[.int .i64 2, .int .i64 c, .slice a len cap]] w1 fun e w' => e = .returned (.bool true) ∧ Below w1.heap.size w1 w') := fun w1 => (cms_Right_any 2 c l a len cap w1 hL.1).mono fun e w' h => ⟨by rw [h.1]; simp [cmRight, hs, hl], h.2⟩
 obtain ⟨d, hd⟩ : ∃ d, c / 2 = d := ⟨_, rfl⟩
 have hB : Hid (∀ w, Calls Tryz.prog 97 #[.int .i64 2, .int .i64 d] w fun e w' => ∃ g, e = .returned (.tuple #[.agg #[.int .i64 2, .int .i64 d, .slice (some ⟨g, 0, none⟩) (2 * d) (2 * d)], .nilIface]) ∧ NumsAt w' g (List.replicate (2 * d) 0) ∧ w.heap.size ≤ g ∧ Below w.heap.size w w') := fun w => by rw [← hd]; exact cblank_any (c / 2) w hs2 (by omega)
 have HF : Hid (∀ (fb xb p : Nat) (old : Int) (v : Value) (w1 : World), p < 2 * d → SlE encU 1 w1.heap.size w1 a len l → w1.heap[fb]? = some (.cells #[.int .i64 2, .int .i64 d, v] 173 (0, 0)) → w1.heap[xb]? = some (.cells #[.int .i64 2, .int .i64 c, .slice a len cap] 34 (0, 0)) →
   Calls Tryz.prog 233 #[.int .i64 p, .int .u64 old, .pointer (some ⟨fb, 0, none⟩), .pointer (some ⟨xb, 0, none⟩)] w1 fun e w' => e = .returned (.int .u64 (lowF c l p old)) ∧ Below w1.heap.size w1 w') := fun fb xb p old v w1 hp hL1 hf hx => by rw [← hd] at hp hf; exact lowF_any c fb xb p old l a len cap v w1 hc hp hl hlu hL1 hf hx
 have HE : Hid (chFold (fun x : Fin (2 * d) => x.1) (lowF c l) (List.replicate (2 * d) 0) (List.finRange (2 * d)) = cmLow c l) := by rw [Hid, ← hd]; exact chFold_low c l
 have HU : Hid (∀ p x, U64 (lowF c l p x)) := fun p x => satI_u64 _ _ (getD_u64 l hlu _) (getD_u64 l hlu _)
 have hd16 : d ≤ 16 := by omega
 have hcd : ((c : Int).tdiv 2) = (d : Int) := by rw [Int.tdiv_eq_ediv_of_nonneg (by omega)]; omega
 have hcd2 : ((c : Int) / 2) = (d : Int) := by omega
 have hcw : wrap64 (d : Int) = d := wrap64_nat d (by omega)
 rw [hd]
 have HL := Lib.hid hL
 obtain ⟨W0, hW0, hXp, hXr, hB0, hs0⟩ := boxes2 w #[.int .i64 2, .int .i64 c, .slice a len cap] 34 #[.int .i64 0, .int .i64 0, .slice none 0 0] 34
 have HXP := Lib.hid hXp
 have HXR := Lib.hid hXr
 obtain ⟨x0, x1, x2⟩ := cl3 hXp
 clear hXp hXr hL hl hlu hs hs2 hd hc
 go_enter Tryz.func229, Tryz.ntmps229
 go_wp2_with fail
 refine (hR.out _).mono ?_
 rintro e w1 ⟨rfl, hb1⟩
 have hXp1 := known hb1 (Nat.le_refl _) HXP.out
 obtain ⟨y0, y1, y2⟩ := cl3 hXp1
 go_wp2_with fail
 refine (hB.out _).mono ?_
 rintro e w2 ⟨g, rfl, hr2, hg2, hb2⟩
 obtain ⟨W2, hW2, hX2, hB2, hs2⟩ := boxes1 w2 #[.int .i64 2, .int .i64 d, .slice (some ⟨g, 0, none⟩) (2 * d) (2 * d)] 173
 obtain ⟨W5, hW5, hY5, hB5, hs5⟩ := boxes1 W2.drew #[.int .i64 2, .int .i64 d, .slice (some ⟨g, 0, none⟩) (2 * d) (2 * d)] 173
 have hzd : W2.drew.heap.size = w2.heap.size + 1 := hs2
 rw [hzd] at hY5 hB5 hs5
 have hgl := hr2.lt
 have hb1s := hb1.size
 have hb2s := hb2.size
 have hB25 : Below w2.heap.size w2 W5 := hB2.drew.trans (hB5.mono (by omega))
 have hr5 : NumsAt W5 g (List.replicate (2 * d) 0) := hr2.block (hB25.block _ hgl)
 have hX5 : W5.heap[w2.heap.size]? = some (.cells #[.int .i64 2, .int .i64 d, .slice (some ⟨g, 0, none⟩) (2 * d) (2 * d)] 173 (0, 0)) := (hB5.block _ (by omega)).trans (show W2.drew.heap[w2.heap.size]? = _ from hX2)
 have hP5 : W5.heap[w.heap.size]? = some (.cells #[.int .i64 2, .int .i64 c, .slice a len cap] 34 (0, 0)) := known ((hb1.trans (hb2.mono hb1s)).trans (hB25.mono (by omega))) (Nat.le_refl _) HXP.out
 have hR5 : W5.heap[w.heap.size + 1]? = some (.cells #[.int .i64 0, .int .i64 0, .slice none 0 0] 34 (0, 0)) := known ((hb1.trans (hb2.mono hb1s)).trans (hB25.mono (by omega))) (Nat.le_refl _) HXR.out
 have hB05 : Below w.heap.size w W5 := (hB0.trans (hb1.mono (by omega))).trans ((hb2.mono (by omega)).trans (hB25.mono (by omega)))
 have hCH := change_low (lowF c l) (w2.heap.size + 1) w2.heap.size w.heap.size g (2 * d) (2 * d) (2 * d) (2 * d) 2 d 2 d (some ⟨g, 0, none⟩) (List.replicate (2 * d) 0) W5 (by omega) hY5 hr5 (by simp) (fun x hx => by rw [List.eq_of_mem_replicate hx]; exact u64_0) (by intro k hk; simp at hk; omega)
  (fun W p x hG hx => by
   have hBW : Below w.heap.size W5 W := (Below.refl _ W5).grown hG hB05.size (fun k e => by cases e; omega)
   have hbb := hB05.trans hBW
   exact HF.out w2.heap.size w.heap.size p.1 x (.slice (some ⟨g, 0, none⟩) (2 * d) (2 * d)) W p.2 ((HL.out.below hbb).mono hbb.size) ((hG.block _ (Array.getElem?_eq_some_iff.1 hX5).1 (fun e => by cases e; omega)).trans hX5) ((hG.block _ (Array.getElem?_eq_some_iff.1 hP5).1 (fun e => by cases e; omega)).trans hP5)) (fun p x _ => HU.out p x) (fun p => p.2)
 have HW5 := Lib.hid hW5
 have HX5 := Lib.hid hX5
 have HR5 := Lib.hid hR5
 have HB05 := Lib.hid hB05
 have hXd : W2.drew.heap[w2.heap.size]? = some (.cells #[.int .i64 2, .int .i64 d, .slice (some ⟨g, 0, none⟩) (2 * d) (2 * d)] 173 (0, 0)) := hX2
 obtain ⟨c0, c1, c2⟩ := cl3 hXd
 obtain ⟨z0, z1, z2⟩ := cl3 hX5
 have hgw : w.heap.size + 1 < g := by omega
 clear hW5 hX2 hXd hX5 hR5 hP5 hY5 hB2 hB5 hB25 hB05 hr2 hr5 hb1 hb2
 have fin : ∀ w6, NumsAt w6 g (cmLow c l) → W5.grownBy w6 (some g) → ∃ V, ((w6.setCell ⟨w.heap.size + 1, 0, none⟩ (.int .i64 2)).setCell ⟨w.heap.size + 1, 1, none⟩ (.int .i64 d)).setCell ⟨w.heap.size + 1, 2, none⟩ (.slice (some ⟨g, 0, none⟩) (2 * d) (2 * d)) = V ∧ V.heap[w.heap.size + 1]? = some (.cells #[.int .i64 2, .int .i64 d, .slice (some ⟨g, 0, none⟩) (2 * d) (2 * d)] 34 (0, 0)) ∧ NumsAt V g (cmLow c l) ∧ Below w.heap.size w V := fun w6 hN6 hG6 => by
  have hR6 := (hG6.block _ (Array.getElem?_eq_some_iff.1 HR5.out).1 (fun e => by cases e; omega)).trans HR5.out
  have hne : w.heap.size + 1 ≠ g := by omega
  refine ⟨_, rfl, set_cells3 hR6, ((hN6.block (heap_set_other (p := ⟨w.heap.size + 1, 0, none⟩) hne _)).block (heap_set_other (p := ⟨w.heap.size + 1, 1, none⟩) hne _)).block (heap_set_other (p := ⟨w.heap.size + 1, 2, none⟩) hne _), ?_⟩
  exact (((HB05.out.grown hG6 HB05.out.size (fun k e => by cases e; omega)).setCell (p := ⟨w.heap.size + 1, 0, none⟩) (by show _ ≤ _ + 1; omega) _).setCell (p := ⟨w.heap.size + 1, 1, none⟩) (by show _ ≤ _ + 1; omega) _).setCell (p := ⟨w.heap.size + 1, 2, none⟩) (by show _ ≤ _ + 1; omega) _
 go_wp2_with fail
 refine wp_region_any (by kernel_rfl) ?_
 change wpAny _ _ _ _ _ _ _ (World.drew _)
 refine tk 3 (v := ?_) rfl ?_ ?_
 rotate_left
 ·intro w; go_simp; with_reducible rfl
 refine wpAny_ready (rs := [0, 1]) (by kernel_rfl) (by simp) ?_
 refine AllReady.cons rfl (fun K hK => ?_) ?_
 ·go_simp
  refine hK _ _ ?_
  clear hK K
  refine wpAny_ready (rs := [1]) (by kernel_rfl) (by simp) ?_
  refine AllReady.cons rfl (fun K hK => ?_) ?_
  ·go_simp
   refine hK _ _ ?_
   clear hK K
   refine wpAny_ready (rs := [2]) (by kernel_rfl) (by simp) ?_
   refine AllReady.cons rfl (fun K hK => ?_) ?_
   ·go_simp
    refine (all_any 2 d (.slice (some ⟨g, 0, none⟩) (2 * d) (2 * d)) _).mono ?_
    rintro e w5 ⟨rfl, rfl⟩
    rw [HW5.out]
    refine hK _ _ ?_
    clear hK K
    refine wpAny_ready (rs := [4]) (by kernel_rfl) (by simp) ?_
    refine AllReady.cons rfl (fun K hK => ?_) ?_
    ·go_simp
     refine hCH.mono ?_
     rintro e w6 ⟨rfl, hN6, hG6⟩
     rw [HE.out] at hN6
     refine hK _ _ ?_
     clear hK K
     refine wpAny_done (by kernel_rfl) ?_ _
     have hX6 := (hG6.block _ (Array.getElem?_eq_some_iff.1 HX5.out).1 (fun e => by cases e; omega)).trans HX5.out
     have hR6 : w6.heap[w.heap.size + 1]? = _ := (hG6.block _ (Array.getElem?_eq_some_iff.1 HR5.out).1 (fun e => by cases e; omega)).trans HR5.out
     obtain ⟨z0, z1, z2⟩ := cl3 hX6
     obtain ⟨v0, v1, v2⟩ := cl3 hR6
     obtain ⟨f0, f1, f2⟩ := cz3 hR6
     obtain ⟨V, hV, hXV, hNV, hBV⟩ := fin w6 hN6 hG6
     clear fin hX6 hR6 hN6 hG6 hCH
     go_wp2_with fail
     have k0 := cCc hXV 0
     have k1 := cCc hXV 1
     have k2 := cCc hXV 2
     simp at k0 k1 k2
     exact bodyPost_ret (v := .tuple #[.agg #[.int .i64 2, .int .i64 d, .slice (some ⟨g, 0, none⟩) (2 * d) (2 * d)], .int .i64 0]) (by simp [results, Tryz.f229, go_sem, k0, k1, k2]) rfl ⟨g, rfl, hNV, by omega, hBV⟩
    exact AllReady.nil
   exact AllReady.nil
  exact AllReady.nil
 refine AllReady.cons rfl (fun K hK => ?_) ?_
 ·go_simp
  refine hK _ _ ?_
  clear hK K
  refine wpAny_ready (rs := [0, 2]) (by kernel_rfl) (by simp) ?_
  refine AllReady.cons rfl (fun K hK => ?_) ?_
  ·go_simp
   refine hK _ _ ?_
   clear hK K
   refine wpAny_ready (rs := [2]) (by kernel_rfl) (by simp) ?_
   refine AllReady.cons rfl (fun K hK => ?_) ?_
   ·go_simp
    refine (all_any 2 d (.slice (some ⟨g, 0, none⟩) (2 * d) (2 * d)) _).mono ?_
    rintro e w5 ⟨rfl, rfl⟩
    rw [HW5.out]
    refine hK _ _ ?_
    clear hK K
    refine wpAny_ready (rs := [4]) (by kernel_rfl) (by simp) ?_
    refine AllReady.cons rfl (fun K hK => ?_) ?_
    ·go_simp
     refine hCH.mono ?_
     rintro e w6 ⟨rfl, hN6, hG6⟩
     rw [HE.out] at hN6
     refine hK _ _ ?_
     clear hK K
     refine wpAny_done (by kernel_rfl) ?_ _
     have hX6 := (hG6.block _ (Array.getElem?_eq_some_iff.1 HX5.out).1 (fun e => by cases e; omega)).trans HX5.out
     have hR6 : w6.heap[w.heap.size + 1]? = _ := (hG6.block _ (Array.getElem?_eq_some_iff.1 HR5.out).1 (fun e => by cases e; omega)).trans HR5.out
     obtain ⟨z0, z1, z2⟩ := cl3 hX6
     obtain ⟨v0, v1, v2⟩ := cl3 hR6
     obtain ⟨f0, f1, f2⟩ := cz3 hR6
     obtain ⟨V, hV, hXV, hNV, hBV⟩ := fin w6 hN6 hG6
     clear fin hX6 hR6 hN6 hG6 hCH
     go_wp2_with fail
     have k0 := cCc hXV 0
     have k1 := cCc hXV 1
     have k2 := cCc hXV 2
     simp at k0 k1 k2
     exact bodyPost_ret (v := .tuple #[.agg #[.int .i64 2, .int .i64 d, .slice (some ⟨g, 0, none⟩) (2 * d) (2 * d)], .int .i64 0]) (by simp [results, Tryz.f229, go_sem, k0, k1, k2]) rfl ⟨g, rfl, hNV, by omega, hBV⟩
    exact AllReady.nil
   exact AllReady.nil
  refine AllReady.cons rfl (fun K hK => ?_) ?_
  ·go_simp
   refine (all_any 2 d (.slice (some ⟨g, 0, none⟩) (2 * d) (2 * d)) _).mono ?_
   rintro e w5 ⟨rfl, rfl⟩
   rw [HW5.out]
   refine hK _ _ ?_
   clear hK K
   refine wpAny_ready (rs := [0]) (by kernel_rfl) (by simp) ?_
   refine AllReady.cons rfl (fun K hK => ?_) ?_
   ·go_simp
    refine hK _ _ ?_
    clear hK K
    refine wpAny_ready (rs := [4]) (by kernel_rfl) (by simp) ?_
    refine AllReady.cons rfl (fun K hK => ?_) ?_
    ·go_simp
     refine hCH.mono ?_
     rintro e w6 ⟨rfl, hN6, hG6⟩
     rw [HE.out] at hN6
     refine hK _ _ ?_
     clear hK K
     refine wpAny_done (by kernel_rfl) ?_ _
     have hX6 := (hG6.block _ (Array.getElem?_eq_some_iff.1 HX5.out).1 (fun e => by cases e; omega)).trans HX5.out
     have hR6 : w6.heap[w.heap.size + 1]? = _ := (hG6.block _ (Array.getElem?_eq_some_iff.1 HR5.out).1 (fun e => by cases e; omega)).trans HR5.out
     obtain ⟨z0, z1, z2⟩ := cl3 hX6
     obtain ⟨v0, v1, v2⟩ := cl3 hR6
     obtain ⟨f0, f1, f2⟩ := cz3 hR6
     obtain ⟨V, hV, hXV, hNV, hBV⟩ := fin w6 hN6 hG6
     clear fin hX6 hR6 hN6 hG6 hCH
     go_wp2_with fail
     have k0 := cCc hXV 0
     have k1 := cCc hXV 1
     have k2 := cCc hXV 2
     simp at k0 k1 k2
     exact bodyPost_ret (v := .tuple #[.agg #[.int .i64 2, .int .i64 d, .slice (some ⟨g, 0, none⟩) (2 * d) (2 * d)], .int .i64 0]) (by simp [results, Tryz.f229, go_sem, k0, k1, k2]) rfl ⟨g, rfl, hNV, by omega, hBV⟩
    exact AllReady.nil
   exact AllReady.nil
  exact AllReady.nil
 exact AllReady.nil
end Go.Proofs.YthbhmnakmhambaaGreatDoor

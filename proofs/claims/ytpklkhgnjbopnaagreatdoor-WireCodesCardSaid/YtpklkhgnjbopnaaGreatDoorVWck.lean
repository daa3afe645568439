/- The reference of layer 20: GetReply. Printed by gen_wch.py. Law WireCodes. Printed by gen_wck.py. -/
import Derived.Test.YtpklkhgnjbopnaaGreatDoorVWcf
namespace Go.Proofs.YtpklkhgnjbopnaaGreatDoor
open Go Go.RowKit Go.Shelf
attribute [-go_sem] Builtin.append_
set_option maxRecDepth 100000 in
set_option maxHeartbeats 4000000 in
theorem refGetReply_any (s : ByteArray) (w : World) (hs : s.size < 4294967281) :
  Calls Tryz.prog 26 #[.string s] w (RyPost (getRy s.data.toList) w) := by
 obtain ⟨Wr, hWr, hXr, hBr, hsr⟩ := boxes1 w #[.int .i64 0, .int .u64 0, .slice none 0 0, .slice none 0 0] 60
 obtain ⟨W0, hW0, hX0, hB0, hs0⟩ := boxes1 Wr #[.string s, .bool false] 135
 have HAny := Lib.hid any64_x
 obtain ⟨l, hl⟩ : ∃ l, s.data.toList = l := ⟨_, rfl⟩
 have hll : l.length < 4294967281 := by rw [← hl, Array.length_toList]; exact hs
 have hsl : s = ⟨l.toArray⟩ := by rw [← hl]
 rw [hl]
 have HR0 : Hid (RxAt Wr.heap.size (some l) W0) := ⟨hll, by rw [← hsl]; exact hX0⟩
 have HB0 : Hid (Below Wr.heap.size Wr W0) := hB0
 have HRes : Hid (∀ W, Below Wr.heap.size Wr W → W.heap[w.heap.size]? = some (.cells #[.int .i64 0, .int .u64 0, .slice none 0 0, .slice none 0 0] 60 (0, 0)) ∧ Below w.heap.size w W) := fun W hb => ⟨known hb (Nat.le_refl _) hXr, hBr.trans (hb.mono hBr.size)⟩
 have HWr : Hid (w.heap.size < Wr.heap.size) := by rw [Hid]; omega
 clear hX0 hXr hB0 hBr hs0 hsr hll hsl hl hs
 go_enter Tryz.func26, Tryz.ntmps26
 obtain ⟨a0, s0, ha⟩ : ∃ a s, rMost 4611686018427387904 (some l) = (a, s) := ⟨_, _, rfl⟩
 have hc := rxnum_x 4611686018427387904 Wr.heap.size (some l) W0 ⟨by decide, by decide⟩ HR0.out
 have hm := rMost_le (m := 4611686018427387904) (by decide) (some l)
 rw [ha] at hc hm
 obtain ⟨mla0, mua0⟩ : 0 ≤ a0 ∧ a0 ≤ 4611686018427387904 := hm
 have HAa0 := Lib.hid ha
 have HC := Lib.hid hc
 clear hc ha
 go_wp2_with fail
 refine HC.out.mono ?_
 rintro e w1 ⟨rfl, hr, hk⟩
 clear HC
 have HR1 : Hid (RxAt Wr.heap.size s0 w1) := hr
 have HB1 : Hid (Below Wr.heap.size Wr w1) := HB0.out.trans (hk.below (fun _ hk => Nat.ne_of_lt hk) HB0.out.size)
 clear hr hk HR0 HB0
 obtain ⟨a1, s1, ha⟩ : ∃ a s, rNum s0 = (a, s) := ⟨_, _, rfl⟩
 have hc := rxall_x Wr.heap.size s0 w1 HR1.out
 have hua1 := rNum_u64 s0
 rw [ha] at hc hua1
 have HUa1 := Lib.hid hua1
 have HAa1 := Lib.hid ha
 have HC := Lib.hid hc
 clear hc ha hua1
 go_wp2_with fail
 refine (HAny.out _).mono ?_
 rintro e wz ⟨rfl, hw⟩
 have hw := hw.symm
 subst hw
 go_wp2_with fail
 refine HC.out.mono ?_
 rintro e w2 ⟨rfl, hr, hk⟩
 clear HC
 have HR2 : Hid (RxAt Wr.heap.size s1 w2) := hr
 have HB2 : Hid (Below Wr.heap.size Wr w2) := HB1.out.trans (hk.below (fun _ hk => Nat.ne_of_lt hk) HB1.out.size)
 clear hr hk HR1 HB1
 obtain ⟨O0, hO0, hOX, hOB, -⟩ := boxes1 w2 #[.int .i64 0, .int .u64 0, .slice none 0 0, .slice none 0 0] 60
 obtain ⟨V0, hV0, hVX, hVB, -⟩ := stor4 (.int .i64 a0) (.int .u64 a1) (.slice none 0 0) (.slice none 0 0) hOX hOB (Nat.le_refl _)
 obtain ⟨of0, of1, of2, of3⟩ := cz4 hOX
 obtain ⟨oc0, oc1, oc2, oc3⟩ := cl4 hOX
 have HQL : Hid (Wr.heap.size < w2.heap.size) := HR2.out.lt
 have HNE : Hid (w2.heap.size ≠ Wr.heap.size) := Nat.ne_of_gt HQL.out
 have HQv : Hid (V0.heap[w2.heap.size]? = some (.cells #[.int .i64 a0, .int .u64 a1, .slice none 0 0, .slice none 0 0] 60 (0, 0))) := hVX
 have HRv : Hid (RxAt Wr.heap.size s1 V0) := HR2.out.keep (q := fun _ => True) (Kept.of hVB) trivial
 have HBv : Hid (Below Wr.heap.size Wr V0) := HB2.out.trans (hVB.mono HB2.out.size)
 clear hOX hOB hVX hVB HR2 HB2
 obtain ⟨a2, s2, ha⟩ : ∃ a s, rMost 100 s1 = (a, s) := ⟨_, _, rfl⟩
 have hc := rxnum_x 100 Wr.heap.size s1 V0 ⟨by decide, by decide⟩ HRv.out
 have hm := rMost_le (m := 100) (by decide) s1
 rw [ha] at hc hm
 obtain ⟨mla2, mua2⟩ : 0 ≤ a2 ∧ a2 ≤ 100 := hm
 have HAa2 := Lib.hid ha
 have HC := Lib.hid hc
 clear hc ha
 go_wp2_with fail
 refine HC.out.mono ?_
 rintro e w3 ⟨rfl, hr, hk⟩
 clear HC
 have HQ3 : Hid (w3.heap[w2.heap.size]? = some (.cells #[.int .i64 a0, .int .u64 a1, .slice none 0 0, .slice none 0 0] 60 (0, 0))) := hk.known HNE.out HQv.out
 have HB3 : Hid (Below Wr.heap.size Wr w3) := HBv.out.trans (hk.below (fun _ hk => Nat.ne_of_lt hk) HBv.out.size)
 have HR3 : Hid (RxAt Wr.heap.size s2 w3) := hr
 have HS3 : Hid (w2.heap.size + 1 ≤ w3.heap.size) := (Array.getElem?_eq_some_iff.1 HQ3.out).1
 clear hr hk HQv HRv HBv
 obtain ⟨nI, hnI⟩ : ∃ nI : Nat, a2 = (nI : Int) := ⟨a2.toNat, by omega⟩
 subst hnI
 go_wp2_with fail
 go_loopw [7] (fun i wt => ∃ (j : Nat) (u : Value) (ts : List Int) (st : Rd), i = .int .i64 j ∧ j ≤ nI ∧ Hid (iter (stepL (rMost 4611686018427387904)) j ([], s2) = (ts, st)) ∧ Hid (RxAt Wr.heap.size st wt) ∧ Hid (wt.heap[w2.heap.size]? = some (.cells #[.int .i64 a0, .int .u64 a1, u, .slice none 0 0] 60 (0, 0))) ∧ Hid (GrowE encI wt (w2.heap.size + 1) 3 1 u ts) ∧ Hid (ts.length = j) ∧ Hid (Below Wr.heap.size Wr wt)) (fun i _ => nI - (intOf i).toNat)
 case atStart => exact ⟨0, .slice none 0 0, [], s2, rfl, Nat.zero_le _, rfl, HR3, HQ3, GrowE.nil .., rfl, HB3⟩
 case round =>
  obtain ⟨j, u, ts, st2, rfl, hj, HIu, HR, HQ, HG, HL, HB⟩ := hrel
  by_cases hlu : j < nI
  ·have i0 : (0 : Int) ≤ (j : Int) := by omega
   have i1 : (j : Int) < (nI : Int) := by omega
   obtain ⟨a, t2, ha⟩ : ∃ a s, rMost 4611686018427387904 st2 = (a, s) := ⟨_, _, rfl⟩
   have hau := rMost_le (m := 4611686018427387904) (by decide) st2
   rw [ha] at hau
   obtain ⟨ml, mu⟩ : 0 ≤ a ∧ a ≤ 4611686018427387904 := hau
   obtain ⟨D, hD⟩ : ∃ D, wr.drew = D := ⟨_, rfl⟩
   have hkD : ∀ q : Nat → Prop, Kept q wr D := fun q => by rw [← hD]; exact Kept.refl.drew
   have HRD : Hid (RxAt Wr.heap.size st2 D) := HR.out.keep (hkD fun _ => True) trivial
   have hqD : D.heap[w2.heap.size]? = some (.cells #[.int .i64 a0, .int .u64 a1, u, .slice none 0 0] 60 (0, 0)) := (hkD fun _ => True).known trivial HQ.out
   have HBD : Hid (Below Wr.heap.size Wr D) := by rw [Hid, ← hD]; exact HB.out.drew
   have HGD : Hid (GrowE encI D (w2.heap.size + 1) 3 1 u ts) := HG.out.keep (hkD fun _ => True) (fun _ _ => trivial)
   have c9 : D.cell? ⟨w2.heap.size, 2, none⟩ = some u := cCc hqD 2
   have HQD := Lib.hid hqD
   have hc := rxnum_x 4611686018427387904 Wr.heap.size st2 D ⟨by decide, by decide⟩ HRD.out
   rw [ha] at hc
   have HC := Lib.hid hc
   have HA := Lib.hid ha
   have HD := Lib.hid hD
   clear hc ha hkD hqD hD
   go_wp2_with fail
   refine wp_region_any (by kernel_rfl) ?_
   change wpAny _ _ _ _ _ _ _ (World.drew _)
   rw [HD.out]
   refine tk 0 (v := ?_) rfl ?_ ?_
   rotate_left
   ·intro w; go_simp; with_reducible rfl
   refine tk 2 (v := ?_) rfl ?_ ?_
   rotate_left
   ·intro w; go_simp; with_reducible rfl
   refine wpAny_ready (rs := [1, 3]) (by kernel_rfl) (by simp) ?_
   refine AllReady.cons rfl (fun K hK => ?_) ?_
   ·go_simp
    refine hK _ _ ?_
    clear hK K
    refine wpAny_ready (rs := [3]) (by kernel_rfl) (by simp) ?_
    refine AllReady.cons rfl (fun K hK => ?_) ?_
    ·go_simp
     refine HC.out.mono ?_
     rintro e x2 ⟨rfl, hr, hk1⟩
     have hw64 : IntKind.i64.wrap a = a := wrap_i64_nonneg ml (by omega)
     have hqx : x2.heap[w2.heap.size]? = some (.cells #[.int .i64 a0, .int .u64 a1, u, .slice none 0 0] 60 (0, 0)) := hk1.known HNE.out HQD.out
     have hbx : Below Wr.heap.size Wr x2 := HBD.out.trans (hk1.below (fun _ hk => Nat.ne_of_lt hk) HBD.out.size)
     have hzx : w2.heap.size + 1 ≤ x2.heap.size := (Array.getElem?_eq_some_iff.1 hqx).1
     have hgx := HGD.out.keep hk1 (fun k hk => by have := HQL.out; show k ≠ Wr.heap.size; omega)
     have d9 : x2.cell? ⟨w2.heap.size, 2, none⟩ = some u := cCc hqx 2
     have e9 : (x2.alloc (.cells #[.int .i64 a] 3)).cell? ⟨w2.heap.size, 2, none⟩ = some u := by
      obtain ⟨Z, hZ, -, hBZ, -⟩ := boxes1 x2 #[.int .i64 a] 3
      rw [hZ]
      exact cCc (known hBZ (by have := (Array.getElem?_eq_some_iff.1 hqx).1; omega) hqx) 2
     obtain ⟨g, cap, x3, hap, hG3, hB3, hz3, hbl3⟩ := hgx.push (w0 := Wr) (B := Wr.heap.size) 57 und_ints' info_int' rfl (by decide) a [.int .i64 a] rfl hbx (by have := HQL.out; omega) hzx (by simp [Value.oneCell']) (by rw [HL.out]; omega) (by decide)
     rw [HL.out] at hap hG3
     have hq3 : x3.heap[w2.heap.size]? = some (.cells #[.int .i64 a0, .int .u64 a1, u, .slice none 0 0] 60 (0, 0)) := (hbl3 _ (by omega)).trans hqx
     have c6 : x3.cell? ⟨w2.heap.size, 2, none⟩ = some u := cCc hq3 2
     have f6 : x3.frozen? ⟨w2.heap.size, 2, none⟩ = false := cFz hq3 2
     obtain ⟨V, hV, hVX, hVA, hVB, -⟩ := box_set (i := 2) hq3 (.slice (some ⟨g, 0, none⟩) (j + 1) cap)
     have hkV : Kept (· ≠ w2.heap.size) x3 V := by rw [← hV]; exact Kept.refl.set (fun _ h => h rfl) _ _
     have FI : Hid (iter (stepL (rMost 4611686018427387904)) (j + 1) ([], s2) = (ts ++ [a], t2) ∧ RxAt Wr.heap.size t2 V ∧ V.heap[w2.heap.size]? = some (.cells #[.int .i64 a0, .int .u64 a1, .slice (some ⟨g, 0, none⟩) (j + 1) cap, .slice none 0 0] 60 (0, 0)) ∧ GrowE encI V (w2.heap.size + 1) 3 1 (.slice (some ⟨g, 0, none⟩) (j + 1) cap) (ts ++ [a]) ∧ (ts ++ [a]).length = j + 1 ∧ Below Wr.heap.size Wr V) := by
      refine ⟨?_, ?_, hVX, hG3.keep hkV (fun k hk => by show k ≠ w2.heap.size; omega), by rw [List.length_append, HL.out]; rfl, hVB _ _ (Nat.le_of_lt HQL.out) hB3⟩
      ·show stepL (rMost 4611686018427387904) (iter (stepL (rMost 4611686018427387904)) j ([], s2)) = _
       rw [HIu.out]
       unfold stepL
       dsimp only
       rw [HA.out]
      ·refine RxAt.keep (q := (· ≠ w2.heap.size)) ?_ hkV (Ne.symm HNE.out)
       have hSQ := HQL.out
       cases t2 with
       | none => obtain ⟨z, hz, h⟩ := hr; exact ⟨z, hz, (hbl3 _ (by omega)).trans h⟩
       | some z => exact ⟨hr.1, (hbl3 _ (by omega)).trans hr.2⟩
     clear hr hk1 hqx hbx hzx hgx hG3 hB3 hz3 hbl3 hq3 hVX hVA hVB hkV
     refine hK _ _ ?_
     clear hK K
     refine wpAny_ready (rs := [4]) (by kernel_rfl) (by simp) ?_
     refine AllReady.cons rfl (fun K hK => ?_) ?_
     ·go_simp
      refine hK _ _ ?_
      clear hK K
      refine wpAny_ready (rs := [5]) (by kernel_rfl) (by simp) ?_
      refine AllReady.cons rfl (fun K hK => ?_) ?_
      ·go_simp
       refine hK _ _ ?_
       clear hK K
       refine wpAny_ready (rs := [6]) (by kernel_rfl) (by simp) ?_
       refine AllReady.cons rfl (fun K hK => ?_) ?_
       ·go_simp
        refine hK _ _ ?_
        clear hK K
        refine tk 7 (v := ?_) rfl ?_ ?_
        rotate_left
        ·intro w; go_simp; with_reducible rfl
        refine wpAny_ready (rs := [8]) (by kernel_rfl) (by simp) ?_
        refine AllReady.cons rfl (fun K hK => ?_) ?_
        ·go_simp
         refine hK _ _ ?_
         clear hK K
         refine wpAny_done (by kernel_rfl) ?_ _
         go_wp2_with fail
         go_roundw
         case rel =>
          obtain ⟨h1, h2, h3, h4, h5, h6⟩ := FI.out
          exact ⟨j + 1, _, _, _, by go_num, by omega, h1, h2, h3, h4, h5, h6⟩
         case measure => simp [intOf]; omega
        exact AllReady.nil
       exact AllReady.nil
      exact AllReady.nil
     exact AllReady.nil
    exact AllReady.nil
   refine AllReady.cons rfl (fun K hK => ?_) ?_
   ·go_simp
    refine HC.out.mono ?_
    rintro e x2 ⟨rfl, hr, hk1⟩
    have hw64 : IntKind.i64.wrap a = a := wrap_i64_nonneg ml (by omega)
    have hqx : x2.heap[w2.heap.size]? = some (.cells #[.int .i64 a0, .int .u64 a1, u, .slice none 0 0] 60 (0, 0)) := hk1.known HNE.out HQD.out
    have hbx : Below Wr.heap.size Wr x2 := HBD.out.trans (hk1.below (fun _ hk => Nat.ne_of_lt hk) HBD.out.size)
    have hzx : w2.heap.size + 1 ≤ x2.heap.size := (Array.getElem?_eq_some_iff.1 hqx).1
    have hgx := HGD.out.keep hk1 (fun k hk => by have := HQL.out; show k ≠ Wr.heap.size; omega)
    have d9 : x2.cell? ⟨w2.heap.size, 2, none⟩ = some u := cCc hqx 2
    have e9 : (x2.alloc (.cells #[.int .i64 a] 3)).cell? ⟨w2.heap.size, 2, none⟩ = some u := by
     obtain ⟨Z, hZ, -, hBZ, -⟩ := boxes1 x2 #[.int .i64 a] 3
     rw [hZ]
     exact cCc (known hBZ (by have := (Array.getElem?_eq_some_iff.1 hqx).1; omega) hqx) 2
    obtain ⟨g, cap, x3, hap, hG3, hB3, hz3, hbl3⟩ := hgx.push (w0 := Wr) (B := Wr.heap.size) 57 und_ints' info_int' rfl (by decide) a [.int .i64 a] rfl hbx (by have := HQL.out; omega) hzx (by simp [Value.oneCell']) (by rw [HL.out]; omega) (by decide)
    rw [HL.out] at hap hG3
    have hq3 : x3.heap[w2.heap.size]? = some (.cells #[.int .i64 a0, .int .u64 a1, u, .slice none 0 0] 60 (0, 0)) := (hbl3 _ (by omega)).trans hqx
    have c6 : x3.cell? ⟨w2.heap.size, 2, none⟩ = some u := cCc hq3 2
    have f6 : x3.frozen? ⟨w2.heap.size, 2, none⟩ = false := cFz hq3 2
    obtain ⟨V, hV, hVX, hVA, hVB, -⟩ := box_set (i := 2) hq3 (.slice (some ⟨g, 0, none⟩) (j + 1) cap)
    have hkV : Kept (· ≠ w2.heap.size) x3 V := by rw [← hV]; exact Kept.refl.set (fun _ h => h rfl) _ _
    have FI : Hid (iter (stepL (rMost 4611686018427387904)) (j + 1) ([], s2) = (ts ++ [a], t2) ∧ RxAt Wr.heap.size t2 V ∧ V.heap[w2.heap.size]? = some (.cells #[.int .i64 a0, .int .u64 a1, .slice (some ⟨g, 0, none⟩) (j + 1) cap, .slice none 0 0] 60 (0, 0)) ∧ GrowE encI V (w2.heap.size + 1) 3 1 (.slice (some ⟨g, 0, none⟩) (j + 1) cap) (ts ++ [a]) ∧ (ts ++ [a]).length = j + 1 ∧ Below Wr.heap.size Wr V) := by
     refine ⟨?_, ?_, hVX, hG3.keep hkV (fun k hk => by show k ≠ w2.heap.size; omega), by rw [List.length_append, HL.out]; rfl, hVB _ _ (Nat.le_of_lt HQL.out) hB3⟩
     ·show stepL (rMost 4611686018427387904) (iter (stepL (rMost 4611686018427387904)) j ([], s2)) = _
      rw [HIu.out]
      unfold stepL
      dsimp only
      rw [HA.out]
     ·refine RxAt.keep (q := (· ≠ w2.heap.size)) ?_ hkV (Ne.symm HNE.out)
      have hSQ := HQL.out
      cases t2 with
      | none => obtain ⟨z, hz, h⟩ := hr; exact ⟨z, hz, (hbl3 _ (by omega)).trans h⟩
      | some z => exact ⟨hr.1, (hbl3 _ (by omega)).trans hr.2⟩
    clear hr hk1 hqx hbx hzx hgx hG3 hB3 hz3 hbl3 hq3 hVX hVA hVB hkV
    refine hK _ _ ?_
    clear hK K
    refine wpAny_ready (rs := [1, 4]) (by kernel_rfl) (by simp) ?_
    refine AllReady.cons rfl (fun K hK => ?_) ?_
    ·go_simp
     refine hK _ _ ?_
     clear hK K
     refine wpAny_ready (rs := [4]) (by kernel_rfl) (by simp) ?_
     refine AllReady.cons rfl (fun K hK => ?_) ?_
     ·go_simp
      refine hK _ _ ?_
      clear hK K
      refine wpAny_ready (rs := [5]) (by kernel_rfl) (by simp) ?_
      refine AllReady.cons rfl (fun K hK => ?_) ?_
      ·go_simp
       refine hK _ _ ?_
       clear hK K
       refine wpAny_ready (rs := [6]) (by kernel_rfl) (by simp) ?_
       refine AllReady.cons rfl (fun K hK => ?_) ?_
       ·go_simp
        refine hK _ _ ?_
        clear hK K
        refine tk 7 (v := ?_) rfl ?_ ?_
        rotate_left
        ·intro w; go_simp; with_reducible rfl
        refine wpAny_ready (rs := [8]) (by kernel_rfl) (by simp) ?_
        refine AllReady.cons rfl (fun K hK => ?_) ?_
        ·go_simp
         refine hK _ _ ?_
         clear hK K
         refine wpAny_done (by kernel_rfl) ?_ _
         go_wp2_with fail
         go_roundw
         case rel =>
          obtain ⟨h1, h2, h3, h4, h5, h6⟩ := FI.out
          exact ⟨j + 1, _, _, _, by go_num, by omega, h1, h2, h3, h4, h5, h6⟩
         case measure => simp [intOf]; omega
        exact AllReady.nil
       exact AllReady.nil
      exact AllReady.nil
     exact AllReady.nil
    refine AllReady.cons rfl (fun K hK => ?_) ?_
    ·go_simp
     refine hK _ _ ?_
     clear hK K
     refine wpAny_ready (rs := [1, 5]) (by kernel_rfl) (by simp) ?_
     refine AllReady.cons rfl (fun K hK => ?_) ?_
     ·go_simp
      refine hK _ _ ?_
      clear hK K
      refine wpAny_ready (rs := [5]) (by kernel_rfl) (by simp) ?_
      refine AllReady.cons rfl (fun K hK => ?_) ?_
      ·go_simp
       refine hK _ _ ?_
       clear hK K
       refine wpAny_ready (rs := [6]) (by kernel_rfl) (by simp) ?_
       refine AllReady.cons rfl (fun K hK => ?_) ?_
       ·go_simp
        refine hK _ _ ?_
        clear hK K
        refine tk 7 (v := ?_) rfl ?_ ?_
        rotate_left
        ·intro w; go_simp; with_reducible rfl
        refine wpAny_ready (rs := [8]) (by kernel_rfl) (by simp) ?_
        refine AllReady.cons rfl (fun K hK => ?_) ?_
        ·go_simp
         refine hK _ _ ?_
         clear hK K
         refine wpAny_done (by kernel_rfl) ?_ _
         go_wp2_with fail
         go_roundw
         case rel =>
          obtain ⟨h1, h2, h3, h4, h5, h6⟩ := FI.out
          exact ⟨j + 1, _, _, _, by go_num, by omega, h1, h2, h3, h4, h5, h6⟩
         case measure => simp [intOf]; omega
        exact AllReady.nil
       exact AllReady.nil
      exact AllReady.nil
     refine AllReady.cons rfl (fun K hK => ?_) ?_
     ·go_simp
      refine hK _ _ ?_
      clear hK K
      refine wpAny_ready (rs := [1]) (by kernel_rfl) (by simp) ?_
      refine AllReady.cons rfl (fun K hK => ?_) ?_
      ·go_simp
       refine hK _ _ ?_
       clear hK K
       refine wpAny_ready (rs := [6]) (by kernel_rfl) (by simp) ?_
       refine AllReady.cons rfl (fun K hK => ?_) ?_
       ·go_simp
        refine hK _ _ ?_
        clear hK K
        refine tk 7 (v := ?_) rfl ?_ ?_
        rotate_left
        ·intro w; go_simp; with_reducible rfl
        refine wpAny_ready (rs := [8]) (by kernel_rfl) (by simp) ?_
        refine AllReady.cons rfl (fun K hK => ?_) ?_
        ·go_simp
         refine hK _ _ ?_
         clear hK K
         refine wpAny_done (by kernel_rfl) ?_ _
         go_wp2_with fail
         go_roundw
         case rel =>
          obtain ⟨h1, h2, h3, h4, h5, h6⟩ := FI.out
          exact ⟨j + 1, _, _, _, by go_num, by omega, h1, h2, h3, h4, h5, h6⟩
         case measure => simp [intOf]; omega
        exact AllReady.nil
       exact AllReady.nil
      exact AllReady.nil
     exact AllReady.nil
    exact AllReady.nil
   exact AllReady.nil
  ·obtain rfl : j = nI := by omega
   obtain ⟨a3, s3, ha⟩ : ∃ a s, rMost 100 st2 = (a, s) := ⟨_, _, rfl⟩
   have hc := rxnum_x 100 Wr.heap.size st2 wr ⟨by decide, by decide⟩ HR.out
   have hm := rMost_le (m := 100) (by decide) st2
   rw [ha] at hc hm
   obtain ⟨mla3, mua3⟩ : 0 ≤ a3 ∧ a3 ≤ 100 := hm
   have HAa3 := Lib.hid ha
   have HC := Lib.hid hc
   clear hc ha
   go_wp2_with fail
   refine HC.out.mono ?_
   rintro e w4 ⟨rfl, hr, hk⟩
   clear HC
   have HQ4 : Hid (w4.heap[w2.heap.size]? = some (.cells #[.int .i64 a0, .int .u64 a1, u, .slice none 0 0] 60 (0, 0))) := hk.known HNE.out HQ.out
   have HB4 : Hid (Below Wr.heap.size Wr w4) := HB.out.trans (hk.below (fun _ hk => Nat.ne_of_lt hk) HB.out.size)
   have HR4 : Hid (RxAt Wr.heap.size s3 w4) := hr
   have HGi : Hid (GrowE encI w4 (w2.heap.size + 1) 3 1 u ts) := HG.out.keep hk (fun k hk => by have := HQL.out; show k ≠ Wr.heap.size; omega)
   have HS4 : Hid (w2.heap.size + 1 ≤ w4.heap.size) := (Array.getElem?_eq_some_iff.1 HQ4.out).1
   clear hr hk HG HQ HB HR
   obtain ⟨nT, hnT⟩ : ∃ nT : Nat, a3 = (nT : Int) := ⟨a3.toNat, by omega⟩
   subst hnT
   go_wp2_with fail
   go_loopw [8] (fun i wt => ∃ (k : Nat) (y : Value) (es : List Ent) (st : Rd), i = .int .i64 k ∧ k ≤ nT ∧ Hid (iter (stepL rEnt) k ([], s3) = (es, st)) ∧ Hid (RxAt Wr.heap.size st wt) ∧ Hid (wt.heap[w2.heap.size]? = some (.cells #[.int .i64 a0, .int .u64 a1, u, y] 60 (0, 0))) ∧ Hid (GrowE Ent.enc wt w4.heap.size 116 4 y es) ∧ Hid (es.length = k) ∧ Hid (Below Wr.heap.size Wr wt) ∧ Hid (Kept (fun k => k ≠ Wr.heap.size ∧ k ≠ w2.heap.size) w4 wt)) (fun i _ => nT - (intOf i).toNat)
   case atStart => exact ⟨0, .slice none 0 0, [], s3, rfl, Nat.zero_le _, rfl, HR4, HQ4, GrowE.nil .., rfl, HB4, Kept.refl⟩
   case round =>
    obtain ⟨k, y, es, st3, rfl, hk, HIe, HR, HQ, HG, HLe, HB, HKp⟩ := hrel
    by_cases hlk : k < nT
    ·have i0 : (0 : Int) ≤ (k : Int) := by omega
     have i1 : (k : Int) < (nT : Int) := by omega
     have HWs : Hid (w4.heap.size ≤ wr.heap.size) := HKp.out.size
     have HK0 : Hid (Kept (· ≠ Wr.heap.size) wr wr) := Kept.refl
     obtain ⟨e0, r0, ha⟩ : ∃ a s, rNum st3 = (a, s) := ⟨_, _, rfl⟩
     have hc := rxall_x Wr.heap.size st3 wr HR.out
     have hue0 := rNum_u64 st3
     rw [ha] at hc hue0
     have HUe0 := Lib.hid hue0
     have HAe0 := Lib.hid ha
     have HC := Lib.hid hc
     clear hc ha hue0
     go_wp2_with fail
     refine (HAny.out _).mono ?_
     rintro e wz ⟨rfl, hw⟩
     have hw := hw.symm
     subst hw
     go_wp2_with fail
     refine HC.out.mono ?_
     rintro e y0 ⟨rfl, hr, hk⟩
     clear HC
     have HRy0 : Hid (RxAt Wr.heap.size r0 y0) := hr
     have HK1 : Hid (Kept (· ≠ Wr.heap.size) wr y0) := HK0.out.trans hk
     clear hr hk
     obtain ⟨e1, r1, ha⟩ : ∃ a s, rNum r0 = (a, s) := ⟨_, _, rfl⟩
     have hc := rxall_x Wr.heap.size r0 y0 HRy0.out
     have hue1 := rNum_u64 r0
     rw [ha] at hc hue1
     have HUe1 := Lib.hid hue1
     have HAe1 := Lib.hid ha
     have HC := Lib.hid hc
     clear hc ha hue1
     go_wp2_with fail
     refine (HAny.out _).mono ?_
     rintro e wz ⟨rfl, hw⟩
     have hw := hw.symm
     subst hw
     go_wp2_with fail
     refine HC.out.mono ?_
     rintro e y1 ⟨rfl, hr, hk⟩
     clear HC
     have HRy1 : Hid (RxAt Wr.heap.size r1 y1) := hr
     have HK2 : Hid (Kept (· ≠ Wr.heap.size) wr y1) := HK1.out.trans hk
     clear hr hk
     obtain ⟨e2, r2, ha⟩ : ∃ a s, rText r1 = (a, s) := ⟨_, _, rfl⟩
     have hc := rxtext_x Wr.heap.size r1 y1 HRy1.out
     rw [ha] at hc
     have HAe2 := Lib.hid ha
     have HC := Lib.hid hc
     clear hc ha
     go_wp2_with fail
     refine HC.out.mono ?_
     rintro e y2 ⟨rfl, hr, hk⟩
     clear HC
     have HRy2 : Hid (RxAt Wr.heap.size r2 y2) := hr
     have HK3 : Hid (Kept (· ≠ Wr.heap.size) wr y2) := HK2.out.trans hk
     clear hr hk
     obtain ⟨e3, r3, ha⟩ : ∃ a s, rNum r2 = (a, s) := ⟨_, _, rfl⟩
     have hc := rxall_x Wr.heap.size r2 y2 HRy2.out
     have hue3 := rNum_u64 r2
     rw [ha] at hc hue3
     have HUe3 := Lib.hid hue3
     have HAe3 := Lib.hid ha
     have HC := Lib.hid hc
     clear hc ha hue3
     go_wp2_with fail
     refine (HAny.out _).mono ?_
     rintro e wz ⟨rfl, hw⟩
     have hw := hw.symm
     subst hw
     go_wp2_with fail
     refine HC.out.mono ?_
     rintro e y3 ⟨rfl, hr, hk⟩
     clear HC
     have HRy3 : Hid (RxAt Wr.heap.size r3 y3) := hr
     have HK4 : Hid (Kept (· ≠ Wr.heap.size) wr y3) := HK3.out.trans hk
     clear hr hk
     obtain ⟨O1, hO1, hXX, hXB, -⟩ := boxes1 y3 #[.int .u64 0, .int .u64 0, .string ⟨#[]⟩, .int .u64 0] 116
     obtain ⟨X4, hX4, hXY, hXC, -⟩ := stor4 (.int .u64 e0) (.int .u64 e1) (.string e2) (.int .u64 e3) hXX hXB (Nat.le_refl _)
     obtain ⟨xf0, xf1, xf2, xf3⟩ := cz4 hXX
     obtain ⟨xc0, xc1, xc2, xc3⟩ := cl4 hXX
     obtain ⟨z0, z1, z2, z3⟩ := cl4 hXY
     have hkX : Kept (· ≠ Wr.heap.size) wr X4 := HK4.out.trans (Kept.of hXC)
     have HR5 : Hid (RxAt Wr.heap.size r3 X4) := HRy3.out.keep (q := fun _ => True) (Kept.of hXC) trivial
     have hqy : X4.heap[w2.heap.size]? = some (.cells #[.int .i64 a0, .int .u64 a1, u, y] 60 (0, 0)) := hkX.known HNE.out HQ.out
     have hby : Below Wr.heap.size Wr X4 := HB.out.trans (hkX.below (fun _ hk => Nat.ne_of_lt hk) HB.out.size)
     have hgy := HG.out.keep hkX (fun k hk => by have := HQL.out; have := HS4.out; show k ≠ Wr.heap.size; omega)
     have c5 : X4.cell? ⟨w2.heap.size, 3, none⟩ = some y := cCc hqy 3
     obtain ⟨g, cap, x3, hap, hG3, hB3, hz3, hbl3⟩ := hgy.push (w0 := Wr) (B := Wr.heap.size) 58 und_ents' info_ent' rfl (by decide) (⟨e0, e1, e2, e3⟩ : Ent) [.int .u64 e0, .int .u64 e1, .string e2, .int .u64 e3] rfl hby (by have := HQL.out; have := HS4.out; omega) (Nat.le_trans HWs.out hkX.size) (by simp [Value.oneCell']) (by rw [HLe.out]; omega) (by decide)
     rw [HLe.out] at hap hG3
     have hq3 : x3.heap[w2.heap.size]? = some (.cells #[.int .i64 a0, .int .u64 a1, u, y] 60 (0, 0)) := (hbl3 _ (by have := HS4.out; omega)).trans hqy
     have c6 : x3.cell? ⟨w2.heap.size, 3, none⟩ = some y := cCc hq3 3
     have f6 : x3.frozen? ⟨w2.heap.size, 3, none⟩ = false := cFz hq3 3
     obtain ⟨V, hV, hVX, hVA, hVB, -⟩ := box_set (i := 3) hq3 (.slice (some ⟨g, 0, none⟩) (k + 1) cap)
     have hkV : Kept (· ≠ w2.heap.size) x3 V := by rw [← hV]; exact Kept.refl.set (fun _ h => h rfl) _ _
     have hkx : Kept (fun k => k ≠ Wr.heap.size ∧ k ≠ w2.heap.size) w4 x3 := ⟨hB3.os.trans HB4.out.os.symm, hB3.tape.trans HB4.out.tape.symm, hB3.output.trans HB4.out.output.symm, by have := HWs.out; have := hkX.size; omega, fun k hk hq => (hbl3 k hk).trans ((hkX.block k (Nat.lt_of_lt_of_le hk HWs.out) hq.1).trans (HKp.out.block k hk hq))⟩
     have FI : Hid (iter (stepL rEnt) (k + 1) ([], s3) = (es ++ [(⟨e0, e1, e2, e3⟩ : Ent)], r3) ∧ RxAt Wr.heap.size r3 V ∧ V.heap[w2.heap.size]? = some (.cells #[.int .i64 a0, .int .u64 a1, u, .slice (some ⟨g, 0, none⟩) (k + 1) cap] 60 (0, 0)) ∧ GrowE Ent.enc V w4.heap.size 116 4 (.slice (some ⟨g, 0, none⟩) (k + 1) cap) (es ++ [(⟨e0, e1, e2, e3⟩ : Ent)]) ∧ (es ++ [(⟨e0, e1, e2, e3⟩ : Ent)]).length = k + 1 ∧ Below Wr.heap.size Wr V ∧ Kept (fun k => k ≠ Wr.heap.size ∧ k ≠ w2.heap.size) w4 V) := by
      refine ⟨?_, ?_, hVX, hG3.keep hkV (fun k hk => by have := HS4.out; show k ≠ w2.heap.size; omega), by rw [List.length_append, HLe.out]; rfl, hVB _ _ (Nat.le_of_lt HQL.out) hB3, hkx.trans (hkV.mono fun k hk => hk.2)⟩
      ·show stepL rEnt (iter (stepL rEnt) k ([], s3)) = _
       rw [HIe.out]
       unfold stepL rEnt
       dsimp only
       rw [HAe0.out]
       dsimp only
       rw [HAe1.out]
       dsimp only
       rw [HAe2.out]
       dsimp only
       rw [HAe3.out]
      ·refine RxAt.keep (q := (· ≠ w2.heap.size)) ?_ hkV (Ne.symm HNE.out)
       have hSQ := HQL.out
       have hSs := HS4.out
       have hRx := HR5.out
       cases r3 with
       | none => obtain ⟨z, hz, h⟩ := hRx; exact ⟨z, hz, (hbl3 _ (by omega)).trans h⟩
       | some z => exact ⟨hRx.1, (hbl3 _ (by omega)).trans hRx.2⟩
     clear hXX hXB hXY hXC hkX hqy hby hgy hG3 hB3 hz3 hbl3 hq3 hVX hVA hVB hkV hkx
     go_wp2_with fail
     go_roundw
     case rel =>
      obtain ⟨h1, h2, h3, h4, h5, h6, h7⟩ := FI.out
      exact ⟨k + 1, _, _, _, by go_num, by omega, h1, h2, h3, h4, h5, h6, h7⟩
     case measure => simp [intOf]; omega
    ·obtain rfl : k = nT := by omega
     obtain ⟨sz, xz, r0, r1, hend⟩ := rx_end HR.out
     obtain ⟨hRX, hRB⟩ := HRes.out wr HB.out
     obtain ⟨rf0, rf1, rf2, rf3⟩ := cz4 hRX
     obtain ⟨rc0, rc1, rc2, rc3⟩ := cl4 hRX
     have hQX := HQ.out
     obtain ⟨qc0, qc1, qc2, qc3⟩ := cl4 hQX
     rcases hend with ⟨he, rfl, rfl⟩ | ⟨he, rfl⟩ | ⟨he, rfl, hne⟩
     ·obtain ⟨V, hV, hVX, hVB, hVK⟩ := stor4 (.int .i64 a0) (.int .u64 a1) (u) (y) hRX hRB (Nat.le_refl _)
      obtain ⟨vc0, vc1, vc2, vc3⟩ := cl4 hVX
      have HF := Lib.hid hVB
      have hGi : GrowE encI V (w2.heap.size + 1) 3 1 u ts := ((HGi.out.keep' HKp.out (fun k hk _ => by have := HQL.out; constructor <;> omega)).keep' hVK (fun k hk _ => by have := HQL.out; have := HWr.out; show k ≠ w.heap.size; omega))
      have hGt : GrowE Ent.enc V w4.heap.size 116 4 y es := HG.out.keep' hVK (fun k hk _ => by have := HQL.out; have := HWr.out; have := HS4.out; show k ≠ w.heap.size; omega)
      obtain ⟨ia, ic, rfl, hsi⟩ := hGi.sl (fun x => rfl)
      obtain ⟨ta, tc, rfl, hst⟩ := hGt.sl (fun x => rfl)
      have hg : getRy l = some ⟨a0, a1, ts, es⟩ := getRy_some he HAa0.out HAa1.out HAa2.out (by simpa using HIu.out) HAa3.out (by simpa using HIe.out)
      clear hRX hRB hQX hVX hVB hVK hGi hGt he
      go_wp2_with fail
      refine bodyPost_ret (v := .tuple #[.agg (ryV ⟨a0, a1, ts, es⟩ ia ic ta tc), .int .i64 0]) (by simp [results, ryV, Tryz.f26, go_sem, vc0, vc1, vc2, vc3]) rfl ?_
      rw [hg]
      exact ⟨⟨_, _, _, _, rfl, hsi, hst⟩, HF.out⟩
     all_goals
      obtain ⟨V, hV, hVX, hVB, hVK⟩ := stor4 (.int .i64 0) (.int .u64 0) (.slice none 0 0) (.slice none 0 0) hRX hRB (Nat.le_refl _)
      obtain ⟨vc0, vc1, vc2, vc3⟩ := cl4 hVX
      have HF := Lib.hid hVB
      have hg : getRy l = none := getRy_none he HAa0.out HAa1.out HAa2.out (by simpa using HIu.out) HAa3.out (by simpa using HIe.out)
      clear hRX hRB hQX hVX hVB hVK he
      go_wp2_with fail
      refine bodyPost_ret (v := .tuple #[.agg ryZ, .int .i64 200]) (by simp [results, ryZ, Tryz.f26, go_sem, vc0, vc1, vc2, vc3]) rfl ?_
      rw [hg]
      exact ⟨rfl, HF.out⟩
end Go.Proofs.YtpklkhgnjbopnaaGreatDoor
namespace Go.Proofs.YtpklkhgnjbopnaaGreatDoor
open Go Go.RowKit Go.Shelf
theorem grQ_ok (l : List UInt8) : (grQ l).ok = true := by
 unfold grQ
 cases h : getRq l with
 | none => decide
 | some q => exact (getRq_inv h).1
theorem gyQ_ok (l : List UInt8) : (gyQ l).ok = true := by
 unfold gyQ
 cases h : getRy l with
 | none => decide
 | some q => exact (getRy_inv h).1
theorem RPutReq_fn (r : Rq) (ia : Option Addr) (ic : Nat) (ta : Option Addr) (tc : Nat) (w : World) (h : r.Sm) (hI : SlE encIt 2 w.heap.size w ia r.items.length r.items) (hT : SlE encU 1 w.heap.size w ta r.tens.length r.tens) :
  CR 20 #[.agg (rqV r ia ic ta tc)] w (.tuple #[.string (prA r), .int .i64 (prE r)]) := ref20_PutReq_any r ia ic ta tc w h.wf hI hT
theorem RPutReply_fn (y : Ry) (na : Option Addr) (nc : Nat) (ea : Option Addr) (ec : Nat) (w : World) (h : y.Sm) (hI : SlE encI 1 w.heap.size w na y.nots.length y.nots) (hE : SlE Ent.enc 4 w.heap.size w ea y.ents.length y.ents) :
  CR 22 #[.agg (ryV y na nc ea ec)] w (.tuple #[.string (pyA y), .int .i64 (pyE y)]) := ref20_PutReply_any y na nc ea ec w h.wf.n (fun x hx => ⟨h.wf.ents x hx, by have := h.t x hx; omega⟩) hI hE
theorem RGetReq_fn (s : ByteArray) (w : World) (hs : s.size < 4294967281) :
  Calls Tryz.prog 24 #[.string s] w fun e w' => ∃ ia ic ta tc, e = .returned (.tuple #[.agg (rqV (grQ s.data.toList) ia ic ta tc), .int .i64 (grE s.data.toList)]) ∧ SlE encIt 2 w'.heap.size w' ia (grQ s.data.toList).items.length (grQ s.data.toList).items ∧ SlE encU 1 w'.heap.size w' ta (grQ s.data.toList).tens.length (grQ s.data.toList).tens ∧ Below w.heap.size w w' := by
 refine (refGetReq_any s w hs).mono ?_
 rintro e w' ⟨h, hb⟩
 unfold grQ grE
 cases hg : getRq s.data.toList with
 | none =>
  rw [hg] at h
  obtain rfl : e = _ := h
  exact ⟨none, 0, none, 0, rfl, SlE.nil, SlE.nil, hb⟩
 | some q =>
  rw [hg] at h
  obtain ⟨ia, ic, ta, tc, rfl, h1, h2⟩ := h
  exact ⟨ia, ic, ta, tc, rfl, h1, h2, hb⟩
theorem RGetReply_fn (s : ByteArray) (w : World) (hs : s.size < 4294967281) :
  Calls Tryz.prog 26 #[.string s] w fun e w' => ∃ na nc ea ec, e = .returned (.tuple #[.agg (ryV (gyQ s.data.toList) na nc ea ec), .int .i64 (gyE s.data.toList)]) ∧ SlE encI 1 w'.heap.size w' na (gyQ s.data.toList).nots.length (gyQ s.data.toList).nots ∧ SlE Ent.enc 4 w'.heap.size w' ea (gyQ s.data.toList).ents.length (gyQ s.data.toList).ents ∧ Below w.heap.size w w' := by
 refine (refGetReply_any s w hs).mono ?_
 rintro e w' ⟨h, hb⟩
 unfold gyQ gyE
 cases hg : getRy s.data.toList with
 | none =>
  rw [hg] at h
  obtain rfl : e = _ := h
  exact ⟨none, 0, none, 0, rfl, SlE.nil, SlE.nil, hb⟩
 | some q =>
  rw [hg] at h
  obtain ⟨na, nc, ea, ec, rfl, h1, h2⟩ := h
  exact ⟨na, nc, ea, ec, rfl, h1, h2, hb⟩
def hlA (now : Int) (t : ByteArray) : ByteArray := if 400 < t.size then ⟨#[]⟩ else ⟨(mkF (helB now t)).toArray⟩
def hlE (t : ByteArray) : Int := if 400 < t.size then 200 else 0
theorem Hello_fn (now : Int) (t : ByteArray) (w : World) (hn : U64 now) (ht : t.size < 4294967281) : CR 15 #[.int .u64 now, .string t] w (.tuple #[.string (hlA now t), .int .i64 (hlE t)]) := by
 unfold hlA hlE
 by_cases h : 400 < t.size
 ·rw [if_pos h, if_pos h]; exact Hello_bad now t h ht w
 ·rw [if_neg h, if_neg h]; exact Hello_ok now t hn (by omega) w
theorem RHello_fn (now : Int) (t : ByteArray) (w : World) (hn : U64 now) (ht : t.size < 4294967281) : CR 27 #[.int .u64 now, .string t] w (.tuple #[.string (hlA now t), .int .i64 (hlE t)]) := by
 unfold hlA hlE
 by_cases h : 400 < t.size
 ·rw [if_pos h, if_pos h]; exact refHello_bad now t h ht w
 ·rw [if_neg h, if_neg h]; exact refHello_ok now t hn (by omega) w
def akA (r : Rq) : ByteArray := if r.ok then ⟨(mkF (askB r)).toArray⟩ else ⟨#[]⟩
theorem Ask_fn (r : Rq) (ia : Option Addr) (ic : Nat) (ta : Option Addr) (tc : Nat) (w : World) (h : r.Sm) (hI : SlE encIt 2 w.heap.size w ia r.items.length r.items) (hT : SlE encU 1 w.heap.size w ta r.tens.length r.tens) :
  CR 28 #[.agg (rqV r ia ic ta tc)] w (.tuple #[.string (akA r), .int .i64 (prE r)]) := by
 unfold akA prE
 cases hok : r.ok with
 | true => exact Ask_ok r ia ic ta tc w h.wf (by have := h.l; omega) (by have := h.s; omega) hI hT hok
 | false => exact Ask_bad r ia ic ta tc w h.wf (by have := h.l; omega) (by have := h.s; omega) hI hT hok
theorem RAsk_fn (r : Rq) (ia : Option Addr) (ic : Nat) (ta : Option Addr) (tc : Nat) (w : World) (h : r.Sm) (hI : SlE encIt 2 w.heap.size w ia r.items.length r.items) (hT : SlE encU 1 w.heap.size w ta r.tens.length r.tens) :
  CR 29 #[.agg (rqV r ia ic ta tc)] w (.tuple #[.string (akA r), .int .i64 (prE r)]) := refAsk_any r ia ic ta tc w h.wf hI hT
set_option maxRecDepth 100000 in
set_option maxHeartbeats 16000000 in
theorem wireCodes_go (r : Rq) (y : Ry) (s : ByteArray) (now : Int) (fm ff : Addr) (ia : Option Addr) (ic : Nat) (ta : Option Addr) (tc : Nat) (na : Option Addr) (nc : Nat) (ea : Option Addr) (ec : Nat) (w : World) (hnow : U64 now) (hE : GF fm ff w) (hT : Fr.GT w) (hw : r.Wf) (hv : y.Wf) (hic : r.items.length ≤ ic) (htc : r.tens.length ≤ tc) (hnc : y.nots.length ≤ nc)
  (hI : SlE encIt 2 w.heap.size w ia r.items.length r.items) (hT2 : SlE encU 1 w.heap.size w ta r.tens.length r.tens) (hN : SlE encI 1 w.heap.size w na y.nots.length y.nots) (hEn : SlE Ent.enc 4 w.heap.size w ea y.ents.length y.ents) :
  CR 5 #[.agg (rqV r ia ic ta tc), .agg (ryV y na nc ea ec), .string s, .int .u64 now] w (.bool true) := by
 obtain ⟨W, hW, hX, hY, hB, hsz⟩ := boxes2 w (rqV r ia ic ta tc) 56 (ryV y na nc ea ec) 60
 obtain ⟨r2, hr2⟩ : ∃ r2, fewRq r = r2 := ⟨_, rfl⟩
 obtain ⟨y2, hy2⟩ : ∃ y2, fewRy y = y2 := ⟨_, rfl⟩
 have hs2 : r2.Sm := hr2 ▸ fewRq_sm hw
 have ht2 : y2.Sm := hy2 ▸ fewRy_sm hv
 have HE : Hid (∀ V, Below w.heap.size w V → GF fm ff V) := fun V hV => hE.below hV
 have HSh := Lib.hid (shown20_any fm ff W (hE.below hB) (hT.go hB))
 have HFq := Lib.hid fun V => Few20_any r ia ic ta tc V hic htc
 have HFy := Lib.hid fun V (hV : Below w.heap.size w V) => few20_any y na nc ea ec V hnc ((hEn.below hV).mono hV.size)
 rw [hr2] at HFq
 rw [hy2] at HFy
 have HI2 : Hid (∀ V, Below w.heap.size w V → SlE encIt 2 V.heap.size V ia r2.items.length r2.items ∧ SlE encU 1 V.heap.size V ta r2.tens.length r2.tens ∧ SlE encI 1 V.heap.size V na y2.nots.length y2.nots) := fun V hV => by
  have e1 : r2.items = r.items.take 52 := by rw [← hr2]; rfl
  have e2 : r2.tens = r.tens.take 10 := by rw [← hr2]; rfl
  have e3 : y2.nots = y.nots.take 102 := by rw [← hy2]; rfl
  rw [e1, e2, e3]
  have h1 := ((hI.below hV).mono hV.size)
  have h2 := ((hT2.below hV).mono hV.size)
  have h3 := ((hN.below hV).mono hV.size)
  have tk : ∀ {α : Type} {enc : α → List Value} {k : Nat} {a : Option Addr} {l : List α} (m : Nat), SlE enc k V.heap.size V a l.length l → SlE enc k V.heap.size V a (l.take m).length (l.take m) := fun {α enc k a l} m h => by
   have h4 := h.take (min m l.length) (Nat.min_le_right _ _)
   have e : l.take (min m l.length) = l.take m := by
    by_cases hm : m ≤ l.length
    ·rw [Nat.min_eq_left hm]
    ·rw [Nat.min_eq_right (by omega), List.take_of_length_le (Nat.le_refl _), List.take_of_length_le (by omega)]
   rw [e] at h4
   rw [List.length_take]
   exact h4
  exact ⟨tk 52 h1, tk 10 h2, tk 102 h3⟩
 unfold rqV at hX hW
 unfold ryV at hY hW
 have HX := Lib.hid (And.intro hX (And.intro hY hB))
 have HSm := Lib.hid (And.intro hs2 ht2)
 have HWF := Lib.hid (And.intro hs2.wf ht2.wf)
 unfold rqV at HFq
 unfold ryV at HFy
 unfold rqV ryV
 clear hX hY hB hsz hE hT hic htc hnc hI hT2 hN hEn hr2 hy2 hs2 ht2 hw hv
 go_enter Tryz.func5, Tryz.ntmps5
 go_wp2_with fail
 refine HSh.out.mono ?_
 rintro e w1 ⟨rfl, hb1⟩
 obtain ⟨hX, hY, hB⟩ := HX.out
 have ah := known hb1 (Nat.le_refl _) hX
 have bh := known hb1 (Nat.le_refl _) hY
 obtain ⟨a0, a1, a2, a3, a4, a5, a6, a7, a8, a9⟩ := cl10 ah
 have HA := Lib.hid (And.intro ah (And.intro bh (hB.trans (hb1.mono hB.size))))
 clear hX hY hB hb1 ah bh
 go_wp2_with fail
 refine (HFq.out _).mono ?_
 rintro e w2 ⟨rfl, hb2⟩
 obtain ⟨ah, bh, hB⟩ := HA.out
 have ch := known hb2 (Nat.le_refl _) ah
 have dh := known hb2 (Nat.le_refl _) bh
 have hB2 := hB.trans (hb2.mono hB.size)
 obtain ⟨c0, c1, c2, c3, c4, c5, c6, c7, c8, c9⟩ := cl10 ch
 obtain ⟨cf0, cf1, cf2, cf3, cf4, cf5, cf6, cf7, cf8, cf9⟩ := cz10 ch
 obtain ⟨V2, hV2, eh, hBV2, hKV2⟩ := stor10 (.int .i64 r2.op) (.int .u64 r2.now) (.string r2.labels) (.string r2.scope) (.int .i64 r2.kind) (.slice ia r2.items.length ic) (.int .u64 r2.h) (.int .u64 r2.tnt) (.int .u64 r2.id) (.slice ta r2.tens.length tc) ch hB2 (Nat.le_refl _)
 have fh := hKV2.known (show w.heap.size + 1 ≠ w.heap.size by omega) dh
 have HFy2 := Lib.hid (HFy.out V2 hBV2)
 obtain ⟨f0, f1, f2, f3⟩ := cl4 fh
 have HV2 := Lib.hid (And.intro eh (And.intro fh hBV2))
 clear ah bh hB ch dh hB2 hb2 hBV2 hKV2 eh fh a0 a1 a2 a3 a4 a5 a6 a7 a8 a9
 go_wp2_with fail
 refine HFy2.out.mono ?_
 rintro e w3 ⟨fa, fc, rfl, hsl, hfar, hb3⟩
 obtain ⟨eh, fh, hBV2⟩ := HV2.out
 have gh := known hb3 (Nat.le_refl _) eh
 have hh := known hb3 (Nat.le_refl _) fh
 have hB3 := hBV2.trans (hb3.mono hBV2.size)
 obtain ⟨h0, h1, h2, h3⟩ := cl4 hh
 obtain ⟨hf0, hf1, hf2, hf3⟩ := cz4 hh
 obtain ⟨V3, hV3, jh, hBV3, hKV3⟩ := stor4 (.int .i64 y2.e) (.int .u64 y2.n) (.slice na y2.nots.length nc) (.slice fa y2.ents.length fc) hh hB3 (Nat.le_succ _)
 have ih := hKV3.known (show w.heap.size ≠ w.heap.size + 1 by omega) gh
 have hsl3 : SlE Ent.enc 4 V3.heap.size V3 fa y2.ents.length y2.ents := by
  have e : V3.heap.size = w3.heap.size := Nat.le_antisymm (by rw [← hV3]; simp) hKV3.size
  rw [e, ← hV3]
  have hne : ∀ x, fa = some x → w.heap.size + 1 ≠ x.block := fun x hx => by have := hfar x hx; have := (Array.getElem?_eq_some_iff.1 fh).1; omega
  exact ((((hsl.set_far (p := ⟨w.heap.size + 1, 0, none⟩) hne _).set_far (p := ⟨w.heap.size + 1, 1, none⟩) hne _).set_far (p := ⟨w.heap.size + 1, 2, none⟩) hne _).set_far (p := ⟨w.heap.size + 1, 3, none⟩) hne _)
 clear eh fh hBV2 gh hh hB3 hb3 hKV3 hsl hfar c0 c1 c2 c3 c4 c5 c6 c7 c8 c9 f0 f1 f2 f3
 have HV3 := Lib.hid (And.intro ih (And.intro jh (And.intro hBV3 hsl3)))
 obtain ⟨i0, i1, i2, i3, i4, i5, i6, i7, i8, i9⟩ := cl10 ih
 have HVV : Hid (∀ V, Below V3.heap.size V3 V → V.heap[w.heap.size]? = some (.cells #[.int .i64 r2.op, .int .u64 r2.now, .string r2.labels, .string r2.scope, .int .i64 r2.kind, .slice ia r2.items.length ic, .int .u64 r2.h, .int .u64 r2.tnt, .int .u64 r2.id, .slice ta r2.tens.length tc] 56 (0, 0)) ∧ V.heap[w.heap.size + 1]? = some (.cells #[.int .i64 y2.e, .int .u64 y2.n, .slice na y2.nots.length nc, .slice fa y2.ents.length fc] 60 (0, 0)) ∧ (SlE encIt 2 V.heap.size V ia r2.items.length r2.items ∧ SlE encU 1 V.heap.size V ta r2.tens.length r2.tens ∧ SlE encI 1 V.heap.size V na y2.nots.length y2.nots) ∧ SlE Ent.enc 4 V.heap.size V fa y2.ents.length y2.ents ∧ Below w.heap.size w V) := fun V hV => by
  obtain ⟨h1, h2, h3, h4⟩ := HV3.out
  have hb := h3.trans (hV.mono h3.size)
  exact ⟨known hV (Nat.le_refl _) h1, known hV (Nat.le_refl _) h2, HI2.out _ hb, h4.go hV, hb⟩
 obtain ⟨hs2, ht2⟩ := HSm.out
 have HPA := Lib.hid fun V hI hT => PutReq_fn r2 ia ic ta tc V hs2 hI hT
 have HPB := Lib.hid fun V hI hT => RPutReq_fn r2 ia ic ta tc V hs2 hI hT
 have HPC := Lib.hid fun V hI hE => PutReply_fn y2 na nc fa fc V ht2 hI hE
 have HPD := Lib.hid fun V hI hE => RPutReply_fn y2 na nc fa fc V ht2 hI hE
 have HPX := Lib.hid fun V hI hT => Ask_fn r2 ia ic ta tc V hs2 hI hT
 have HPW := Lib.hid fun V hI hT => RAsk_fn r2 ia ic ta tc V hs2 hI hT
 have HCUT := Lib.hid fun V => cut20_any s V
 obtain ⟨C, hC⟩ : ∃ C, cutS 2010 s = C := ⟨_, rfl⟩
 have hCz : C.size < 4294967281 := by have := cutS_size 2010 s; rw [hC] at this; omega
 rw [hC] at HCUT
 have HG1 := Lib.hid fun V hV => GetReq_fn C fm ff V hCz hV
 have HG2 := Lib.hid fun V => RGetReq_fn C V hCz
 have HG3 := Lib.hid fun V hV => GetReply_fn C fm ff V hCz hV
 have HG4 := Lib.hid fun V => RGetReply_fn C V hCz
 have HH1 := Lib.hid fun V => Hello_fn now C V hnow hCz
 have HH2 := Lib.hid fun V => RHello_fn now C V hnow hCz
 have HQo := Lib.hid (grQ_ok C.data.toList)
 have HYo := Lib.hid (gyQ_ok C.data.toList)
 have HQw := Lib.hid (grQ_sm C.data.toList).wf
 obtain ⟨q1, hq1⟩ : ∃ q, grQ C.data.toList = q := ⟨_, rfl⟩
 obtain ⟨F1, hF1⟩ : ∃ q, grE C.data.toList = q := ⟨_, rfl⟩
 obtain ⟨q2, hq2⟩ : ∃ q, gyQ C.data.toList = q := ⟨_, rfl⟩
 obtain ⟨F2, hF2⟩ : ∃ q, gyE C.data.toList = q := ⟨_, rfl⟩
 rw [hq1, hF1] at HG1 HG2
 rw [hq1] at HQo HQw
 rw [hq2, hF2] at HG3 HG4
 rw [hq2] at HYo
 obtain ⟨A1, hA1⟩ : ∃ q, prA r2 = q := ⟨_, rfl⟩
 obtain ⟨E1, hE1⟩ : ∃ q, prE r2 = q := ⟨_, rfl⟩
 obtain ⟨A2, hA2⟩ : ∃ q, pyA y2 = q := ⟨_, rfl⟩
 obtain ⟨E2, hE2⟩ : ∃ q, pyE y2 = q := ⟨_, rfl⟩
 obtain ⟨A3, hA3⟩ : ∃ q, hlA now C = q := ⟨_, rfl⟩
 obtain ⟨E3, hE3⟩ : ∃ q, hlE C = q := ⟨_, rfl⟩
 obtain ⟨A4, hA4⟩ : ∃ q, akA r2 = q := ⟨_, rfl⟩
 rw [hA1, hE1] at HPA HPB
 rw [hA2, hE2] at HPC HPD
 rw [hA3, hE3] at HH1 HH2
 rw [hA4, hE1] at HPX HPW
 unfold rqV at HPA HPB HPX HPW HG1 HG2
 unfold ryV at HPC HPD HG3 HG4
 clear hs2 ht2 hq1 hF1 hq2 hF2 hA1 hE1 hA2 hE2 hA3 hE3 hA4 hC hCz hnow ih jh hBV3 hsl3 HSm HI2 HWF
 have hh3 := HVV.out V3 (Below.refl _ _)
 have HP1 := Lib.hid (HPA.out V3 hh3.2.2.1.1 hh3.2.2.1.2.1)
 clear hh3
 go_wp2_with fail
 refine HP1.out.mono ?_
 rintro e w4 ⟨rfl, hb⟩
 have HB4 : Hid (Below V3.heap.size V3 w4) := hb
 clear hb HP1 i0 i1 i2 i3 i4 i5 i6 i7 i8 i9
 have aah := (HVV.out w4 HB4.out).1
 obtain ⟨aa0, aa1, aa2, aa3, aa4, aa5, aa6, aa7, aa8, aa9⟩ := cl10 aah
 have hh := HVV.out w4 HB4.out
 have HP := Lib.hid (HPB.out w4 hh.2.2.1.1 hh.2.2.1.2.1)
 clear hh aah
 go_wp2_with fail
 refine HP.out.mono ?_
 rintro e w5 ⟨rfl, hb⟩
 have HB5 : Hid (Below V3.heap.size V3 w5) := (HB4.out).trans (hb.mono (HB4.out).size)
 clear hb HP aa0 aa1 aa2 aa3 aa4 aa5 aa6 aa7 aa8 aa9
 have abh := (HVV.out w5 HB5.out).2.1
 obtain ⟨ab0, ab1, ab2, ab3⟩ := cl4 abh
 have hh := HVV.out w5 HB5.out
 have HP := Lib.hid (HPC.out w5 hh.2.2.1.2.2 hh.2.2.2.1)
 clear hh abh
 go_wp2_with fail
 refine HP.out.mono ?_
 rintro e w6 ⟨rfl, hb⟩
 have HB6 : Hid (Below V3.heap.size V3 w6) := (HB5.out).trans (hb.mono (HB5.out).size)
 clear hb HP ab0 ab1 ab2 ab3
 have ach := (HVV.out w6 HB6.out).2.1
 obtain ⟨ac0, ac1, ac2, ac3⟩ := cl4 ach
 have hh := HVV.out w6 HB6.out
 have HP := Lib.hid (HPD.out w6 hh.2.2.1.2.2 hh.2.2.2.1)
 clear hh ach
 go_wp2_with fail
 refine HP.out.mono ?_
 rintro e w7 ⟨rfl, hb⟩
 have HB7 : Hid (Below V3.heap.size V3 w7) := (HB6.out).trans (hb.mono (HB6.out).size)
 clear hb HP ac0 ac1 ac2 ac3
 go_wp2_with fail
 refine (HCUT.out _).mono ?_
 rintro e wz ⟨rfl, hw⟩
 have hw := hw.symm
 subst hw
 have HG := Lib.hid (HG1.out w7 (fun V hV => HE.out V ((HVV.out w7 HB7.out).2.2.2.2.trans (hV.mono (HVV.out w7 HB7.out).2.2.2.2.size))))
 go_wp2_with fail
 refine HG.out.mono ?_
 rintro e w8 ⟨ja, jc, ka, kc, rfl, hJ, hK, hb⟩
 obtain ⟨X8, hX8, hXX, hBX, -⟩ := boxes1 w8 #[.int .i64 q1.op, .int .u64 q1.now, .string q1.labels, .string q1.scope, .int .i64 q1.kind, .slice ja q1.items.length jc, .int .u64 q1.h, .int .u64 q1.tnt, .int .u64 q1.id, .slice ka q1.tens.length kc] 56
 have HX8 : Hid (∀ V, Below X8.heap.size X8 V → V.heap[w8.heap.size]? = some (.cells #[.int .i64 q1.op, .int .u64 q1.now, .string q1.labels, .string q1.scope, .int .i64 q1.kind, .slice ja q1.items.length jc, .int .u64 q1.h, .int .u64 q1.tnt, .int .u64 q1.id, .slice ka q1.tens.length kc] 56 (0, 0)) ∧ SlE encIt 2 V.heap.size V ja q1.items.length q1.items ∧ SlE encU 1 V.heap.size V ka q1.tens.length q1.tens) := fun V hV => ⟨known hV (Nat.le_refl _) hXX, (hJ.go hBX).go hV, (hK.go hBX).go hV⟩
 have HK8 : Hid (Below w7.heap.size w7 X8) := hb.trans (hBX.mono hb.size)
 have HB8 : Hid (Below V3.heap.size V3 X8) := (HB7.out).trans (HK8.out.mono (HB7.out).size)
 clear hJ hK hb hXX hBX HG
 go_wp2_with fail
 refine (HCUT.out _).mono ?_
 rintro e wz ⟨rfl, hw⟩
 have hw := hw.symm
 subst hw
 have HG := Lib.hid (HG2.out X8)
 go_wp2_with fail
 refine HG.out.mono ?_
 rintro e w9 ⟨pa, pc, qa, qc, rfl, hJ, hK, hb⟩
 obtain ⟨X9, hX9, hXX, hBX, -⟩ := boxes1 w9 #[.int .i64 q1.op, .int .u64 q1.now, .string q1.labels, .string q1.scope, .int .i64 q1.kind, .slice pa q1.items.length pc, .int .u64 q1.h, .int .u64 q1.tnt, .int .u64 q1.id, .slice qa q1.tens.length qc] 56
 have HX9 : Hid (∀ V, Below X9.heap.size X9 V → V.heap[w9.heap.size]? = some (.cells #[.int .i64 q1.op, .int .u64 q1.now, .string q1.labels, .string q1.scope, .int .i64 q1.kind, .slice pa q1.items.length pc, .int .u64 q1.h, .int .u64 q1.tnt, .int .u64 q1.id, .slice qa q1.tens.length qc] 56 (0, 0)) ∧ SlE encIt 2 V.heap.size V pa q1.items.length q1.items ∧ SlE encU 1 V.heap.size V qa q1.tens.length q1.tens) := fun V hV => ⟨known hV (Nat.le_refl _) hXX, (hJ.go hBX).go hV, (hK.go hBX).go hV⟩
 have HK9 : Hid (Below X8.heap.size X8 X9) := hb.trans (hBX.mono hb.size)
 have HB9 : Hid (Below V3.heap.size V3 X9) := (HB8.out).trans (HK9.out.mono (HB8.out).size)
 clear hJ hK hb hXX hBX HG
 go_wp2_with fail
 refine (HCUT.out _).mono ?_
 rintro e wz ⟨rfl, hw⟩
 have hw := hw.symm
 subst hw
 have HG := Lib.hid (HG3.out X9 (fun V hV => HE.out V ((HVV.out X9 HB9.out).2.2.2.2.trans (hV.mono (HVV.out X9 HB9.out).2.2.2.2.size))))
 go_wp2_with fail
 refine HG.out.mono ?_
 rintro e w10 ⟨ma, mc, ga, gc, rfl, hJ, hK, hb⟩
 obtain ⟨X10, hX10, hXX, hBX, -⟩ := boxes1 w10 #[.int .i64 q2.e, .int .u64 q2.n, .slice ma q2.nots.length mc, .slice ga q2.ents.length gc] 60
 have HX10 : Hid (∀ V, Below X10.heap.size X10 V → V.heap[w10.heap.size]? = some (.cells #[.int .i64 q2.e, .int .u64 q2.n, .slice ma q2.nots.length mc, .slice ga q2.ents.length gc] 60 (0, 0)) ∧ SlE encI 1 V.heap.size V ma q2.nots.length q2.nots ∧ SlE Ent.enc 4 V.heap.size V ga q2.ents.length q2.ents) := fun V hV => ⟨known hV (Nat.le_refl _) hXX, (hJ.go hBX).go hV, (hK.go hBX).go hV⟩
 have HK10 : Hid (Below X9.heap.size X9 X10) := hb.trans (hBX.mono hb.size)
 have HB10 : Hid (Below V3.heap.size V3 X10) := (HB9.out).trans (HK10.out.mono (HB9.out).size)
 clear hJ hK hb hXX hBX HG
 go_wp2_with fail
 refine (HCUT.out _).mono ?_
 rintro e wz ⟨rfl, hw⟩
 have hw := hw.symm
 subst hw
 have HG := Lib.hid (HG4.out X10)
 go_wp2_with fail
 refine HG.out.mono ?_
 rintro e w11 ⟨sa, sc, va, vc, rfl, hJ, hK, hb⟩
 obtain ⟨X11, hX11, hXX, hBX, -⟩ := boxes1 w11 #[.int .i64 q2.e, .int .u64 q2.n, .slice sa q2.nots.length sc, .slice va q2.ents.length vc] 60
 have HX11 : Hid (∀ V, Below X11.heap.size X11 V → V.heap[w11.heap.size]? = some (.cells #[.int .i64 q2.e, .int .u64 q2.n, .slice sa q2.nots.length sc, .slice va q2.ents.length vc] 60 (0, 0)) ∧ SlE encI 1 V.heap.size V sa q2.nots.length q2.nots ∧ SlE Ent.enc 4 V.heap.size V va q2.ents.length q2.ents) := fun V hV => ⟨known hV (Nat.le_refl _) hXX, (hJ.go hBX).go hV, (hK.go hBX).go hV⟩
 have HK11 : Hid (Below X10.heap.size X10 X11) := hb.trans (hBX.mono hb.size)
 have HB11 : Hid (Below V3.heap.size V3 X11) := (HB10.out).trans (HK11.out.mono (HB10.out).size)
 clear hJ hK hb hXX hBX HG
 go_wp2_with fail
 refine (HCUT.out _).mono ?_
 rintro e wz ⟨rfl, hw⟩
 have hw := hw.symm
 subst hw
 go_wp2_with fail
 refine (HH1.out _).mono ?_
 rintro e w12 ⟨rfl, hb⟩
 have HB12 : Hid (Below V3.heap.size V3 w12) := (HB11.out).trans (hb.mono (HB11.out).size)
 have HK12 : Hid (Below X11.heap.size X11 w12) := hb
 clear hb
 go_wp2_with fail
 refine (HCUT.out _).mono ?_
 rintro e wz ⟨rfl, hw⟩
 have hw := hw.symm
 subst hw
 go_wp2_with fail
 refine (HH2.out _).mono ?_
 rintro e w13 ⟨rfl, hb⟩
 have HB13 : Hid (Below V3.heap.size V3 w13) := (HB12.out).trans (hb.mono (HB12.out).size)
 have HK13 : Hid (Below X11.heap.size X11 w13) := (HK12.out).trans (hb.mono (HK12.out).size)
 clear hb
 have adh := (HVV.out w13 HB13.out).1
 obtain ⟨ad0, ad1, ad2, ad3, ad4, ad5, ad6, ad7, ad8, ad9⟩ := cl10 adh
 have hh := HVV.out w13 HB13.out
 have HP := Lib.hid (HPX.out w13 hh.2.2.1.1 hh.2.2.1.2.1)
 clear hh adh
 go_wp2_with fail
 refine HP.out.mono ?_
 rintro e w14 ⟨rfl, hb⟩
 have HB14 : Hid (Below V3.heap.size V3 w14) := (HB13.out).trans (hb.mono (HB13.out).size)
 have HK14 : Hid (Below X11.heap.size X11 w14) := (HK13.out).trans (hb.mono (HK13.out).size)
 clear hb HP ad0 ad1 ad2 ad3 ad4 ad5 ad6 ad7 ad8 ad9
 have aeh := (HVV.out w14 HB14.out).1
 obtain ⟨ae0, ae1, ae2, ae3, ae4, ae5, ae6, ae7, ae8, ae9⟩ := cl10 aeh
 have hh := HVV.out w14 HB14.out
 have HP := Lib.hid (HPW.out w14 hh.2.2.1.1 hh.2.2.1.2.1)
 clear hh aeh
 go_wp2_with fail
 refine HP.out.mono ?_
 rintro e w15 ⟨rfl, hb⟩
 have HB15 : Hid (Below V3.heap.size V3 w15) := (HB14.out).trans (hb.mono (HB14.out).size)
 have HK15 : Hid (Below X11.heap.size X11 w15) := (HK14.out).trans (hb.mono (HK14.out).size)
 clear hb HP ae0 ae1 ae2 ae3 ae4 ae5 ae6 ae7 ae8 ae9
 have HC : Hid (∀ V, Below w15.heap.size w15 V → Below X8.heap.size X8 V ∧ Below X9.heap.size X9 V ∧ Below X10.heap.size X10 V ∧ Below X11.heap.size X11 V ∧ Below w.heap.size w V) := fun V hV => by
  have h11 := HK15.out.trans (hV.mono HK15.out.size)
  have h10 := HK11.out.trans (h11.mono HK11.out.size)
  have h9 := HK10.out.trans (h10.mono HK10.out.size)
  have h8 := HK9.out.trans (h9.mono HK9.out.size)
  exact ⟨h8, h9, h10, h11, (HVV.out V (HB15.out.trans (hV.mono HB15.out.size))).2.2.2.2⟩
 have HReq : Hid (CR 30 #[.agg #[.int .i64 q1.op, .int .u64 q1.now, .string q1.labels, .string q1.scope, .int .i64 q1.kind, .slice ja q1.items.length jc, .int .u64 q1.h, .int .u64 q1.tnt, .int .u64 q1.id, .slice ka q1.tens.length kc], .agg #[.int .i64 q1.op, .int .u64 q1.now, .string q1.labels, .string q1.scope, .int .i64 q1.kind, .slice pa q1.items.length pc, .int .u64 q1.h, .int .u64 q1.tnt, .int .u64 q1.id, .slice qa q1.tens.length qc]] w15 (.bool true)) := by
  obtain ⟨h8, h9, -, -, -⟩ := HC.out w15 (Below.refl _ _)
  exact ref20_Req_eq q1 ja jc ka kc pa pc qa qc w15 HQw.out (HX8.out _ h8).2.1 (HX8.out _ h8).2.2 (HX9.out _ h9).2.1 (HX9.out _ h9).2.2 HQo.out
 have HSame : Hid (∀ V, Below w15.heap.size w15 V → CR 31 #[.agg #[.int .i64 q2.e, .int .u64 q2.n, .slice ma q2.nots.length mc, .slice ga q2.ents.length gc], .agg #[.int .i64 q2.e, .int .u64 q2.n, .slice sa q2.nots.length sc, .slice va q2.ents.length vc]] V (.bool true)) := fun V hV => by
  obtain ⟨-, -, h10, h11, -⟩ := HC.out V hV
  obtain ⟨z1, z2, -⟩ := ry_ok_sizes HYo.out
  exact same_eq q2 ma mc ga gc sa sc va vc V (by unfold maxLen; omega) (by unfold maxLen; omega) (HX10.out _ h10).2.1 (HX10.out _ h10).2.2 (HX11.out _ h11).2.1 (HX11.out _ h11).2.2
 have hh := HC.out w15 (Below.refl _ _)
 have fh := (HX8.out _ hh.1).1
 have gh := (HX9.out _ hh.2.1).1
 have mh := (HX10.out _ hh.2.2.1).1
 have oh := (HX11.out _ hh.2.2.2.1).1
 obtain ⟨ff0, ff1, ff2, ff3, ff4, ff5, ff6, ff7, ff8, ff9⟩ := cl10 fh
 obtain ⟨gg0, gg1, gg2, gg3, gg4, gg5, gg6, gg7, gg8, gg9⟩ := cl10 gh
 have t1 : (A1.toList == A1.toList) = true := beq_self_eq_true _
 have t2 : (A2.toList == A2.toList) = true := beq_self_eq_true _
 have t3 : (A3.toList == A3.toList) = true := beq_self_eq_true _
 have t4 : (A4.toList == A4.toList) = true := beq_self_eq_true _
 have u1 : (E1 == E1) = true := beq_self_eq_true _
 have u2 : (E2 == E2) = true := beq_self_eq_true _
 have u3 : (E3 == E3) = true := beq_self_eq_true _
 have u4 : (F1 == F1) = true := beq_self_eq_true _
 have u5 : (F2 == F2) = true := beq_self_eq_true _
 clear hh fh gh mh oh HVV HE HPA HPB HPC HPD HPX HPW HG1 HG2 HG3 HG4 HH1 HH2
 go_wp2_with fail
 refine HReq.out.mono ?_
 rintro e w16 ⟨rfl, hb⟩
 have HK16 : Hid (Below w15.heap.size w15 w16) := hb
 have HS := Lib.hid (HSame.out w16 hb)
 have hh := HC.out w16 hb
 have mh := (HX10.out _ hh.2.2.1).1
 have oh := (HX11.out _ hh.2.2.2.1).1
 obtain ⟨mm0, mm1, mm2, mm3⟩ := cl4 mh
 obtain ⟨oo0, oo1, oo2, oo3⟩ := cl4 oh
 clear hb hh mh oh
 go_wp2_with fail
 refine HS.out.mono ?_
 rintro e w17 ⟨rfl, hb⟩
 have HF : Hid (Below w.heap.size w w17) := (HC.out w17 (HK16.out.trans (hb.mono HK16.out.size))).2.2.2.2
 clear hb
 go_wp2_with fail
 go_ret
 exact ⟨rfl, HF.out⟩
theorem wireCodes_any (r : Rq) (ia : Option Addr) (ic : Nat) (ta : Option Addr) (tc : Nat) (y : Ry) (na : Option Addr) (nc : Nat) (ea : Option Addr) (ec : Nat) (s : ByteArray) (now : Int) (fm ff : Addr) (w : World)
  (hw : r.Wf) (hic : r.items.length ≤ ic) (htc : r.tens.length ≤ tc) (hI : SlE encIt 2 w.heap.size w ia r.items.length r.items) (hT2 : SlE encU 1 w.heap.size w ta r.tens.length r.tens) (hv : y.Wf) (hnc : y.nots.length ≤ nc) (hN : SlE encI 1 w.heap.size w na y.nots.length y.nots) (hEn : SlE Ent.enc 4 w.heap.size w ea y.ents.length y.ents) (hnow : U64 now) (hE : GF fm ff w) (hT : Fr.GT w) :
  Calls Tryz.prog 5 #[.agg (rqV r ia ic ta tc), .agg (ryV y na nc ea ec), .string s, .int .u64 now] w fun e w' => e = .returned (.bool true) ∧ Below w.heap.size w w' :=
 wireCodes_go r y s now fm ff ia ic ta tc na nc ea ec w hnow hE hT hw hv hic htc hnc hI hT2 hN hEn
end Go.Proofs.YtpklkhgnjbopnaaGreatDoor

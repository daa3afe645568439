/- The reference of layer 20: GetReq, GetReply. Printed by gen_wcf.py. -/
import Derived.Test.YtpklkhgnjbopnaaGreatDoorVWcg
namespace Go.Proofs.YtpklkhgnjbopnaaGreatDoor
open Go Go.RowKit Go.Shelf
theorem rxall_x (b : Nat) (st : Rd) (w : World) (h : RxAt b st w) :
  Calls Tryz.prog 62 #[.pointer (some ⟨b, 0, none⟩), .int .u64 18446744073709551615] w fun e w' => e = .returned (.int .u64 (rNum st).1) ∧ RxAt b (rNum st).2 w' ∧ Kept (· ≠ b) w w' := by
 have := rxnum_x 18446744073709551615 b st w ⟨by decide, by decide⟩ h
 rwa [rMost_all] at this
theorem rx_end {b : Nat} {st : Rd} {W : World} (h : RxAt b st W) : ∃ (s : ByteArray) (x : Bool), W.cell? ⟨b, 0, none⟩ = some (.string s) ∧ W.cell? ⟨b, 1, none⟩ = some (.bool x) ∧ ((st = some [] ∧ x = false ∧ s = ⟨#[]⟩) ∨ (st ≠ some [] ∧ x = true) ∨ (st ≠ some [] ∧ x = false ∧ s.toList.isEmpty = false)) := by
 cases st with
 | none =>
  obtain ⟨s, -, h⟩ := h
  exact ⟨s, true, cCc h 0, cCc h 1, .inr (.inl ⟨(fun e => by cases e), rfl⟩)⟩
 | some l =>
  cases l with
  | nil => exact ⟨_, false, cCc h.2 0, cCc h.2 1, .inl ⟨rfl, rfl, rfl⟩⟩
  | cons x l =>
   refine ⟨_, false, cCc h.2 0, cCc h.2 1, .inr (.inr ⟨(fun e => by cases e), rfl, ?_⟩)⟩
   rw [toList_isEmpty, str_size]
   rfl
attribute [-go_sem] Builtin.append_
set_option maxRecDepth 100000 in
set_option maxHeartbeats 4000000 in
theorem refGetReq_any (s : ByteArray) (w : World) (hs : s.size < 4294967281) :
  Calls Tryz.prog 24 #[.string s] w (RqPost (getRq s.data.toList) w) := by
 obtain ⟨Wr, hWr, hXr, hBr, hsr⟩ := boxes1 w #[.int .i64 0, .int .u64 0, .string ⟨#[]⟩, .string ⟨#[]⟩, .int .i64 0, .slice none 0 0, .int .u64 0, .int .u64 0, .int .u64 0, .slice none 0 0] 56
 obtain ⟨W0, hW0, hX0, hB0, hs0⟩ := boxes1 Wr #[.string s, .bool false] 135
 have HAny := Lib.hid any64_x
 obtain ⟨l, hl⟩ : ∃ l, s.data.toList = l := ⟨_, rfl⟩
 have hll : l.length < 4294967281 := by rw [← hl, Array.length_toList]; exact hs
 have hsl : s = ⟨l.toArray⟩ := by rw [← hl]
 rw [hl]
 have HR0 : Hid (RxAt Wr.heap.size (some l) W0) := ⟨hll, by rw [← hsl]; exact hX0⟩
 have HB0 : Hid (Below Wr.heap.size Wr W0) := hB0
 have HRes : Hid (∀ W, Below Wr.heap.size Wr W → W.heap[w.heap.size]? = some (.cells #[.int .i64 0, .int .u64 0, .string ⟨#[]⟩, .string ⟨#[]⟩, .int .i64 0, .slice none 0 0, .int .u64 0, .int .u64 0, .int .u64 0, .slice none 0 0] 56 (0, 0)) ∧ Below w.heap.size w W) := fun W hb => ⟨known hb (Nat.le_refl _) hXr, hBr.trans (hb.mono hBr.size)⟩
 have HWr : Hid (w.heap.size < Wr.heap.size) := by rw [Hid]; omega
 clear hX0 hXr hB0 hBr hs0 hsr hll hsl hl hs
 go_enter Tryz.func24, Tryz.ntmps24
 obtain ⟨a0, s0, ha⟩ : ∃ a s, rMost 255 (some l) = (a, s) := ⟨_, _, rfl⟩
 have hc := rxnum_x 255 Wr.heap.size (some l) W0 ⟨by decide, by decide⟩ HR0.out
 have hm := rMost_le (m := 255) (by decide) (some l)
 rw [ha] at hc hm
 obtain ⟨mla0, mua0⟩ : 0 ≤ a0 ∧ a0 ≤ 255 := hm
 have HAa0 := Lib.hid ha
 have HC := Lib.hid hc
 clear hc ha
 go_wp2_with fail
 refine HC.out.mono ?_
 rintro e w1 ⟨rfl, hr, hk⟩
 clear HC
 have HR1 : Hid (RxAt Wr.heap.size s0 w1) := hr
 have HB1 : Hid (Below Wr.heap.size Wr w1) := HB0.out.trans (hk.below (fun _ hk => Nat.ne_of_lt hk) HB0.out.size)
 clear hr hk HR0 HB0
 obtain ⟨a1, s1, ha⟩ : ∃ a s, rNum s0 = (a, s) := ⟨_, _, rfl⟩
 have hc := rxall_x Wr.heap.size s0 w1 HR1.out
 have hua1 := rNum_u64 s0
 rw [ha] at hc hua1
 have HUa1 := Lib.hid hua1
 have HAa1 := Lib.hid ha
 have HC := Lib.hid hc
 clear hc ha hua1
 go_wp2_with fail
 refine (HAny.out _).mono ?_
 rintro e wz ⟨rfl, hw⟩
 have hw := hw.symm
 subst hw
 go_wp2_with fail
 refine HC.out.mono ?_
 rintro e w2 ⟨rfl, hr, hk⟩
 clear HC
 have HR2 : Hid (RxAt Wr.heap.size s1 w2) := hr
 have HB2 : Hid (Below Wr.heap.size Wr w2) := HB1.out.trans (hk.below (fun _ hk => Nat.ne_of_lt hk) HB1.out.size)
 clear hr hk HR1 HB1
 obtain ⟨a2, s2, ha⟩ : ∃ a s, rText s1 = (a, s) := ⟨_, _, rfl⟩
 have hc := rxtext_x Wr.heap.size s1 w2 HR2.out
 rw [ha] at hc
 have HAa2 := Lib.hid ha
 have HC := Lib.hid hc
 clear hc ha
 go_wp2_with fail
 refine HC.out.mono ?_
 rintro e w3 ⟨rfl, hr, hk⟩
 clear HC
 have HR3 : Hid (RxAt Wr.heap.size s2 w3) := hr
 have HB3 : Hid (Below Wr.heap.size Wr w3) := HB2.out.trans (hk.below (fun _ hk => Nat.ne_of_lt hk) HB2.out.size)
 clear hr hk HR2 HB2
 obtain ⟨a3, s3, ha⟩ : ∃ a s, rText s2 = (a, s) := ⟨_, _, rfl⟩
 have hc := rxtext_x Wr.heap.size s2 w3 HR3.out
 rw [ha] at hc
 have HAa3 := Lib.hid ha
 have HC := Lib.hid hc
 clear hc ha
 go_wp2_with fail
 refine HC.out.mono ?_
 rintro e w4 ⟨rfl, hr, hk⟩
 clear HC
 have HR4 : Hid (RxAt Wr.heap.size s3 w4) := hr
 have HB4 : Hid (Below Wr.heap.size Wr w4) := HB3.out.trans (hk.below (fun _ hk => Nat.ne_of_lt hk) HB3.out.size)
 clear hr hk HR3 HB3
 obtain ⟨a4, s4, ha⟩ : ∃ a s, rMost 255 s3 = (a, s) := ⟨_, _, rfl⟩
 have hc := rxnum_x 255 Wr.heap.size s3 w4 ⟨by decide, by decide⟩ HR4.out
 have hm := rMost_le (m := 255) (by decide) s3
 rw [ha] at hc hm
 obtain ⟨mla4, mua4⟩ : 0 ≤ a4 ∧ a4 ≤ 255 := hm
 have HAa4 := Lib.hid ha
 have HC := Lib.hid hc
 clear hc ha
 go_wp2_with fail
 refine HC.out.mono ?_
 rintro e w5 ⟨rfl, hr, hk⟩
 clear HC
 have HR5 : Hid (RxAt Wr.heap.size s4 w5) := hr
 have HB5 : Hid (Below Wr.heap.size Wr w5) := HB4.out.trans (hk.below (fun _ hk => Nat.ne_of_lt hk) HB4.out.size)
 clear hr hk HR4 HB4
 obtain ⟨O0, hO0, hOX, hOB, -⟩ := boxes1 w5 #[.int .i64 0, .int .u64 0, .string ⟨#[]⟩, .string ⟨#[]⟩, .int .i64 0, .slice none 0 0, .int .u64 0, .int .u64 0, .int .u64 0, .slice none 0 0] 56
 obtain ⟨V0, hV0, hVX, hVB, -⟩ := stor10 (.int .i64 a0) (.int .u64 a1) (.string a2) (.string a3) (.int .i64 a4) (.slice none 0 0) (.int .u64 0) (.int .u64 0) (.int .u64 0) (.slice none 0 0) hOX hOB (Nat.le_refl _)
 obtain ⟨of0, of1, of2, of3, of4, of5, of6, of7, of8, of9⟩ := cz10 hOX
 obtain ⟨oc0, oc1, oc2, oc3, oc4, oc5, oc6, oc7, oc8, oc9⟩ := cl10 hOX
 have HQL : Hid (Wr.heap.size < w5.heap.size) := HR5.out.lt
 have HNE : Hid (w5.heap.size ≠ Wr.heap.size) := Nat.ne_of_gt HQL.out
 have HQv : Hid (V0.heap[w5.heap.size]? = some (.cells #[.int .i64 a0, .int .u64 a1, .string a2, .string a3, .int .i64 a4, .slice none 0 0, .int .u64 0, .int .u64 0, .int .u64 0, .slice none 0 0] 56 (0, 0))) := hVX
 have HRv : Hid (RxAt Wr.heap.size s4 V0) := HR5.out.keep (q := fun _ => True) (Kept.of hVB) trivial
 have HBv : Hid (Below Wr.heap.size Wr V0) := HB5.out.trans (hVB.mono HB5.out.size)
 clear hOX hOB hVX hVB HR5 HB5
 obtain ⟨a5, s5, ha⟩ : ∃ a s, rMost 50 s4 = (a, s) := ⟨_, _, rfl⟩
 have hc := rxnum_x 50 Wr.heap.size s4 V0 ⟨by decide, by decide⟩ HRv.out
 have hm := rMost_le (m := 50) (by decide) s4
 rw [ha] at hc hm
 obtain ⟨mla5, mua5⟩ : 0 ≤ a5 ∧ a5 ≤ 50 := hm
 have HAa5 := Lib.hid ha
 have HC := Lib.hid hc
 clear hc ha
 go_wp2_with fail
 refine HC.out.mono ?_
 rintro e w6 ⟨rfl, hr, hk⟩
 clear HC
 have HQ6 : Hid (w6.heap[w5.heap.size]? = some (.cells #[.int .i64 a0, .int .u64 a1, .string a2, .string a3, .int .i64 a4, .slice none 0 0, .int .u64 0, .int .u64 0, .int .u64 0, .slice none 0 0] 56 (0, 0))) := hk.known HNE.out HQv.out
 have HB6 : Hid (Below Wr.heap.size Wr w6) := HBv.out.trans (hk.below (fun _ hk => Nat.ne_of_lt hk) HBv.out.size)
 have HR6 : Hid (RxAt Wr.heap.size s5 w6) := hr
 have HS6 : Hid (w5.heap.size + 1 ≤ w6.heap.size) := (Array.getElem?_eq_some_iff.1 HQ6.out).1
 clear hr hk HQv HRv HBv
 obtain ⟨nI, hnI⟩ : ∃ nI : Nat, a5 = (nI : Int) := ⟨a5.toNat, by omega⟩
 subst hnI
 go_wp2_with fail
 go_loopw [7] (fun i wr => ∃ (k : Nat) (v : Value) (its : List (Nat × Int)) (st : Rd), i = .int .i64 k ∧ k ≤ nI ∧ Hid (iter (stepL rItem) k ([], s5) = (its, st)) ∧ Hid (RxAt Wr.heap.size st wr) ∧ Hid (wr.heap[w5.heap.size]? = some (.cells #[.int .i64 a0, .int .u64 a1, .string a2, .string a3, .int .i64 a4, v, .int .u64 0, .int .u64 0, .int .u64 0, .slice none 0 0] 56 (0, 0))) ∧ Hid (GrowE encIt wr (w5.heap.size + 1) 123 2 v its) ∧ Hid (its.length = k) ∧ Hid (Below Wr.heap.size Wr wr)) (fun i _ => nI - (intOf i).toNat)
 case atStart => exact ⟨0, .slice none 0 0, [], s5, rfl, Nat.zero_le _, rfl, HR6, HQ6, GrowE.nil .., rfl, HB6⟩
 case round =>
  obtain ⟨k, v, its, st, rfl, hk, HIt, HR, HQ, HG, HL, HB⟩ := hrel
  by_cases hlt : k < nI
  ·have i0 : (0 : Int) ≤ (k : Int) := by omega
   have i1 : (k : Int) < (nI : Int) := by omega
   obtain ⟨a, t1, ha⟩ : ∃ a s, rNum st = (a, s) := ⟨_, _, rfl⟩
   have hc := rxall_x Wr.heap.size st wr HR.out
   have hua := rNum_u64 st
   rw [ha] at hc hua
   have HUa := Lib.hid hua
   have HAa := Lib.hid ha
   have HC := Lib.hid hc
   clear hc ha hua
   go_wp2_with fail
   refine (HAny.out _).mono ?_
   rintro e wz ⟨rfl, hw⟩
   have hw := hw.symm
   subst hw
   go_wp2_with fail
   refine HC.out.mono ?_
   rintro e x1 ⟨rfl, hr, hk⟩
   clear HC
   have HQx : Hid (x1.heap[w5.heap.size]? = some (.cells #[.int .i64 a0, .int .u64 a1, .string a2, .string a3, .int .i64 a4, v, .int .u64 0, .int .u64 0, .int .u64 0, .slice none 0 0] 56 (0, 0))) := hk.known HNE.out HQ.out
   have HBx : Hid (Below Wr.heap.size Wr x1) := HB.out.trans (hk.below (fun _ hk => Nat.ne_of_lt hk) HB.out.size)
   have HRx : Hid (RxAt Wr.heap.size t1 x1) := hr
   have HGx : Hid (GrowE encIt x1 (w5.heap.size + 1) 123 2 v its) := HG.out.keep hk (fun k hk => by have := HQL.out; show k ≠ Wr.heap.size; omega)
   clear hr hk HQ HR HB HG
   obtain ⟨b, t2, hb⟩ : ∃ a s, rNum t1 = (a, s) := ⟨_, _, rfl⟩
   have hbu := rNum_u64 t1
   rw [hb] at hbu
   have HBb := Lib.hid hb
   have HBu := Lib.hid hbu
   obtain ⟨D, hD⟩ : ∃ D, x1.drew = D := ⟨_, rfl⟩
   have hkD : ∀ q : Nat → Prop, Kept q x1 D := fun q => by rw [← hD]; exact Kept.refl.drew
   have HRD : Hid (RxAt Wr.heap.size t1 D) := HRx.out.keep (hkD fun _ => True) trivial
   have hqD : D.heap[w5.heap.size]? = some (.cells #[.int .i64 a0, .int .u64 a1, .string a2, .string a3, .int .i64 a4, v, .int .u64 0, .int .u64 0, .int .u64 0, .slice none 0 0] 56 (0, 0)) := (hkD fun _ => True).known trivial HQx.out
   have HBD : Hid (Below Wr.heap.size Wr D) := by rw [Hid, ← hD]; exact HBx.out.drew
   have HGD : Hid (GrowE encIt D (w5.heap.size + 1) 123 2 v its) := HGx.out.keep (hkD fun _ => True) (fun _ _ => trivial)
   have c5 : D.cell? ⟨w5.heap.size, 5, none⟩ = some v := cCc hqD 5
   have HQD := Lib.hid hqD
   have hc := rxall_x Wr.heap.size t1 D HRD.out
   rw [hb] at hc
   have HC := Lib.hid hc
   have HD := Lib.hid hD
   clear hc hb hbu hkD hqD hD HRx HQx HBx HGx
   go_wp2_with fail
   refine wp_region_any (by kernel_rfl) ?_
   change wpAny _ _ _ _ _ _ _ (World.drew _)
   rw [HD.out]
   refine tk 0 (v := ?_) rfl ?_ ?_
   rotate_left
   ·intro w; go_simp; with_reducible rfl
   refine tk 2 (v := ?_) rfl ?_ ?_
   rotate_left
   ·intro w; go_simp; with_reducible rfl
   refine tk 3 (v := ?_) rfl ?_ ?_
   rotate_left
   ·intro w; go_simp; with_reducible rfl
   refine wpAny_ready (rs := [1, 4]) (by kernel_rfl) (by simp) ?_
   refine AllReady.cons rfl (fun K hK => ?_) ?_
   ·go_simp
    refine hK _ _ ?_
    clear hK K
    refine wpAny_ready (rs := [4]) (by kernel_rfl) (by simp) ?_
    refine AllReady.cons rfl (fun K hK => ?_) ?_
    ·go_simp
     refine (HAny.out _).mono ?_
     rintro e wz ⟨rfl, hw⟩
     have hw := hw.symm
     subst hw
     refine hK _ _ ?_
     clear hK K
     refine wpAny_ready (rs := [5]) (by kernel_rfl) (by simp) ?_
     refine AllReady.cons rfl (fun K hK => ?_) ?_
     ·go_simp
      refine HC.out.mono ?_
      rintro e x2 ⟨rfl, hr, hk1⟩
      have hqx : x2.heap[w5.heap.size]? = some (.cells #[.int .i64 a0, .int .u64 a1, .string a2, .string a3, .int .i64 a4, v, .int .u64 0, .int .u64 0, .int .u64 0, .slice none 0 0] 56 (0, 0)) := hk1.known HNE.out HQD.out
      have hbx : Below Wr.heap.size Wr x2 := HBD.out.trans (hk1.below (fun _ hk => Nat.ne_of_lt hk) HBD.out.size)
      have hzx : w5.heap.size + 1 ≤ x2.heap.size := (Array.getElem?_eq_some_iff.1 hqx).1
      have hgx := HGD.out.keep hk1 (fun k hk => by have := HQL.out; show k ≠ Wr.heap.size; omega)
      have d9 : x2.cell? ⟨w5.heap.size, 5, none⟩ = some v := cCc hqx 5
      have e9 : (x2.alloc (.cells #[.int .u64 a, .int .u64 b] 123)).cell? ⟨w5.heap.size, 5, none⟩ = some v := by
       obtain ⟨Z, hZ, -, hBZ, -⟩ := boxes1 x2 #[.int .u64 a, .int .u64 b] 123
       rw [hZ]
       exact cCc (known hBZ (by have := (Array.getElem?_eq_some_iff.1 hqx).1; omega) hqx) 5
      obtain ⟨g, cap, x3, hap, hG3, hB3, hz3, hbl3⟩ := hgx.push (w0 := Wr) (B := Wr.heap.size) 53 und_items info_itw rfl (by decide) (a.toNat, b) [.int .u64 a, .int .u64 b] (by show [Value.int .u64 a, .int .u64 b] = [.int .u64 ((a.toNat : Nat) : Int), .int .u64 b]; rw [Int.toNat_of_nonneg HUa.out.1]) hbx (by have := HQL.out; omega) hzx (by simp [Value.oneCell']) (by rw [HL.out]; omega) (by decide)
      rw [HL.out] at hap hG3
      have hq3 : x3.heap[w5.heap.size]? = some (.cells #[.int .i64 a0, .int .u64 a1, .string a2, .string a3, .int .i64 a4, v, .int .u64 0, .int .u64 0, .int .u64 0, .slice none 0 0] 56 (0, 0)) := (hbl3 _ (by omega)).trans hqx
      have c6 : x3.cell? ⟨w5.heap.size, 5, none⟩ = some v := cCc hq3 5
      have f6 : x3.frozen? ⟨w5.heap.size, 5, none⟩ = false := cFz hq3 5
      obtain ⟨V, hV, hVX, hVA, hVB, -⟩ := box_set (i := 5) hq3 (.slice (some ⟨g, 0, none⟩) (k + 1) cap)
      have hkV : Kept (· ≠ w5.heap.size) x3 V := by rw [← hV]; exact Kept.refl.set (fun _ h => h rfl) _ _
      have FI : Hid (iter (stepL rItem) (k + 1) ([], s5) = (its ++ [(a.toNat, b)], t2) ∧ RxAt Wr.heap.size t2 V ∧ V.heap[w5.heap.size]? = some (.cells #[.int .i64 a0, .int .u64 a1, .string a2, .string a3, .int .i64 a4, .slice (some ⟨g, 0, none⟩) (k + 1) cap, .int .u64 0, .int .u64 0, .int .u64 0, .slice none 0 0] 56 (0, 0)) ∧ GrowE encIt V (w5.heap.size + 1) 123 2 (.slice (some ⟨g, 0, none⟩) (k + 1) cap) (its ++ [(a.toNat, b)]) ∧ (its ++ [(a.toNat, b)]).length = k + 1 ∧ Below Wr.heap.size Wr V) := by
       refine ⟨?_, ?_, hVX, hG3.keep hkV (fun k hk => by show k ≠ w5.heap.size; omega), by rw [List.length_append, HL.out]; rfl, hVB _ _ (Nat.le_of_lt HQL.out) hB3⟩
       ·show stepL rItem (iter (stepL rItem) k ([], s5)) = _
        rw [HIt.out]
        unfold stepL rItem
        dsimp only
        rw [HAa.out]
        dsimp only
        rw [HBb.out]
       ·refine RxAt.keep (q := (· ≠ w5.heap.size)) ?_ hkV (Ne.symm HNE.out)
        have hSQ := HQL.out
        cases t2 with
        | none => obtain ⟨z, hz, h⟩ := hr; exact ⟨z, hz, (hbl3 _ (by omega)).trans h⟩
        | some z => exact ⟨hr.1, (hbl3 _ (by omega)).trans hr.2⟩
      clear hr hk1 hqx hbx hzx hgx hG3 hB3 hz3 hbl3 hq3 hVX hVA hVB hkV
      refine hK _ _ ?_
      clear hK K
      refine tk 6 (v := ?_) rfl ?_ ?_
      rotate_left
      ·intro w; go_simp; with_reducible rfl
      refine wpAny_ready (rs := [7]) (by kernel_rfl) (by simp) ?_
      refine AllReady.cons rfl (fun K hK => ?_) ?_
      ·go_simp
       refine hK _ _ ?_
       clear hK K
       refine wpAny_ready (rs := [8]) (by kernel_rfl) (by simp) ?_
       refine AllReady.cons rfl (fun K hK => ?_) ?_
       ·go_simp
        refine hK _ _ ?_
        clear hK K
        refine tk 9 (v := ?_) rfl ?_ ?_
        rotate_left
        ·intro w; go_simp; with_reducible rfl
        refine wpAny_ready (rs := [10]) (by kernel_rfl) (by simp) ?_
        refine AllReady.cons rfl (fun K hK => ?_) ?_
        ·go_simp
         refine hK _ _ ?_
         clear hK K
         refine wpAny_done (by kernel_rfl) ?_ _
         go_wp2_with fail
         go_roundw
         case rel =>
          obtain ⟨h1, h2, h3, h4, h5, h6⟩ := FI.out
          exact ⟨k + 1, _, _, _, by go_num, by omega, h1, h2, h3, h4, h5, h6⟩
         case measure => simp [intOf]; omega
        exact AllReady.nil
       exact AllReady.nil
      exact AllReady.nil
     exact AllReady.nil
    exact AllReady.nil
   refine AllReady.cons rfl (fun K hK => ?_) ?_
   ·go_simp
    refine (HAny.out _).mono ?_
    rintro e wz ⟨rfl, hw⟩
    have hw := hw.symm
    subst hw
    refine hK _ _ ?_
    clear hK K
    refine wpAny_ready (rs := [1, 5]) (by kernel_rfl) (by simp) ?_
    refine AllReady.cons rfl (fun K hK => ?_) ?_
    ·go_simp
     refine hK _ _ ?_
     clear hK K
     refine wpAny_ready (rs := [5]) (by kernel_rfl) (by simp) ?_
     refine AllReady.cons rfl (fun K hK => ?_) ?_
     ·go_simp
      refine HC.out.mono ?_
      rintro e x2 ⟨rfl, hr, hk1⟩
      have hqx : x2.heap[w5.heap.size]? = some (.cells #[.int .i64 a0, .int .u64 a1, .string a2, .string a3, .int .i64 a4, v, .int .u64 0, .int .u64 0, .int .u64 0, .slice none 0 0] 56 (0, 0)) := hk1.known HNE.out HQD.out
      have hbx : Below Wr.heap.size Wr x2 := HBD.out.trans (hk1.below (fun _ hk => Nat.ne_of_lt hk) HBD.out.size)
      have hzx : w5.heap.size + 1 ≤ x2.heap.size := (Array.getElem?_eq_some_iff.1 hqx).1
      have hgx := HGD.out.keep hk1 (fun k hk => by have := HQL.out; show k ≠ Wr.heap.size; omega)
      have d9 : x2.cell? ⟨w5.heap.size, 5, none⟩ = some v := cCc hqx 5
      have e9 : (x2.alloc (.cells #[.int .u64 a, .int .u64 b] 123)).cell? ⟨w5.heap.size, 5, none⟩ = some v := by
       obtain ⟨Z, hZ, -, hBZ, -⟩ := boxes1 x2 #[.int .u64 a, .int .u64 b] 123
       rw [hZ]
       exact cCc (known hBZ (by have := (Array.getElem?_eq_some_iff.1 hqx).1; omega) hqx) 5
      obtain ⟨g, cap, x3, hap, hG3, hB3, hz3, hbl3⟩ := hgx.push (w0 := Wr) (B := Wr.heap.size) 53 und_items info_itw rfl (by decide) (a.toNat, b) [.int .u64 a, .int .u64 b] (by show [Value.int .u64 a, .int .u64 b] = [.int .u64 ((a.toNat : Nat) : Int), .int .u64 b]; rw [Int.toNat_of_nonneg HUa.out.1]) hbx (by have := HQL.out; omega) hzx (by simp [Value.oneCell']) (by rw [HL.out]; omega) (by decide)
      rw [HL.out] at hap hG3
      have hq3 : x3.heap[w5.heap.size]? = some (.cells #[.int .i64 a0, .int .u64 a1, .string a2, .string a3, .int .i64 a4, v, .int .u64 0, .int .u64 0, .int .u64 0, .slice none 0 0] 56 (0, 0)) := (hbl3 _ (by omega)).trans hqx
      have c6 : x3.cell? ⟨w5.heap.size, 5, none⟩ = some v := cCc hq3 5
      have f6 : x3.frozen? ⟨w5.heap.size, 5, none⟩ = false := cFz hq3 5
      obtain ⟨V, hV, hVX, hVA, hVB, -⟩ := box_set (i := 5) hq3 (.slice (some ⟨g, 0, none⟩) (k + 1) cap)
      have hkV : Kept (· ≠ w5.heap.size) x3 V := by rw [← hV]; exact Kept.refl.set (fun _ h => h rfl) _ _
      have FI : Hid (iter (stepL rItem) (k + 1) ([], s5) = (its ++ [(a.toNat, b)], t2) ∧ RxAt Wr.heap.size t2 V ∧ V.heap[w5.heap.size]? = some (.cells #[.int .i64 a0, .int .u64 a1, .string a2, .string a3, .int .i64 a4, .slice (some ⟨g, 0, none⟩) (k + 1) cap, .int .u64 0, .int .u64 0, .int .u64 0, .slice none 0 0] 56 (0, 0)) ∧ GrowE encIt V (w5.heap.size + 1) 123 2 (.slice (some ⟨g, 0, none⟩) (k + 1) cap) (its ++ [(a.toNat, b)]) ∧ (its ++ [(a.toNat, b)]).length = k + 1 ∧ Below Wr.heap.size Wr V) := by
       refine ⟨?_, ?_, hVX, hG3.keep hkV (fun k hk => by show k ≠ w5.heap.size; omega), by rw [List.length_append, HL.out]; rfl, hVB _ _ (Nat.le_of_lt HQL.out) hB3⟩
       ·show stepL rItem (iter (stepL rItem) k ([], s5)) = _
        rw [HIt.out]
        unfold stepL rItem
        dsimp only
        rw [HAa.out]
        dsimp only
        rw [HBb.out]
       ·refine RxAt.keep (q := (· ≠ w5.heap.size)) ?_ hkV (Ne.symm HNE.out)
        have hSQ := HQL.out
        cases t2 with
        | none => obtain ⟨z, hz, h⟩ := hr; exact ⟨z, hz, (hbl3 _ (by omega)).trans h⟩
        | some z => exact ⟨hr.1, (hbl3 _ (by omega)).trans hr.2⟩
      clear hr hk1 hqx hbx hzx hgx hG3 hB3 hz3 hbl3 hq3 hVX hVA hVB hkV
      refine hK _ _ ?_
      clear hK K
      refine tk 6 (v := ?_) rfl ?_ ?_
      rotate_left
      ·intro w; go_simp; with_reducible rfl
      refine wpAny_ready (rs := [7]) (by kernel_rfl) (by simp) ?_
      refine AllReady.cons rfl (fun K hK => ?_) ?_
      ·go_simp
       refine hK _ _ ?_
       clear hK K
       refine wpAny_ready (rs := [8]) (by kernel_rfl) (by simp) ?_
       refine AllReady.cons rfl (fun K hK => ?_) ?_
       ·go_simp
        refine hK _ _ ?_
        clear hK K
        refine tk 9 (v := ?_) rfl ?_ ?_
        rotate_left
        ·intro w; go_simp; with_reducible rfl
        refine wpAny_ready (rs := [10]) (by kernel_rfl) (by simp) ?_
        refine AllReady.cons rfl (fun K hK => ?_) ?_
        ·go_simp
         refine hK _ _ ?_
         clear hK K
         refine wpAny_done (by kernel_rfl) ?_ _
         go_wp2_with fail
         go_roundw
         case rel =>
          obtain ⟨h1, h2, h3, h4, h5, h6⟩ := FI.out
          exact ⟨k + 1, _, _, _, by go_num, by omega, h1, h2, h3, h4, h5, h6⟩
         case measure => simp [intOf]; omega
        exact AllReady.nil
       exact AllReady.nil
      exact AllReady.nil
     exact AllReady.nil
    refine AllReady.cons rfl (fun K hK => ?_) ?_
    ·go_simp
     refine HC.out.mono ?_
     rintro e x2 ⟨rfl, hr, hk1⟩
     have hqx : x2.heap[w5.heap.size]? = some (.cells #[.int .i64 a0, .int .u64 a1, .string a2, .string a3, .int .i64 a4, v, .int .u64 0, .int .u64 0, .int .u64 0, .slice none 0 0] 56 (0, 0)) := hk1.known HNE.out HQD.out
     have hbx : Below Wr.heap.size Wr x2 := HBD.out.trans (hk1.below (fun _ hk => Nat.ne_of_lt hk) HBD.out.size)
     have hzx : w5.heap.size + 1 ≤ x2.heap.size := (Array.getElem?_eq_some_iff.1 hqx).1
     have hgx := HGD.out.keep hk1 (fun k hk => by have := HQL.out; show k ≠ Wr.heap.size; omega)
     have d9 : x2.cell? ⟨w5.heap.size, 5, none⟩ = some v := cCc hqx 5
     have e9 : (x2.alloc (.cells #[.int .u64 a, .int .u64 b] 123)).cell? ⟨w5.heap.size, 5, none⟩ = some v := by
      obtain ⟨Z, hZ, -, hBZ, -⟩ := boxes1 x2 #[.int .u64 a, .int .u64 b] 123
      rw [hZ]
      exact cCc (known hBZ (by have := (Array.getElem?_eq_some_iff.1 hqx).1; omega) hqx) 5
     obtain ⟨g, cap, x3, hap, hG3, hB3, hz3, hbl3⟩ := hgx.push (w0 := Wr) (B := Wr.heap.size) 53 und_items info_itw rfl (by decide) (a.toNat, b) [.int .u64 a, .int .u64 b] (by show [Value.int .u64 a, .int .u64 b] = [.int .u64 ((a.toNat : Nat) : Int), .int .u64 b]; rw [Int.toNat_of_nonneg HUa.out.1]) hbx (by have := HQL.out; omega) hzx (by simp [Value.oneCell']) (by rw [HL.out]; omega) (by decide)
     rw [HL.out] at hap hG3
     have hq3 : x3.heap[w5.heap.size]? = some (.cells #[.int .i64 a0, .int .u64 a1, .string a2, .string a3, .int .i64 a4, v, .int .u64 0, .int .u64 0, .int .u64 0, .slice none 0 0] 56 (0, 0)) := (hbl3 _ (by omega)).trans hqx
     have c6 : x3.cell? ⟨w5.heap.size, 5, none⟩ = some v := cCc hq3 5
     have f6 : x3.frozen? ⟨w5.heap.size, 5, none⟩ = false := cFz hq3 5
     obtain ⟨V, hV, hVX, hVA, hVB, -⟩ := box_set (i := 5) hq3 (.slice (some ⟨g, 0, none⟩) (k + 1) cap)
     have hkV : Kept (· ≠ w5.heap.size) x3 V := by rw [← hV]; exact Kept.refl.set (fun _ h => h rfl) _ _
     have FI : Hid (iter (stepL rItem) (k + 1) ([], s5) = (its ++ [(a.toNat, b)], t2) ∧ RxAt Wr.heap.size t2 V ∧ V.heap[w5.heap.size]? = some (.cells #[.int .i64 a0, .int .u64 a1, .string a2, .string a3, .int .i64 a4, .slice (some ⟨g, 0, none⟩) (k + 1) cap, .int .u64 0, .int .u64 0, .int .u64 0, .slice none 0 0] 56 (0, 0)) ∧ GrowE encIt V (w5.heap.size + 1) 123 2 (.slice (some ⟨g, 0, none⟩) (k + 1) cap) (its ++ [(a.toNat, b)]) ∧ (its ++ [(a.toNat, b)]).length = k + 1 ∧ Below Wr.heap.size Wr V) := by
      refine ⟨?_, ?_, hVX, hG3.keep hkV (fun k hk => by show k ≠ w5.heap.size; omega), by rw [List.length_append, HL.out]; rfl, hVB _ _ (Nat.le_of_lt HQL.out) hB3⟩
      ·show stepL rItem (iter (stepL rItem) k ([], s5)) = _
       rw [HIt.out]
       unfold stepL rItem
       dsimp only
       rw [HAa.out]
       dsimp only
       rw [HBb.out]
      ·refine RxAt.keep (q := (· ≠ w5.heap.size)) ?_ hkV (Ne.symm HNE.out)
       have hSQ := HQL.out
       cases t2 with
       | none => obtain ⟨z, hz, h⟩ := hr; exact ⟨z, hz, (hbl3 _ (by omega)).trans h⟩
       | some z => exact ⟨hr.1, (hbl3 _ (by omega)).trans hr.2⟩
     clear hr hk1 hqx hbx hzx hgx hG3 hB3 hz3 hbl3 hq3 hVX hVA hVB hkV
     refine hK _ _ ?_
     clear hK K
     refine tk 6 (v := ?_) rfl ?_ ?_
     rotate_left
     ·intro w; go_simp; with_reducible rfl
     refine wpAny_ready (rs := [1, 7]) (by kernel_rfl) (by simp) ?_
     refine AllReady.cons rfl (fun K hK => ?_) ?_
     ·go_simp
      refine hK _ _ ?_
      clear hK K
      refine wpAny_ready (rs := [7]) (by kernel_rfl) (by simp) ?_
      refine AllReady.cons rfl (fun K hK => ?_) ?_
      ·go_simp
       refine hK _ _ ?_
       clear hK K
       refine wpAny_ready (rs := [8]) (by kernel_rfl) (by simp) ?_
       refine AllReady.cons rfl (fun K hK => ?_) ?_
       ·go_simp
        refine hK _ _ ?_
        clear hK K
        refine tk 9 (v := ?_) rfl ?_ ?_
        rotate_left
        ·intro w; go_simp; with_reducible rfl
        refine wpAny_ready (rs := [10]) (by kernel_rfl) (by simp) ?_
        refine AllReady.cons rfl (fun K hK => ?_) ?_
        ·go_simp
         refine hK _ _ ?_
         clear hK K
         refine wpAny_done (by kernel_rfl) ?_ _
         go_wp2_with fail
         go_roundw
         case rel =>
          obtain ⟨h1, h2, h3, h4, h5, h6⟩ := FI.out
          exact ⟨k + 1, _, _, _, by go_num, by omega, h1, h2, h3, h4, h5, h6⟩
         case measure => simp [intOf]; omega
        exact AllReady.nil
       exact AllReady.nil
      exact AllReady.nil
     refine AllReady.cons rfl (fun K hK => ?_) ?_
     ·go_simp
      refine hK _ _ ?_
      clear hK K
      refine wpAny_ready (rs := [1]) (by kernel_rfl) (by simp) ?_
      refine AllReady.cons rfl (fun K hK => ?_) ?_
      ·go_simp
       refine hK _ _ ?_
       clear hK K
       refine wpAny_ready (rs := [8]) (by kernel_rfl) (by simp) ?_
       refine AllReady.cons rfl (fun K hK => ?_) ?_
       ·go_simp
        refine hK _ _ ?_
        clear hK K
        refine tk 9 (v := ?_) rfl ?_ ?_
        rotate_left
        ·intro w; go_simp; with_reducible rfl
        refine wpAny_ready (rs := [10]) (by kernel_rfl) (by simp) ?_
        refine AllReady.cons rfl (fun K hK => ?_) ?_
        ·go_simp
         refine hK _ _ ?_
         clear hK K
         refine wpAny_done (by kernel_rfl) ?_ _
         go_wp2_with fail
         go_roundw
         case rel =>
          obtain ⟨h1, h2, h3, h4, h5, h6⟩ := FI.out
          exact ⟨k + 1, _, _, _, by go_num, by omega, h1, h2, h3, h4, h5, h6⟩
         case measure => simp [intOf]; omega
        exact AllReady.nil
       exact AllReady.nil
      exact AllReady.nil
     exact AllReady.nil
    exact AllReady.nil
   exact AllReady.nil
  ·obtain rfl : k = nI := by omega
   obtain ⟨a6, s6, ha⟩ : ∃ a s, rNum st = (a, s) := ⟨_, _, rfl⟩
   have hc := rxall_x Wr.heap.size st wr HR.out
   have hua6 := rNum_u64 st
   rw [ha] at hc hua6
   have HUa6 := Lib.hid hua6
   have HAa6 := Lib.hid ha
   have HC := Lib.hid hc
   clear hc ha hua6
   go_wp2_with fail
   refine (HAny.out _).mono ?_
   rintro e wz ⟨rfl, hw⟩
   have hw := hw.symm
   subst hw
   go_wp2_with fail
   refine HC.out.mono ?_
   rintro e u6 ⟨rfl, hr, hk⟩
   clear HC
   have hq := hk.known HNE.out HQ.out
   have c6 : u6.cell? ⟨w5.heap.size, 6, none⟩ = some (.int .u64 0) := cCc hq 6
   have f6 : u6.frozen? ⟨w5.heap.size, 6, none⟩ = false := cFz hq 6
   have hb : Below Wr.heap.size Wr u6 := HB.out.trans (hk.below (fun _ hk => Nat.ne_of_lt hk) HB.out.size)
   obtain ⟨U6, hU6, hVX, -, hVB, -⟩ := box_set (i := 6) hq (.int .u64 a6)
   have hkV : Kept (· ≠ w5.heap.size) u6 U6 := by rw [← hU6]; exact Kept.refl.set (fun _ h => h rfl) _ _
   have HQa6 : Hid (U6.heap[w5.heap.size]? = some (.cells #[.int .i64 a0, .int .u64 a1, .string a2, .string a3, .int .i64 a4, v, .int .u64 a6, .int .u64 0, .int .u64 0, .slice none 0 0] 56 (0, 0))) := hVX
   have HRa6 : Hid (RxAt Wr.heap.size s6 U6) := RxAt.keep (q := (· ≠ w5.heap.size)) hr hkV (Ne.symm HNE.out)
   have HBa6 : Hid (Below Wr.heap.size Wr U6) := hVB _ _ (Nat.le_of_lt HQL.out) hb
   have HGa6 : Hid (GrowE encIt U6 (w5.heap.size + 1) 123 2 v its) := (HG.out.keep hk (fun k hk => by have := HQL.out; show k ≠ Wr.heap.size; omega)).keep hkV (fun k hk => by show k ≠ w5.heap.size; omega)
   clear hr hk hq hb hVX hVB hkV
   obtain ⟨a7, s7, ha⟩ : ∃ a s, rNum s6 = (a, s) := ⟨_, _, rfl⟩
   have hc := rxall_x Wr.heap.size s6 U6 HRa6.out
   have hua7 := rNum_u64 s6
   rw [ha] at hc hua7
   have HUa7 := Lib.hid hua7
   have HAa7 := Lib.hid ha
   have HC := Lib.hid hc
   clear hc ha hua7
   go_wp2_with fail
   refine (HAny.out _).mono ?_
   rintro e wz ⟨rfl, hw⟩
   have hw := hw.symm
   subst hw
   go_wp2_with fail
   refine HC.out.mono ?_
   rintro e u7 ⟨rfl, hr, hk⟩
   clear HC
   have hq := hk.known HNE.out HQa6.out
   have c7 : u7.cell? ⟨w5.heap.size, 7, none⟩ = some (.int .u64 0) := cCc hq 7
   have f7 : u7.frozen? ⟨w5.heap.size, 7, none⟩ = false := cFz hq 7
   have hb : Below Wr.heap.size Wr u7 := HBa6.out.trans (hk.below (fun _ hk => Nat.ne_of_lt hk) HBa6.out.size)
   obtain ⟨U7, hU7, hVX, -, hVB, -⟩ := box_set (i := 7) hq (.int .u64 a7)
   have hkV : Kept (· ≠ w5.heap.size) u7 U7 := by rw [← hU7]; exact Kept.refl.set (fun _ h => h rfl) _ _
   have HQa7 : Hid (U7.heap[w5.heap.size]? = some (.cells #[.int .i64 a0, .int .u64 a1, .string a2, .string a3, .int .i64 a4, v, .int .u64 a6, .int .u64 a7, .int .u64 0, .slice none 0 0] 56 (0, 0))) := hVX
   have HRa7 : Hid (RxAt Wr.heap.size s7 U7) := RxAt.keep (q := (· ≠ w5.heap.size)) hr hkV (Ne.symm HNE.out)
   have HBa7 : Hid (Below Wr.heap.size Wr U7) := hVB _ _ (Nat.le_of_lt HQL.out) hb
   have HGa7 : Hid (GrowE encIt U7 (w5.heap.size + 1) 123 2 v its) := (HGa6.out.keep hk (fun k hk => by have := HQL.out; show k ≠ Wr.heap.size; omega)).keep hkV (fun k hk => by show k ≠ w5.heap.size; omega)
   clear hr hk hq hb hVX hVB hkV
   obtain ⟨a8, s8, ha⟩ : ∃ a s, rNum s7 = (a, s) := ⟨_, _, rfl⟩
   have hc := rxall_x Wr.heap.size s7 U7 HRa7.out
   have hua8 := rNum_u64 s7
   rw [ha] at hc hua8
   have HUa8 := Lib.hid hua8
   have HAa8 := Lib.hid ha
   have HC := Lib.hid hc
   clear hc ha hua8
   go_wp2_with fail
   refine (HAny.out _).mono ?_
   rintro e wz ⟨rfl, hw⟩
   have hw := hw.symm
   subst hw
   go_wp2_with fail
   refine HC.out.mono ?_
   rintro e u8 ⟨rfl, hr, hk⟩
   clear HC
   have hq := hk.known HNE.out HQa7.out
   have c8 : u8.cell? ⟨w5.heap.size, 8, none⟩ = some (.int .u64 0) := cCc hq 8
   have f8 : u8.frozen? ⟨w5.heap.size, 8, none⟩ = false := cFz hq 8
   have hb : Below Wr.heap.size Wr u8 := HBa7.out.trans (hk.below (fun _ hk => Nat.ne_of_lt hk) HBa7.out.size)
   obtain ⟨U8, hU8, hVX, -, hVB, -⟩ := box_set (i := 8) hq (.int .u64 a8)
   have hkV : Kept (· ≠ w5.heap.size) u8 U8 := by rw [← hU8]; exact Kept.refl.set (fun _ h => h rfl) _ _
   have HQa8 : Hid (U8.heap[w5.heap.size]? = some (.cells #[.int .i64 a0, .int .u64 a1, .string a2, .string a3, .int .i64 a4, v, .int .u64 a6, .int .u64 a7, .int .u64 a8, .slice none 0 0] 56 (0, 0))) := hVX
   have HRa8 : Hid (RxAt Wr.heap.size s8 U8) := RxAt.keep (q := (· ≠ w5.heap.size)) hr hkV (Ne.symm HNE.out)
   have HBa8 : Hid (Below Wr.heap.size Wr U8) := hVB _ _ (Nat.le_of_lt HQL.out) hb
   have HGa8 : Hid (GrowE encIt U8 (w5.heap.size + 1) 123 2 v its) := (HGa7.out.keep hk (fun k hk => by have := HQL.out; show k ≠ Wr.heap.size; omega)).keep hkV (fun k hk => by show k ≠ w5.heap.size; omega)
   clear hr hk hq hb hVX hVB hkV
   obtain ⟨a9, s9, ha⟩ : ∃ a s, rMost 8 s8 = (a, s) := ⟨_, _, rfl⟩
   have hc := rxnum_x 8 Wr.heap.size s8 U8 ⟨by decide, by decide⟩ HRa8.out
   have hm := rMost_le (m := 8) (by decide) s8
   rw [ha] at hc hm
   obtain ⟨mla9, mua9⟩ : 0 ≤ a9 ∧ a9 ≤ 8 := hm
   have HAa9 := Lib.hid ha
   have HC := Lib.hid hc
   clear hc ha
   go_wp2_with fail
   refine HC.out.mono ?_
   rintro e u9 ⟨rfl, hr, hk⟩
   clear HC
   have HQ9 : Hid (u9.heap[w5.heap.size]? = some (.cells #[.int .i64 a0, .int .u64 a1, .string a2, .string a3, .int .i64 a4, v, .int .u64 a6, .int .u64 a7, .int .u64 a8, .slice none 0 0] 56 (0, 0))) := hk.known HNE.out HQa8.out
   have HB9 : Hid (Below Wr.heap.size Wr u9) := HBa8.out.trans (hk.below (fun _ hk => Nat.ne_of_lt hk) HBa8.out.size)
   have HR9 : Hid (RxAt Wr.heap.size s9 u9) := hr
   have HGi : Hid (GrowE encIt u9 (w5.heap.size + 1) 123 2 v its) := HGa8.out.keep hk (fun k hk => by have := HQL.out; show k ≠ Wr.heap.size; omega)
   have HS9 : Hid (w5.heap.size + 1 ≤ u9.heap.size) := (Array.getElem?_eq_some_iff.1 HQ9.out).1
   clear hr hk HGa8 HQa8 HBa8 HRa8
   obtain ⟨nT, hnT⟩ : ∃ nT : Nat, a9 = (nT : Int) := ⟨a9.toNat, by omega⟩
   subst hnT
   go_wp2_with fail
   go_loopw [9] (fun i wt => ∃ (j : Nat) (y : Value) (ts : List Int) (st : Rd), i = .int .i64 j ∧ j ≤ nT ∧ Hid (iter (stepL rNum) j ([], s9) = (ts, st)) ∧ Hid (RxAt Wr.heap.size st wt) ∧ Hid (wt.heap[w5.heap.size]? = some (.cells #[.int .i64 a0, .int .u64 a1, .string a2, .string a3, .int .i64 a4, v, .int .u64 a6, .int .u64 a7, .int .u64 a8, y] 56 (0, 0))) ∧ Hid (GrowE encU wt u9.heap.size 22 1 y ts) ∧ Hid (ts.length = j) ∧ Hid (Below Wr.heap.size Wr wt) ∧ Hid (Kept (fun k => k ≠ Wr.heap.size ∧ k ≠ w5.heap.size) u9 wt)) (fun i _ => nT - (intOf i).toNat)
   case atStart => exact ⟨0, .slice none 0 0, [], s9, rfl, Nat.zero_le _, rfl, HR9, HQ9, GrowE.nil .., rfl, HB9, Kept.refl⟩
   case round =>
    obtain ⟨j, y, ts, st2, rfl, hj, HIu, HR, HQ, HGt, HLt, HB, HKp⟩ := hrel
    by_cases hlu : j < nT
    ·have i0 : (0 : Int) ≤ (j : Int) := by omega
     have i1 : (j : Int) < (nT : Int) := by omega
     obtain ⟨a, t2, ha⟩ : ∃ a s, rNum st2 = (a, s) := ⟨_, _, rfl⟩
     have hau := rNum_u64 st2
     rw [ha] at hau
     obtain ⟨D, hD⟩ : ∃ D, wr.drew = D := ⟨_, rfl⟩
     have hkD : ∀ q : Nat → Prop, Kept q wr D := fun q => by rw [← hD]; exact Kept.refl.drew
     have HRD : Hid (RxAt Wr.heap.size st2 D) := HR.out.keep (hkD fun _ => True) trivial
     have hqD : D.heap[w5.heap.size]? = some (.cells #[.int .i64 a0, .int .u64 a1, .string a2, .string a3, .int .i64 a4, v, .int .u64 a6, .int .u64 a7, .int .u64 a8, y] 56 (0, 0)) := (hkD fun _ => True).known trivial HQ.out
     have HBD : Hid (Below Wr.heap.size Wr D) := by rw [Hid, ← hD]; exact HB.out.drew
     have HGD : Hid (GrowE encU D u9.heap.size 22 1 y ts) := HGt.out.keep (hkD fun _ => True) (fun _ _ => trivial)
     have HKD : Hid (Kept (fun k => k ≠ Wr.heap.size ∧ k ≠ w5.heap.size) u9 D) := HKp.out.trans (hkD _)
     have c9 : D.cell? ⟨w5.heap.size, 9, none⟩ = some y := cCc hqD 9
     have HQD := Lib.hid hqD
     have hc := rxall_x Wr.heap.size st2 D HRD.out
     rw [ha] at hc
     have HC := Lib.hid hc
     have HA := Lib.hid ha
     have HAu := Lib.hid hau
     have HD := Lib.hid hD
     clear hc ha hau hkD hqD hD
     go_wp2_with fail
     refine wp_region_any (by kernel_rfl) ?_
     change wpAny _ _ _ _ _ _ _ (World.drew _)
     rw [HD.out]
     refine tk 0 (v := ?_) rfl ?_ ?_
     rotate_left
     ·intro w; go_simp; with_reducible rfl
     refine tk 2 (v := ?_) rfl ?_ ?_
     rotate_left
     ·intro w; go_simp; with_reducible rfl
     refine wpAny_ready (rs := [1, 3]) (by kernel_rfl) (by simp) ?_
     refine AllReady.cons rfl (fun K hK => ?_) ?_
     ·go_simp
      refine hK _ _ ?_
      clear hK K
      refine wpAny_ready (rs := [3]) (by kernel_rfl) (by simp) ?_
      refine AllReady.cons rfl (fun K hK => ?_) ?_
      ·go_simp
       refine (HAny.out _).mono ?_
       rintro e wz ⟨rfl, hw⟩
       have hw := hw.symm
       subst hw
       refine hK _ _ ?_
       clear hK K
       refine wpAny_ready (rs := [4]) (by kernel_rfl) (by simp) ?_
       refine AllReady.cons rfl (fun K hK => ?_) ?_
       ·go_simp
        refine HC.out.mono ?_
        rintro e x2 ⟨rfl, hr, hk1⟩
        have hqx : x2.heap[w5.heap.size]? = some (.cells #[.int .i64 a0, .int .u64 a1, .string a2, .string a3, .int .i64 a4, v, .int .u64 a6, .int .u64 a7, .int .u64 a8, y] 56 (0, 0)) := hk1.known HNE.out HQD.out
        have hbx : Below Wr.heap.size Wr x2 := HBD.out.trans (hk1.below (fun _ hk => Nat.ne_of_lt hk) HBD.out.size)
        have hzx : u9.heap.size ≤ x2.heap.size := Nat.le_trans HKD.out.size hk1.size
        have hgx := HGD.out.keep hk1 (fun k hk => by have := HS9.out; have := HQL.out; show k ≠ Wr.heap.size; omega)
        have d9 : x2.cell? ⟨w5.heap.size, 9, none⟩ = some y := cCc hqx 9
        have e9 : (x2.alloc (.cells #[.int .u64 a] 22)).cell? ⟨w5.heap.size, 9, none⟩ = some y := by
         obtain ⟨Z, hZ, -, hBZ, -⟩ := boxes1 x2 #[.int .u64 a] 22
         rw [hZ]
         exact cCc (known hBZ (by have := (Array.getElem?_eq_some_iff.1 hqx).1; omega) hqx) 9
        obtain ⟨g, cap, x3, hap, hG3, hB3, hz3, hbl3⟩ := hgx.push (w0 := Wr) (B := Wr.heap.size) 54 und_u64 info_u64 rfl (by decide) a [.int .u64 a] rfl hbx (by have := HQL.out; have := HS9.out; omega) hzx (by simp [Value.oneCell']) (by rw [HLt.out]; omega) (by decide)
        rw [HLt.out] at hap hG3
        have hq3 : x3.heap[w5.heap.size]? = some (.cells #[.int .i64 a0, .int .u64 a1, .string a2, .string a3, .int .i64 a4, v, .int .u64 a6, .int .u64 a7, .int .u64 a8, y] 56 (0, 0)) := (hbl3 _ (by have := HS9.out; omega)).trans hqx
        have c6 : x3.cell? ⟨w5.heap.size, 9, none⟩ = some y := cCc hq3 9
        have f6 : x3.frozen? ⟨w5.heap.size, 9, none⟩ = false := cFz hq3 9
        obtain ⟨V, hV, hVX, hVA, hVB, -⟩ := box_set (i := 9) hq3 (.slice (some ⟨g, 0, none⟩) (j + 1) cap)
        have hkV : Kept (· ≠ w5.heap.size) x3 V := by rw [← hV]; exact Kept.refl.set (fun _ h => h rfl) _ _
        have hkx : Kept (fun k => k ≠ Wr.heap.size ∧ k ≠ w5.heap.size) u9 x3 := ⟨hB3.os.trans HB9.out.os.symm, hB3.tape.trans HB9.out.tape.symm, hB3.output.trans HB9.out.output.symm, by omega, fun k hk hq => (hbl3 k hk).trans ((hk1.block k (Nat.lt_of_lt_of_le hk HKD.out.size) hq.1).trans (HKD.out.block k hk hq))⟩
        have FI : Hid (iter (stepL rNum) (j + 1) ([], s9) = (ts ++ [a], t2) ∧ RxAt Wr.heap.size t2 V ∧ V.heap[w5.heap.size]? = some (.cells #[.int .i64 a0, .int .u64 a1, .string a2, .string a3, .int .i64 a4, v, .int .u64 a6, .int .u64 a7, .int .u64 a8, .slice (some ⟨g, 0, none⟩) (j + 1) cap] 56 (0, 0)) ∧ GrowE encU V u9.heap.size 22 1 (.slice (some ⟨g, 0, none⟩) (j + 1) cap) (ts ++ [a]) ∧ (ts ++ [a]).length = j + 1 ∧ Below Wr.heap.size Wr V ∧ Kept (fun k => k ≠ Wr.heap.size ∧ k ≠ w5.heap.size) u9 V) := by
         refine ⟨?_, ?_, hVX, hG3.keep hkV (fun k hk => by have := HS9.out; show k ≠ w5.heap.size; omega), by rw [List.length_append, HLt.out]; rfl, hVB _ _ (Nat.le_of_lt HQL.out) hB3, hkx.trans (hkV.mono fun k hk => hk.2)⟩
         ·show stepL rNum (iter (stepL rNum) j ([], s9)) = _
          rw [HIu.out]
          unfold stepL
          dsimp only
          rw [HA.out]
         ·refine RxAt.keep (q := (· ≠ w5.heap.size)) ?_ hkV (Ne.symm HNE.out)
          have hSQ := HQL.out
          have hSs := HS9.out
          cases t2 with
          | none => obtain ⟨z, hz, h⟩ := hr; exact ⟨z, hz, (hbl3 _ (by omega)).trans h⟩
          | some z => exact ⟨hr.1, (hbl3 _ (by omega)).trans hr.2⟩
        clear hr hk1 hqx hbx hzx hgx hG3 hB3 hz3 hbl3 hq3 hVX hVA hVB hkV hkx
        refine hK _ _ ?_
        clear hK K
        refine wpAny_ready (rs := [5]) (by kernel_rfl) (by simp) ?_
        refine AllReady.cons rfl (fun K hK => ?_) ?_
        ·go_simp
         refine hK _ _ ?_
         clear hK K
         refine wpAny_ready (rs := [6]) (by kernel_rfl) (by simp) ?_
         refine AllReady.cons rfl (fun K hK => ?_) ?_
         ·go_simp
          refine hK _ _ ?_
          clear hK K
          refine tk 7 (v := ?_) rfl ?_ ?_
          rotate_left
          ·intro w; go_simp; with_reducible rfl
          refine wpAny_ready (rs := [8]) (by kernel_rfl) (by simp) ?_
          refine AllReady.cons rfl (fun K hK => ?_) ?_
          ·go_simp
           refine hK _ _ ?_
           clear hK K
           refine wpAny_done (by kernel_rfl) ?_ _
           go_wp2_with fail
           go_roundw
           case rel =>
            obtain ⟨h1, h2, h3, h4, h5, h6, h7⟩ := FI.out
            exact ⟨j + 1, _, _, _, by go_num, by omega, h1, h2, h3, h4, h5, h6, h7⟩
           case measure => simp [intOf]; omega
          exact AllReady.nil
         exact AllReady.nil
        exact AllReady.nil
       exact AllReady.nil
      exact AllReady.nil
     refine AllReady.cons rfl (fun K hK => ?_) ?_
     ·go_simp
      refine (HAny.out _).mono ?_
      rintro e wz ⟨rfl, hw⟩
      have hw := hw.symm
      subst hw
      refine hK _ _ ?_
      clear hK K
      refine wpAny_ready (rs := [1, 4]) (by kernel_rfl) (by simp) ?_
      refine AllReady.cons rfl (fun K hK => ?_) ?_
      ·go_simp
       refine hK _ _ ?_
       clear hK K
       refine wpAny_ready (rs := [4]) (by kernel_rfl) (by simp) ?_
       refine AllReady.cons rfl (fun K hK => ?_) ?_
       ·go_simp
        refine HC.out.mono ?_
        rintro e x2 ⟨rfl, hr, hk1⟩
        have hqx : x2.heap[w5.heap.size]? = some (.cells #[.int .i64 a0, .int .u64 a1, .string a2, .string a3, .int .i64 a4, v, .int .u64 a6, .int .u64 a7, .int .u64 a8, y] 56 (0, 0)) := hk1.known HNE.out HQD.out
        have hbx : Below Wr.heap.size Wr x2 := HBD.out.trans (hk1.below (fun _ hk => Nat.ne_of_lt hk) HBD.out.size)
        have hzx : u9.heap.size ≤ x2.heap.size := Nat.le_trans HKD.out.size hk1.size
        have hgx := HGD.out.keep hk1 (fun k hk => by have := HS9.out; have := HQL.out; show k ≠ Wr.heap.size; omega)
        have d9 : x2.cell? ⟨w5.heap.size, 9, none⟩ = some y := cCc hqx 9
        have e9 : (x2.alloc (.cells #[.int .u64 a] 22)).cell? ⟨w5.heap.size, 9, none⟩ = some y := by
         obtain ⟨Z, hZ, -, hBZ, -⟩ := boxes1 x2 #[.int .u64 a] 22
         rw [hZ]
         exact cCc (known hBZ (by have := (Array.getElem?_eq_some_iff.1 hqx).1; omega) hqx) 9
        obtain ⟨g, cap, x3, hap, hG3, hB3, hz3, hbl3⟩ := hgx.push (w0 := Wr) (B := Wr.heap.size) 54 und_u64 info_u64 rfl (by decide) a [.int .u64 a] rfl hbx (by have := HQL.out; have := HS9.out; omega) hzx (by simp [Value.oneCell']) (by rw [HLt.out]; omega) (by decide)
        rw [HLt.out] at hap hG3
        have hq3 : x3.heap[w5.heap.size]? = some (.cells #[.int .i64 a0, .int .u64 a1, .string a2, .string a3, .int .i64 a4, v, .int .u64 a6, .int .u64 a7, .int .u64 a8, y] 56 (0, 0)) := (hbl3 _ (by have := HS9.out; omega)).trans hqx
        have c6 : x3.cell? ⟨w5.heap.size, 9, none⟩ = some y := cCc hq3 9
        have f6 : x3.frozen? ⟨w5.heap.size, 9, none⟩ = false := cFz hq3 9
        obtain ⟨V, hV, hVX, hVA, hVB, -⟩ := box_set (i := 9) hq3 (.slice (some ⟨g, 0, none⟩) (j + 1) cap)
        have hkV : Kept (· ≠ w5.heap.size) x3 V := by rw [← hV]; exact Kept.refl.set (fun _ h => h rfl) _ _
        have hkx : Kept (fun k => k ≠ Wr.heap.size ∧ k ≠ w5.heap.size) u9 x3 := ⟨hB3.os.trans HB9.out.os.symm, hB3.tape.trans HB9.out.tape.symm, hB3.output.trans HB9.out.output.symm, by omega, fun k hk hq => (hbl3 k hk).trans ((hk1.block k (Nat.lt_of_lt_of_le hk HKD.out.size) hq.1).trans (HKD.out.block k hk hq))⟩
        have FI : Hid (iter (stepL rNum) (j + 1) ([], s9) = (ts ++ [a], t2) ∧ RxAt Wr.heap.size t2 V ∧ V.heap[w5.heap.size]? = some (.cells #[.int .i64 a0, .int .u64 a1, .string a2, .string a3, .int .i64 a4, v, .int .u64 a6, .int .u64 a7, .int .u64 a8, .slice (some ⟨g, 0, none⟩) (j + 1) cap] 56 (0, 0)) ∧ GrowE encU V u9.heap.size 22 1 (.slice (some ⟨g, 0, none⟩) (j + 1) cap) (ts ++ [a]) ∧ (ts ++ [a]).length = j + 1 ∧ Below Wr.heap.size Wr V ∧ Kept (fun k => k ≠ Wr.heap.size ∧ k ≠ w5.heap.size) u9 V) := by
         refine ⟨?_, ?_, hVX, hG3.keep hkV (fun k hk => by have := HS9.out; show k ≠ w5.heap.size; omega), by rw [List.length_append, HLt.out]; rfl, hVB _ _ (Nat.le_of_lt HQL.out) hB3, hkx.trans (hkV.mono fun k hk => hk.2)⟩
         ·show stepL rNum (iter (stepL rNum) j ([], s9)) = _
          rw [HIu.out]
          unfold stepL
          dsimp only
          rw [HA.out]
         ·refine RxAt.keep (q := (· ≠ w5.heap.size)) ?_ hkV (Ne.symm HNE.out)
          have hSQ := HQL.out
          have hSs := HS9.out
          cases t2 with
          | none => obtain ⟨z, hz, h⟩ := hr; exact ⟨z, hz, (hbl3 _ (by omega)).trans h⟩
          | some z => exact ⟨hr.1, (hbl3 _ (by omega)).trans hr.2⟩
        clear hr hk1 hqx hbx hzx hgx hG3 hB3 hz3 hbl3 hq3 hVX hVA hVB hkV hkx
        refine hK _ _ ?_
        clear hK K
        refine wpAny_ready (rs := [5]) (by kernel_rfl) (by simp) ?_
        refine AllReady.cons rfl (fun K hK => ?_) ?_
        ·go_simp
         refine hK _ _ ?_
         clear hK K
         refine wpAny_ready (rs := [6]) (by kernel_rfl) (by simp) ?_
         refine AllReady.cons rfl (fun K hK => ?_) ?_
         ·go_simp
          refine hK _ _ ?_
          clear hK K
          refine tk 7 (v := ?_) rfl ?_ ?_
          rotate_left
          ·intro w; go_simp; with_reducible rfl
          refine wpAny_ready (rs := [8]) (by kernel_rfl) (by simp) ?_
          refine AllReady.cons rfl (fun K hK => ?_) ?_
          ·go_simp
           refine hK _ _ ?_
           clear hK K
           refine wpAny_done (by kernel_rfl) ?_ _
           go_wp2_with fail
           go_roundw
           case rel =>
            obtain ⟨h1, h2, h3, h4, h5, h6, h7⟩ := FI.out
            exact ⟨j + 1, _, _, _, by go_num, by omega, h1, h2, h3, h4, h5, h6, h7⟩
           case measure => simp [intOf]; omega
          exact AllReady.nil
         exact AllReady.nil
        exact AllReady.nil
       exact AllReady.nil
      refine AllReady.cons rfl (fun K hK => ?_) ?_
      ·go_simp
       refine HC.out.mono ?_
       rintro e x2 ⟨rfl, hr, hk1⟩
       have hqx : x2.heap[w5.heap.size]? = some (.cells #[.int .i64 a0, .int .u64 a1, .string a2, .string a3, .int .i64 a4, v, .int .u64 a6, .int .u64 a7, .int .u64 a8, y] 56 (0, 0)) := hk1.known HNE.out HQD.out
       have hbx : Below Wr.heap.size Wr x2 := HBD.out.trans (hk1.below (fun _ hk => Nat.ne_of_lt hk) HBD.out.size)
       have hzx : u9.heap.size ≤ x2.heap.size := Nat.le_trans HKD.out.size hk1.size
       have hgx := HGD.out.keep hk1 (fun k hk => by have := HS9.out; have := HQL.out; show k ≠ Wr.heap.size; omega)
       have d9 : x2.cell? ⟨w5.heap.size, 9, none⟩ = some y := cCc hqx 9
       have e9 : (x2.alloc (.cells #[.int .u64 a] 22)).cell? ⟨w5.heap.size, 9, none⟩ = some y := by
        obtain ⟨Z, hZ, -, hBZ, -⟩ := boxes1 x2 #[.int .u64 a] 22
        rw [hZ]
        exact cCc (known hBZ (by have := (Array.getElem?_eq_some_iff.1 hqx).1; omega) hqx) 9
       obtain ⟨g, cap, x3, hap, hG3, hB3, hz3, hbl3⟩ := hgx.push (w0 := Wr) (B := Wr.heap.size) 54 und_u64 info_u64 rfl (by decide) a [.int .u64 a] rfl hbx (by have := HQL.out; have := HS9.out; omega) hzx (by simp [Value.oneCell']) (by rw [HLt.out]; omega) (by decide)
       rw [HLt.out] at hap hG3
       have hq3 : x3.heap[w5.heap.size]? = some (.cells #[.int .i64 a0, .int .u64 a1, .string a2, .string a3, .int .i64 a4, v, .int .u64 a6, .int .u64 a7, .int .u64 a8, y] 56 (0, 0)) := (hbl3 _ (by have := HS9.out; omega)).trans hqx
       have c6 : x3.cell? ⟨w5.heap.size, 9, none⟩ = some y := cCc hq3 9
       have f6 : x3.frozen? ⟨w5.heap.size, 9, none⟩ = false := cFz hq3 9
       obtain ⟨V, hV, hVX, hVA, hVB, -⟩ := box_set (i := 9) hq3 (.slice (some ⟨g, 0, none⟩) (j + 1) cap)
       have hkV : Kept (· ≠ w5.heap.size) x3 V := by rw [← hV]; exact Kept.refl.set (fun _ h => h rfl) _ _
       have hkx : Kept (fun k => k ≠ Wr.heap.size ∧ k ≠ w5.heap.size) u9 x3 := ⟨hB3.os.trans HB9.out.os.symm, hB3.tape.trans HB9.out.tape.symm, hB3.output.trans HB9.out.output.symm, by omega, fun k hk hq => (hbl3 k hk).trans ((hk1.block k (Nat.lt_of_lt_of_le hk HKD.out.size) hq.1).trans (HKD.out.block k hk hq))⟩
       have FI : Hid (iter (stepL rNum) (j + 1) ([], s9) = (ts ++ [a], t2) ∧ RxAt Wr.heap.size t2 V ∧ V.heap[w5.heap.size]? = some (.cells #[.int .i64 a0, .int .u64 a1, .string a2, .string a3, .int .i64 a4, v, .int .u64 a6, .int .u64 a7, .int .u64 a8, .slice (some ⟨g, 0, none⟩) (j + 1) cap] 56 (0, 0)) ∧ GrowE encU V u9.heap.size 22 1 (.slice (some ⟨g, 0, none⟩) (j + 1) cap) (ts ++ [a]) ∧ (ts ++ [a]).length = j + 1 ∧ Below Wr.heap.size Wr V ∧ Kept (fun k => k ≠ Wr.heap.size ∧ k ≠ w5.heap.size) u9 V) := by
        refine ⟨?_, ?_, hVX, hG3.keep hkV (fun k hk => by have := HS9.out; show k ≠ w5.heap.size; omega), by rw [List.length_append, HLt.out]; rfl, hVB _ _ (Nat.le_of_lt HQL.out) hB3, hkx.trans (hkV.mono fun k hk => hk.2)⟩
        ·show stepL rNum (iter (stepL rNum) j ([], s9)) = _
         rw [HIu.out]
         unfold stepL
         dsimp only
         rw [HA.out]
        ·refine RxAt.keep (q := (· ≠ w5.heap.size)) ?_ hkV (Ne.symm HNE.out)
         have hSQ := HQL.out
         have hSs := HS9.out
         cases t2 with
         | none => obtain ⟨z, hz, h⟩ := hr; exact ⟨z, hz, (hbl3 _ (by omega)).trans h⟩
         | some z => exact ⟨hr.1, (hbl3 _ (by omega)).trans hr.2⟩
       clear hr hk1 hqx hbx hzx hgx hG3 hB3 hz3 hbl3 hq3 hVX hVA hVB hkV hkx
       refine hK _ _ ?_
       clear hK K
       refine wpAny_ready (rs := [1, 5]) (by kernel_rfl) (by simp) ?_
       refine AllReady.cons rfl (fun K hK => ?_) ?_
       ·go_simp
        refine hK _ _ ?_
        clear hK K
        refine wpAny_ready (rs := [5]) (by kernel_rfl) (by simp) ?_
        refine AllReady.cons rfl (fun K hK => ?_) ?_
        ·go_simp
         refine hK _ _ ?_
         clear hK K
         refine wpAny_ready (rs := [6]) (by kernel_rfl) (by simp) ?_
         refine AllReady.cons rfl (fun K hK => ?_) ?_
         ·go_simp
          refine hK _ _ ?_
          clear hK K
          refine tk 7 (v := ?_) rfl ?_ ?_
          rotate_left
          ·intro w; go_simp; with_reducible rfl
          refine wpAny_ready (rs := [8]) (by kernel_rfl) (by simp) ?_
          refine AllReady.cons rfl (fun K hK => ?_) ?_
          ·go_simp
           refine hK _ _ ?_
           clear hK K
           refine wpAny_done (by kernel_rfl) ?_ _
           go_wp2_with fail
           go_roundw
           case rel =>
            obtain ⟨h1, h2, h3, h4, h5, h6, h7⟩ := FI.out
            exact ⟨j + 1, _, _, _, by go_num, by omega, h1, h2, h3, h4, h5, h6, h7⟩
           case measure => simp [intOf]; omega
          exact AllReady.nil
         exact AllReady.nil
        exact AllReady.nil
       refine AllReady.cons rfl (fun K hK => ?_) ?_
       ·go_simp
        refine hK _ _ ?_
        clear hK K
        refine wpAny_ready (rs := [1]) (by kernel_rfl) (by simp) ?_
        refine AllReady.cons rfl (fun K hK => ?_) ?_
        ·go_simp
         refine hK _ _ ?_
         clear hK K
         refine wpAny_ready (rs := [6]) (by kernel_rfl) (by simp) ?_
         refine AllReady.cons rfl (fun K hK => ?_) ?_
         ·go_simp
          refine hK _ _ ?_
          clear hK K
          refine tk 7 (v := ?_) rfl ?_ ?_
          rotate_left
          ·intro w; go_simp; with_reducible rfl
          refine wpAny_ready (rs := [8]) (by kernel_rfl) (by simp) ?_
          refine AllReady.cons rfl (fun K hK => ?_) ?_
          ·go_simp
           refine hK _ _ ?_
           clear hK K
           refine wpAny_done (by kernel_rfl) ?_ _
           go_wp2_with fail
           go_roundw
           case rel =>
            obtain ⟨h1, h2, h3, h4, h5, h6, h7⟩ := FI.out
            exact ⟨j + 1, _, _, _, by go_num, by omega, h1, h2, h3, h4, h5, h6, h7⟩
           case measure => simp [intOf]; omega
          exact AllReady.nil
         exact AllReady.nil
        exact AllReady.nil
       exact AllReady.nil
      exact AllReady.nil
     exact AllReady.nil
    ·obtain rfl : j = nT := by omega
     obtain ⟨sz, xz, r0, r1, hend⟩ := rx_end HR.out
     obtain ⟨hRX, hRB⟩ := HRes.out wr HB.out
     obtain ⟨rf0, rf1, rf2, rf3, rf4, rf5, rf6, rf7, rf8, rf9⟩ := cz10 hRX
     obtain ⟨rc0, rc1, rc2, rc3, rc4, rc5, rc6, rc7, rc8, rc9⟩ := cl10 hRX
     have hQX := HQ.out
     obtain ⟨qc0, qc1, qc2, qc3, qc4, qc5, qc6, qc7, qc8, qc9⟩ := cl10 hQX
     rcases hend with ⟨he, rfl, rfl⟩ | ⟨he, rfl⟩ | ⟨he, rfl, hne⟩
     ·obtain ⟨V, hV, hVX, hVB, hVK⟩ := stor10 (.int .i64 a0) (.int .u64 a1) (.string a2) (.string a3) (.int .i64 a4) (v) (.int .u64 a6) (.int .u64 a7) (.int .u64 a8) (y) hRX hRB (Nat.le_refl _)
      obtain ⟨vc0, vc1, vc2, vc3, vc4, vc5, vc6, vc7, vc8, vc9⟩ := cl10 hVX
      have HF := Lib.hid hVB
      have hGi : GrowE encIt V (w5.heap.size + 1) 123 2 v its := ((HGi.out.keep' HKp.out (fun k hk _ => by have := HQL.out; constructor <;> omega)).keep' hVK (fun k hk _ => by have := HQL.out; have := HWr.out; show k ≠ w.heap.size; omega))
      have hGt : GrowE encU V u9.heap.size 22 1 y ts := HGt.out.keep' hVK (fun k hk _ => by have := HQL.out; have := HWr.out; have := HS9.out; show k ≠ w.heap.size; omega)
      obtain ⟨ia, ic, rfl, hsi⟩ := hGi.sl (fun x => rfl)
      obtain ⟨ta, tc, rfl, hst⟩ := hGt.sl (fun x => rfl)
      have hg : getRq l = some ⟨a0, a1, a2, a3, a4, its, a6, a7, a8, ts⟩ := getRq_some he HAa0.out HAa1.out HAa2.out HAa3.out HAa4.out HAa5.out (by simpa using HIt.out) HAa6.out HAa7.out HAa8.out HAa9.out (by simpa using HIu.out)
      clear hRX hRB hQX hVX hVB hVK hGi hGt he
      go_wp2_with fail
      refine bodyPost_ret (v := .tuple #[.agg (rqV ⟨a0, a1, a2, a3, a4, its, a6, a7, a8, ts⟩ ia ic ta tc), .int .i64 0]) (by simp [results, rqV, Tryz.f24, go_sem, vc0, vc1, vc2, vc3, vc4, vc5, vc6, vc7, vc8, vc9]) rfl ?_
      rw [hg]
      exact ⟨⟨_, _, _, _, rfl, hsi, hst⟩, HF.out⟩
     all_goals
      obtain ⟨V, hV, hVX, hVB, hVK⟩ := stor10 (.int .i64 0) (.int .u64 0) (.string ⟨#[]⟩) (.string ⟨#[]⟩) (.int .i64 0) (.slice none 0 0) (.int .u64 0) (.int .u64 0) (.int .u64 0) (.slice none 0 0) hRX hRB (Nat.le_refl _)
      obtain ⟨vc0, vc1, vc2, vc3, vc4, vc5, vc6, vc7, vc8, vc9⟩ := cl10 hVX
      have HF := Lib.hid hVB
      have hg : getRq l = none := getRq_none he HAa0.out HAa1.out HAa2.out HAa3.out HAa4.out HAa5.out (by simpa using HIt.out) HAa6.out HAa7.out HAa8.out HAa9.out (by simpa using HIu.out)
      clear hRX hRB hQX hVX hVB hVK he
      go_wp2_with fail
      refine bodyPost_ret (v := .tuple #[.agg rqZ, .int .i64 200]) (by simp [results, rqZ, Tryz.f24, go_sem, vc0, vc1, vc2, vc3, vc4, vc5, vc6, vc7, vc8, vc9]) rfl ?_
      rw [hg]
      exact ⟨rfl, HF.out⟩
end Go.Proofs.YtpklkhgnjbopnaaGreatDoor

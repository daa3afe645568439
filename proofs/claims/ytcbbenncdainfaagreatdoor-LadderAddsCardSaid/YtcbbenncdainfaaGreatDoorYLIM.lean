/- Package ladder: sketches that are wrong: Lower, To, Add, Merge, Ask. Printed by gen_lw.py. A right sketch is that of a body at work. No program in sight. Package hist: Rank (how many values are in the buckets up to that of a number). Package ladder: what a sketch tells of a number (the bodies' methods ask; Ask). Sketches as bodies, in plain data. No program in sight. Package ladder at any sketch, told as plain data. A sketch cut by Few: of Go's sizes. -/
import Derived.Test.YtcbbenncdainfaaGreatDoorYNC
namespace Go.Proofs.YtcbbenncdainfaaGreatDoor
open Go Go.RowKit Go.Shelf
theorem open_no (x : Sk) (s : SS) (w : World) (hx : s.At w.heap.size w x) (hs : s.Short) (hf : x.fit) (h : skOk x = false) :
  Calls Tryz.prog 31 #[.agg #[.int .i64 x.kind, .int .i64 x.level, .slice s.ea s.el s.ec, .int .i64 x.hb, .string x.hr, .int .i64 x.cr, .int .i64 x.cc, .slice s.ca s.cl s.cc, .int .i64 x.gf, .slice s.ga s.gl s.gc]] w fun e w' => ∃ f, e = .returned (.tuple #[.agg #[.nilIface, .int .i64 0, .int .i64 0], .iface 97 (.pointer (some ⟨f, 0, none⟩))]) ∧ w'.heap[f]? = some (.cells #[.int .i64 100] 99 (0, 0)) ∧ Below w.heap.size w w' := by
 have h0 := open_any x s w hx hs hf
 rw [h] at h0
 refine h0.mono ?_
 rintro e w' ⟨h1, hb⟩
 simp only [Bool.false_eq_true, if_false] at h1
 obtain ⟨b, rfl, hc, -⟩ := h1
 exact ⟨b, rfl, hc, hb⟩
set_option maxRecDepth 100000 in
set_option maxHeartbeats 2000000 in
theorem told_faultW (x0 x1 x2 : Value) (f : Value) (no : Int) (w : World) (hf : FaultAt w f no) (hg : GT w) :
  Calls Tryz.prog 32 #[.agg #[x0, x1, x2], f] w fun e w' => e = .returned (.tuple #[.agg #[.int .i64 0, .int .i64 0, .slice none 0 0, .int .i64 0, .string ⟨#[]⟩, .int .i64 0, .int .i64 0, .slice none 0 0, .int .i64 0, .slice none 0 0], .int .i64 no]) ∧ Below w.heap.size w w' := by
 obtain ⟨W0, hW0, hXp, hXr, hB0, hs0⟩ := boxes2 w #[x0, x1, x2] 60 #[.int .i64 0, .int .i64 0, .slice none 0 0, .int .i64 0, .string ⟨#[]⟩, .int .i64 0, .int .i64 0, .slice none 0 0, .int .i64 0, .slice none 0 0] 33
 have hf0 : FaultAt W0 f no := by
  obtain ⟨b, e, h⟩ := hf
  exact ⟨b, e, known hB0 (Nat.le_refl _) h⟩
 have HE := Lib.hid (errno_fault f no W0 (hg.go hB0) hf0)
 obtain ⟨b, rfl, -⟩ := hf
 have HXR := Lib.hid hXr
 have HB0 := Lib.hid hB0
 clear hXp hXr hB0 hf0 hg
 go_enter Tryz.func32, Tryz.ntmps32
 go_wp2_with fail
 refine HE.out.mono ?_
 rintro e w1 ⟨rfl, hb1⟩
 have hR1 := known hb1 (Nat.le_refl _) HXR.out
 have r10 : w1.cell? ⟨w.heap.size + 1, 0, none⟩ = some (.int .i64 0) := cCc hR1 0
 have r11 : w1.cell? ⟨w.heap.size + 1, 1, none⟩ = some (.int .i64 0) := cCc hR1 1
 have r12 : w1.cell? ⟨w.heap.size + 1, 2, none⟩ = some (.slice none 0 0) := cCc hR1 2
 have r13 : w1.cell? ⟨w.heap.size + 1, 3, none⟩ = some (.int .i64 0) := cCc hR1 3
 have r14 : w1.cell? ⟨w.heap.size + 1, 4, none⟩ = some (.string ⟨#[]⟩) := cCc hR1 4
 have r15 : w1.cell? ⟨w.heap.size + 1, 5, none⟩ = some (.int .i64 0) := cCc hR1 5
 have r16 : w1.cell? ⟨w.heap.size + 1, 6, none⟩ = some (.int .i64 0) := cCc hR1 6
 have r17 : w1.cell? ⟨w.heap.size + 1, 7, none⟩ = some (.slice none 0 0) := cCc hR1 7
 have r18 : w1.cell? ⟨w.heap.size + 1, 8, none⟩ = some (.int .i64 0) := cCc hR1 8
 have r19 : w1.cell? ⟨w.heap.size + 1, 9, none⟩ = some (.slice none 0 0) := cCc hR1 9
 have f10 : w1.frozen? ⟨w.heap.size + 1, 0, none⟩ = false := cFz hR1 0
 have f11 : w1.frozen? ⟨w.heap.size + 1, 1, none⟩ = false := cFz hR1 1
 have f12 : w1.frozen? ⟨w.heap.size + 1, 2, none⟩ = false := cFz hR1 2
 have f13 : w1.frozen? ⟨w.heap.size + 1, 3, none⟩ = false := cFz hR1 3
 have f14 : w1.frozen? ⟨w.heap.size + 1, 4, none⟩ = false := cFz hR1 4
 have f15 : w1.frozen? ⟨w.heap.size + 1, 5, none⟩ = false := cFz hR1 5
 have f16 : w1.frozen? ⟨w.heap.size + 1, 6, none⟩ = false := cFz hR1 6
 have f17 : w1.frozen? ⟨w.heap.size + 1, 7, none⟩ = false := cFz hR1 7
 have f18 : w1.frozen? ⟨w.heap.size + 1, 8, none⟩ = false := cFz hR1 8
 have f19 : w1.frozen? ⟨w.heap.size + 1, 9, none⟩ = false := cFz hR1 9
 have e0 : w1.setCell ⟨w.heap.size + 1, 0, none⟩ (.int .i64 0) = w1 := set_same hR1 rfl
 have e1 : w1.setCell ⟨w.heap.size + 1, 1, none⟩ (.int .i64 0) = w1 := set_same hR1 rfl
 have e2 : w1.setCell ⟨w.heap.size + 1, 2, none⟩ (.slice none 0 0) = w1 := set_same hR1 rfl
 have e3 : w1.setCell ⟨w.heap.size + 1, 3, none⟩ (.int .i64 0) = w1 := set_same hR1 rfl
 have e4 : w1.setCell ⟨w.heap.size + 1, 4, none⟩ (.string ⟨#[]⟩) = w1 := set_same hR1 rfl
 have e5 : w1.setCell ⟨w.heap.size + 1, 5, none⟩ (.int .i64 0) = w1 := set_same hR1 rfl
 have e6 : w1.setCell ⟨w.heap.size + 1, 6, none⟩ (.int .i64 0) = w1 := set_same hR1 rfl
 have e7 : w1.setCell ⟨w.heap.size + 1, 7, none⟩ (.slice none 0 0) = w1 := set_same hR1 rfl
 have e8 : w1.setCell ⟨w.heap.size + 1, 8, none⟩ (.int .i64 0) = w1 := set_same hR1 rfl
 have e9 : w1.setCell ⟨w.heap.size + 1, 9, none⟩ (.slice none 0 0) = w1 := set_same hR1 rfl
 have HBW : Hid (Below w.heap.size w w1) := HB0.out.trans (hb1.mono HB0.out.size)
 clear hR1 hb1
 go_wp2_with fail
 exact bodyPost_ret (v := .tuple #[.agg #[.int .i64 0, .int .i64 0, .slice none 0 0, .int .i64 0, .string ⟨#[]⟩, .int .i64 0, .int .i64 0, .slice none 0 0, .int .i64 0, .slice none 0 0], .int .i64 no]) (by simp [results, Tryz.f32, go_sem, r10, r11, r12, r13, r14, r15, r16, r17, r18, r19]) rfl ⟨rfl, HBW.out⟩
set_option maxRecDepth 100000 in
set_option maxHeartbeats 2000000 in
theorem Add_no (x : Sk) (s : SS) (h1 n1 : Int) (w : World) (hx : s.At w.heap.size w x) (hs : s.Short) (hf : x.fit) (h : skOk x = false) (hg : GT w) :
  Calls Tryz.prog 15 #[.agg #[.int .i64 x.kind, .int .i64 x.level, .slice s.ea s.el s.ec, .int .i64 x.hb, .string x.hr, .int .i64 x.cr, .int .i64 x.cc, .slice s.ca s.cl s.cc, .int .i64 x.gf, .slice s.ga s.gl s.gc], .agg #[.int .u64 h1, .int .u64 n1]] w fun e w' => e = .returned (.tuple #[.agg #[.int .i64 0, .int .i64 0, .slice none 0 0, .int .i64 0, .string ⟨#[]⟩, .int .i64 0, .int .i64 0, .slice none 0 0, .int .i64 0, .slice none 0 0], .int .i64 100]) ∧ Below w.heap.size w w' := by
 obtain ⟨W0, hW0, hXp, hXi0, hXr, hB0, hs0⟩ := boxes3 w #[.int .i64 x.kind, .int .i64 x.level, .slice s.ea s.el s.ec, .int .i64 x.hb, .string x.hr, .int .i64 x.cr, .int .i64 x.cc, .slice s.ca s.cl s.cc, .int .i64 x.gf, .slice s.ga s.gl s.gc] 33 #[.int .u64 h1, .int .u64 n1] 45 #[.int .i64 0, .int .i64 0, .slice none 0 0, .int .i64 0, .string ⟨#[]⟩, .int .i64 0, .int .i64 0, .slice none 0 0, .int .i64 0, .slice none 0 0] 33
 have HO := Lib.hid (open_no x s W0 (hx.go hB0) hs hf h)
 obtain ⟨c0, c1, c2, c3, c4, c5, c6, c7, c8, c9⟩ := cl10 hXp
 have HGT := Lib.hid (hg.go hB0)
 have HXR := Lib.hid hXr
 have HB0 := Lib.hid hB0
 clear hXp hXi0 hXr hB0 hx hs hf h hg
 go_enter Tryz.func15, Tryz.ntmps15
 go_wp2_with fail
 refine HO.out.mono ?_
 rintro e w1 ⟨fb, rfl, hf1, hb1⟩
 obtain ⟨W2, hW2, hX2, hB2, hs2⟩ := boxes1 w1 #[.nilIface, .int .i64 0, .int .i64 0] 60
 obtain ⟨d0, d1, d2⟩ := cl3 hX2
 have z20 : W2.frozen? ⟨w1.heap.size, 0, none⟩ = false := cFz hX2 0
 have z21 : W2.frozen? ⟨w1.heap.size, 1, none⟩ = false := cFz hX2 1
 have z22 : W2.frozen? ⟨w1.heap.size, 2, none⟩ = false := cFz hX2 2
 have zs0 : W2.setCell ⟨w1.heap.size, 0, none⟩ .nilIface = W2 := set_same hX2 rfl
 have zs1 : W2.setCell ⟨w1.heap.size, 1, none⟩ (.int .i64 0) = W2 := set_same hX2 rfl
 have zs2 : W2.setCell ⟨w1.heap.size, 2, none⟩ (.int .i64 0) = W2 := set_same hX2 rfl
 have hb02 := hb1.trans (hB2.mono hb1.size)
 have HN := Lib.hid (told_faultW .nilIface (.int .i64 0) (.int .i64 0) _ 100 W2 ⟨fb, rfl, (hB2.block _ (Array.getElem?_eq_some_iff.1 hf1).1).trans hf1⟩ (HGT.out.go hb02))
 have HR2 : Hid (W2.heap[w.heap.size + 2]? = some (.cells #[.int .i64 0, .int .i64 0, .slice none 0 0, .int .i64 0, .string ⟨#[]⟩, .int .i64 0, .int .i64 0, .slice none 0 0, .int .i64 0, .slice none 0 0] 33 (0, 0))) := known hb02 (Nat.le_refl _) HXR.out
 have HB02 : Hid (Below w.heap.size w W2) := HB0.out.trans (hb02.mono HB0.out.size)
 clear hf1 hb1 hX2 hB2 hb02
 go_wp2_with fail
 refine HN.out.mono ?_
 rintro e w3 ⟨rfl, hb3⟩
 have hR3 := known hb3 (Nat.le_refl _) HR2.out
 have r30 : w3.cell? ⟨w.heap.size + 2, 0, none⟩ = some (.int .i64 0) := cCc hR3 0
 have r31 : w3.cell? ⟨w.heap.size + 2, 1, none⟩ = some (.int .i64 0) := cCc hR3 1
 have r32 : w3.cell? ⟨w.heap.size + 2, 2, none⟩ = some (.slice none 0 0) := cCc hR3 2
 have r33 : w3.cell? ⟨w.heap.size + 2, 3, none⟩ = some (.int .i64 0) := cCc hR3 3
 have r34 : w3.cell? ⟨w.heap.size + 2, 4, none⟩ = some (.string ⟨#[]⟩) := cCc hR3 4
 have r35 : w3.cell? ⟨w.heap.size + 2, 5, none⟩ = some (.int .i64 0) := cCc hR3 5
 have r36 : w3.cell? ⟨w.heap.size + 2, 6, none⟩ = some (.int .i64 0) := cCc hR3 6
 have r37 : w3.cell? ⟨w.heap.size + 2, 7, none⟩ = some (.slice none 0 0) := cCc hR3 7
 have r38 : w3.cell? ⟨w.heap.size + 2, 8, none⟩ = some (.int .i64 0) := cCc hR3 8
 have r39 : w3.cell? ⟨w.heap.size + 2, 9, none⟩ = some (.slice none 0 0) := cCc hR3 9
 have f30 : w3.frozen? ⟨w.heap.size + 2, 0, none⟩ = false := cFz hR3 0
 have f31 : w3.frozen? ⟨w.heap.size + 2, 1, none⟩ = false := cFz hR3 1
 have f32 : w3.frozen? ⟨w.heap.size + 2, 2, none⟩ = false := cFz hR3 2
 have f33 : w3.frozen? ⟨w.heap.size + 2, 3, none⟩ = false := cFz hR3 3
 have f34 : w3.frozen? ⟨w.heap.size + 2, 4, none⟩ = false := cFz hR3 4
 have f35 : w3.frozen? ⟨w.heap.size + 2, 5, none⟩ = false := cFz hR3 5
 have f36 : w3.frozen? ⟨w.heap.size + 2, 6, none⟩ = false := cFz hR3 6
 have f37 : w3.frozen? ⟨w.heap.size + 2, 7, none⟩ = false := cFz hR3 7
 have f38 : w3.frozen? ⟨w.heap.size + 2, 8, none⟩ = false := cFz hR3 8
 have f39 : w3.frozen? ⟨w.heap.size + 2, 9, none⟩ = false := cFz hR3 9
 have e0 : w3.setCell ⟨w.heap.size + 2, 0, none⟩ (.int .i64 0) = w3 := set_same hR3 rfl
 have e1 : w3.setCell ⟨w.heap.size + 2, 1, none⟩ (.int .i64 0) = w3 := set_same hR3 rfl
 have e2 : w3.setCell ⟨w.heap.size + 2, 2, none⟩ (.slice none 0 0) = w3 := set_same hR3 rfl
 have e3 : w3.setCell ⟨w.heap.size + 2, 3, none⟩ (.int .i64 0) = w3 := set_same hR3 rfl
 have e4 : w3.setCell ⟨w.heap.size + 2, 4, none⟩ (.string ⟨#[]⟩) = w3 := set_same hR3 rfl
 have e5 : w3.setCell ⟨w.heap.size + 2, 5, none⟩ (.int .i64 0) = w3 := set_same hR3 rfl
 have e6 : w3.setCell ⟨w.heap.size + 2, 6, none⟩ (.int .i64 0) = w3 := set_same hR3 rfl
 have e7 : w3.setCell ⟨w.heap.size + 2, 7, none⟩ (.slice none 0 0) = w3 := set_same hR3 rfl
 have e8 : w3.setCell ⟨w.heap.size + 2, 8, none⟩ (.int .i64 0) = w3 := set_same hR3 rfl
 have e9 : w3.setCell ⟨w.heap.size + 2, 9, none⟩ (.slice none 0 0) = w3 := set_same hR3 rfl
 have HBU : Hid (Below w.heap.size w w3) := HB02.out.trans (hb3.mono HB02.out.size)
 clear hR3 hb3
 go_wp2_with fail
 exact bodyPost_ret (v := .tuple #[.agg #[.int .i64 0, .int .i64 0, .slice none 0 0, .int .i64 0, .string ⟨#[]⟩, .int .i64 0, .int .i64 0, .slice none 0 0, .int .i64 0, .slice none 0 0], .int .i64 100]) (by simp [results, Tryz.f15, go_sem, r30, r31, r32, r33, r34, r35, r36, r37, r38, r39]) rfl ⟨rfl, HBU.out⟩
set_option maxRecDepth 100000 in
set_option maxHeartbeats 2000000 in
theorem Ask_no (x : Sk) (s : SS) (q : Int) (w : World) (hx : s.At w.heap.size w x) (hs : s.Short) (hf : x.fit) (h : skOk x = false) :
  Calls Tryz.prog 25 #[.agg #[.int .i64 x.kind, .int .i64 x.level, .slice s.ea s.el s.ec, .int .i64 x.hb, .string x.hr, .int .i64 x.cr, .int .i64 x.cc, .slice s.ca s.cl s.cc, .int .i64 x.gf, .slice s.ga s.gl s.gc], .int .u64 q] w fun e w' => e = .returned (.int .u64 0) ∧ Below w.heap.size w w' := by
 obtain ⟨W0, hW0, hXp, hB0, hs0⟩ := boxes1 w #[.int .i64 x.kind, .int .i64 x.level, .slice s.ea s.el s.ec, .int .i64 x.hb, .string x.hr, .int .i64 x.cr, .int .i64 x.cc, .slice s.ca s.cl s.cc, .int .i64 x.gf, .slice s.ga s.gl s.gc] 33
 have HO := Lib.hid (open_no x s W0 (hx.go hB0) hs hf h)
 obtain ⟨c0, c1, c2, c3, c4, c5, c6, c7, c8, c9⟩ := cl10 hXp
 have HB0 := Lib.hid hB0
 clear hXp hB0 hx hs hf h
 go_enter Tryz.func25, Tryz.ntmps25
 go_wp2_with fail
 refine HO.out.mono ?_
 rintro e w1 ⟨fb, rfl, hf1, hb1⟩
 obtain ⟨W2, hW2, hX2, hB2, hs2⟩ := boxes1 w1 #[.nilIface, .int .i64 0, .int .i64 0] 60
 obtain ⟨d0, d1, d2⟩ := cl3 hX2
 have z20 : W2.frozen? ⟨w1.heap.size, 0, none⟩ = false := cFz hX2 0
 have z21 : W2.frozen? ⟨w1.heap.size, 1, none⟩ = false := cFz hX2 1
 have z22 : W2.frozen? ⟨w1.heap.size, 2, none⟩ = false := cFz hX2 2
 have zs0 : W2.setCell ⟨w1.heap.size, 0, none⟩ .nilIface = W2 := set_same hX2 rfl
 have zs1 : W2.setCell ⟨w1.heap.size, 1, none⟩ (.int .i64 0) = W2 := set_same hX2 rfl
 have zs2 : W2.setCell ⟨w1.heap.size, 2, none⟩ (.int .i64 0) = W2 := set_same hX2 rfl
 have HB02 : Hid (Below w.heap.size w W2) := HB0.out.trans ((hb1.trans (hB2.mono hb1.size)).mono HB0.out.size)
 clear hf1 hb1 hX2 hB2
 go_wp2_with fail
 go_ret
 exact ⟨rfl, HB02.out⟩
end Go.Proofs.YtcbbenncdainfaaGreatDoor
namespace Go.Proofs.YtcbbenncdainfaaGreatDoor
open Go Go.RowKit Go.Shelf
theorem sk_eq {x y : Sk} (h : skSame x y = true) : x = y := by
 simp only [skSame, Bool.and_eq_true, beq_iff_eq] at h
 obtain ⟨⟨⟨⟨⟨h1, h2⟩, h3, h4⟩, h5⟩, ⟨h6, h7⟩, h8⟩, h9, h10⟩ := h
 have h4' : x.hr = y.hr := by
  rw [Lib.toList_data, Lib.toList_data] at h4
  cases hx : x.hr with | mk a => cases hy : y.hr with | mk b =>
  rw [hx, hy] at h4
  rw [show a = b from Array.toList_inj.1 h4]
 cases x; cases y
 simp only at *
 subst h1 h2 h3 h4' h5 h6 h7 h8 h9 h10
 rfl
def strRegs (s : ByteArray) : List Nat := s.data.toList.map (·.toNat)
theorem strRegs_str (s : ByteArray) : hlStr (strRegs s) = s := by
 unfold hlStr strRegs
 have h : (strOfNums ((s.data.toList.map (·.toNat)).map fun (n : Nat) => (n : Int))).data.toList = s.data.toList := by
  rw [strOfNums_data, List.map_map, List.map_map]
  conv => rhs; rw [← List.map_id s.data.toList]
  refine List.map_congr_left (fun x _ => ?_)
  simp
 generalize strOfNums ((s.data.toList.map (·.toNat)).map fun (n : Nat) => (n : Int)) = z at h
 cases z with | mk a => cases s with | mk b =>
 have h2 : a.toList = b.toList := h
 rw [Array.toList_inj.1 h2]
theorem strRegs_len (s : ByteArray) : (strRegs s).length = s.size := by unfold strRegs; rw [List.length_map]; exact Array.length_toList
theorem strRegs_le (b : Nat) (s : ByteArray) (h : regsOk b s = true) : ∀ i, (strRegs s).getD i 0 ≤ 65 - b := fun i => by
 rw [List.getD_eq_getElem?_getD]
 cases hi : (strRegs s)[i]? with
 | none => exact Nat.zero_le _
 | some r =>
  have hm := List.mem_of_getElem? hi
  unfold strRegs at hm
  obtain ⟨c, hc, rfl⟩ := List.mem_map.1 hm
  unfold regsOk at h
  have h2 := List.all_eq_true.1 h c hc
  have h3 : ¬ (65 - (b : Int) < (c.toNat : Int)) := by simpa using h2
  show c.toNat ≤ 65 - b
  omega
theorem hist_says (f : Int) : ∀ (l : List (Int × Int)) (last : Int), (foldO (histStep f) last l).isSome = true → BinUp l ∧ (∀ b ∈ l, last < b.1) ∧ (∀ b ∈ l, b.2 ≠ 0) ∧ ∀ b ∈ l, boundsB f b.1 = true
 | [], _, _ => ⟨List.Pairwise.nil, (fun _ h => by cases h), (fun _ h => by cases h), fun _ h => by cases h⟩
 | b :: t, last, h => by
  rw [foldO_cons] at h
  cases hs : histStep f last b with
  | none => rw [hs] at h; cases h
  | some z =>
   rw [hs] at h
   have hs2 : z = b.1 ∧ b.2 ≠ 0 ∧ boundsB f b.1 = true ∧ last < b.1 := by
    unfold histStep at hs
    split at hs
    ·cases hs
    ·rename_i hc
     simp only [Bool.or_eq_true, beq_iff_eq, Bool.not_eq_true', decide_eq_true_eq, not_or, Bool.not_eq_false] at hc
     exact ⟨(Option.some.inj hs).symm, hc.1.1, hc.1.2, by omega⟩
   obtain ⟨rfl, h2, h3, h4⟩ := hs2
   obtain ⟨i1, i2, i3, i4⟩ := hist_says f t b.1 h
   refine ⟨List.pairwise_cons.2 ⟨i2, i1⟩, fun c hc => ?_, fun c hc => ?_, fun c hc => ?_⟩
   ·rcases List.mem_cons.1 hc with rfl | hc
    ·exact h4
    ·have := i2 c hc; omega
   ·rcases List.mem_cons.1 hc with rfl | hc
    ·exact h2
    ·exact i3 c hc
   ·rcases List.mem_cons.1 hc with rfl | hc
    ·exact h3
    ·exact i4 c hc
theorem sk_bd (x : Sk) (h : skOk x = true) (he : U64s x.e) (hc : U64s x.cl) (hg : BinsU x.gl) : ∃ (k L : Nat) (B : Bd), x = skOf k L B ∧ B.Ok k L := by
 simp only [skOk, Bool.and_eq_true, decide_eq_true_eq] at h
 obtain ⟨⟨⟨k1, k3⟩, l0, l1⟩, hb, hsm⟩ := h
 have hx := sk_eq hsm
 obtain ⟨L, hL⟩ : ∃ L : Nat, x.level = L := ⟨x.level.toNat, by omega⟩
 rcases (by omega : x.kind = 1 ∨ x.kind = 2 ∨ x.kind = 3) with hk | hk | hk
 ·have hbt : bottomB x.kind = 4 := by rw [hk]; rfl
  rw [hbt, hL] at l1
  by_cases h0 : L = 0
  ·subst h0
   have h1 : skCanon x = skNum 1 0 x.e := by unfold skCanon; rw [hk, hL]; rfl
   have h2 : exRight x.e = true := by unfold bodyRight at hb; rw [hk, hL] at hb; exact hb
   obtain ⟨u1, u2⟩ := exRight_up x.e h2
   exact ⟨1, 0, .num x.e, by rw [h1] at hx; exact hx, rfl, rfl, u1, u2, he⟩
  ·have hn0 : ((L : Int) == 0) = false := by simp; omega
   have h1 : skCanon x = skReg 1 L x.hb x.hr := by
    unfold skCanon
    rw [hk, hL]
    show (if ((1 : Int) == 1) then if ((L : Int) == 0) then _ else _ else _) = _
    rw [hn0]
    rfl
   have h2 : (hlRight x.hb x.hr && (x.hb == 8 - (L : Int))) = true := by
    unfold bodyRight at hb
    rw [hk, hL] at hb
    have hb2 : (if ((L : Int) == 0) then exRight x.e else hlRight x.hb x.hr && (x.hb == 8 - (L : Int))) = true := hb
    rw [hn0] at hb2
    exact hb2
   rw [Bool.and_eq_true, beq_iff_eq] at h2
   obtain ⟨h3, h4⟩ := h2
   unfold hlRight at h3
   rw [Bool.and_eq_true, Bool.and_eq_true, beq_iff_eq] at h3
   obtain ⟨⟨h5, h6⟩, h7⟩ := h3
   obtain ⟨b, hbb⟩ : ∃ b : Nat, x.hb = b := ⟨x.hb.toNat, by omega⟩
   rw [hbb] at h4 h6 h7 h1
   have hsz : x.hr.size = 2 ^ b := by
    rw [Int.toNat_natCast] at h6
    have : ((2 : Int) ^ b) = ((2 ^ b : Nat) : Int) := by simp
    omega
   refine ⟨1, L, .reg b (strRegs x.hr), ?_, rfl, by omega, by omega, by omega, by rw [strRegs_len]; exact hsz, strRegs_le b x.hr h7⟩
   show x = skReg 1 L b (hlStr (strRegs x.hr))
   rw [strRegs_str]
   exact hx.trans h1
 ·have hbt : bottomB x.kind = 3 := by rw [hk]; rfl
  rw [hbt, hL] at l1
  have h1 : skCanon x = skCnt 2 L x.cr x.cc x.cl := by unfold skCanon; rw [hk, hL]; rfl
  have h2 : (cmRight x.cr x.cc x.cl && (x.cr == 2) && (x.cc == 32 / 2 ^ L)) = true := by
   unfold bodyRight at hb
   rw [hk, hL, Int.toNat_natCast] at hb
   exact hb
  rw [Bool.and_eq_true, Bool.and_eq_true, beq_iff_eq, beq_iff_eq] at h2
  obtain ⟨⟨h3, h4⟩, h5⟩ := h2
  unfold cmRight at h3
  rw [Bool.and_eq_true, beq_iff_eq] at h3
  have h6 := h3.2
  obtain ⟨c, hcc⟩ : ∃ c : Nat, x.cc = c := ⟨32 / 2 ^ L, by rw [h5]; simp⟩
  have hc32 : c * 2 ^ L = 32 := by
   have hc2 : (c : Int) = ((32 / 2 ^ L : Nat) : Int) := by rw [← hcc, h5]; simp
   have hc3 : c = 32 / 2 ^ L := by omega
   rw [hc3]
   rcases (by omega : L = 0 ∨ L = 1 ∨ L = 2 ∨ L = 3) with rfl | rfl | rfl | rfl <;> rfl
  rw [h4, hcc] at h6 h1
  refine ⟨2, L, .cnt c x.cl, ?_, rfl, by omega, hc32, by omega, hc⟩
  exact hx.trans h1
 ·have hbt : bottomB x.kind = 3 := by rw [hk]; rfl
  rw [hbt, hL] at l1
  have h1 : skCanon x = skBkt 3 L x.gf x.gl := by unfold skCanon; rw [hk, hL]; rfl
  have h2 : (hiRight x.gf x.gl && (x.gf == 3 - (L : Int))) = true := by
   unfold bodyRight at hb
   rw [hk, hL] at hb
   exact hb
  rw [Bool.and_eq_true, beq_iff_eq] at h2
  obtain ⟨h3, h4⟩ := h2
  unfold hiRight at h3
  rw [Bool.and_eq_true] at h3
  obtain ⟨u1, u2, u3, u4⟩ := hist_says x.gf x.gl (-1) h3.2
  obtain ⟨f, hf⟩ : ∃ f : Nat, x.gf = f := ⟨x.gf.toNat, by omega⟩
  rw [hf] at u4 h4 h1
  refine ⟨3, L, .bkt f x.gl, hx.trans h1, rfl, by omega, by omega, u1, u3, hg, u4⟩
end Go.Proofs.YtcbbenncdainfaaGreatDoor
namespace Go.Proofs.YtcbbenncdainfaaGreatDoor
open Go Go.RowKit Go.Shelf
attribute [local go_sem] Oper.semAt_some
theorem wp_range_box2 {α : Type} {P : Program} {g : Operand} {ps : Array Tmp} {assign body : Code} {Q : Exit → Act → World → Prop} {a : Act} {w : World} {id : Nat} (t : TypeId) (cs : α → Array Value) (s1 s2 : Nat) (v2 : α → Value)
  {gf : Nat} {lb : Array Value} (hg : a.eval g = .func (.func gf) #[] lb) (eg : ∀ args w, (callFunc gf args).run P w = .ok (.enter gf args) w)
  {encs : α → Array Value} {n₀ : Nat} {xs : List α} {N : Nat} {w0 : World} (hseq : SeqStopsK Fence.wide 8 P gf lb encs (Below n₀) (fun ys => ys = xs) (fun pre => pre <+: xs) N w0)
  (hn₀ : n₀ ≤ w.heap.size) (hb0 : Below w0.heap.size w0 w) (hps : ∀ x, (encs x).size = ps.size)
  (I Ib : List α → World → Prop) (hI : OwnFrom w.heap.size I) (hIb : OwnFrom w.heap.size Ib) (h0 : I [] w)
  (hassign : ∀ (l : Nat) (pre : List α) (x : α) (W : World) (K : Act → World → Prop), I pre W → w.heap.size ≤ W.heap.size →
   (I pre (W.alloc (.cells (cs x) t)) → K { tmps := put2 s1 s2 (.pointer (some ⟨W.heap.size, 0, none⟩)) (v2 x) ((ps.zip (encs x)).foldl (fun t (p, v) => t.setIfInBounds p v) a.tmps), defers := [] } (W.alloc (.cells (cs x) t))) →
   assign.wpIn (Fence.wide.inRound l) 7 P (Exit.then K (fun _ _ _ => False)) { tmps := (ps.zip (encs x)).foldl (fun t (p, v) => t.setIfInBounds p v) a.tmps, defers := [] } W)
  (hbody : ∀ (l : Nat) (pre : List α) (x : α) (W : World) (Bx : Nat), I pre W → w.heap.size ≤ Bx → Bx < W.heap.size → W.heap[Bx]? = some (.cells (cs x) t (0, 0)) → pre.length < N →
   body.wpIn (Fence.wide.inRound l) 7 P (ownPostG w.heap.size (Below n₀) I (fun c pre W => c = .exit id ∧ Ib pre W) (pre ++ [x]) W) { tmps := put2 s1 s2 (.pointer (some ⟨Bx, 0, none⟩)) (v2 x) ((ps.zip (encs x)).foldl (fun t (p, v) => t.setIfInBounds p v) a.tmps), defers := [] } W)
  (hfin : ∀ (D : Nat) (W : World), w.heap.size ≤ D → (I xs W ∨ ∃ pre, pre <+: xs ∧ Ib pre W) → W.heap[D]? = some (.deferred (some [])) → Q .normal { a with defers := { target := .collected D, args := #[] } :: a.defers } W) :
  (Code.rangeFunc g ps assign body).wp P (Exit.inBlock id Q) a w := by
 obtain ⟨T, hT⟩ : ∃ T : α → Nat → Array Value, ∀ x Bx, T x Bx = put2 s1 s2 (.pointer (some ⟨Bx, 0, none⟩)) (v2 x) ((ps.zip (encs x)).foldl (fun t (p, v) => t.setIfInBounds p v) a.tmps) := ⟨_, fun _ _ => rfl⟩
 simp only [← hT] at hassign hbody
 exact wp_range_boxT t cs T hg eg hseq hn₀ hb0 hps I Ib hI hIb h0 hassign hbody hfin
def RI (n L : Nat) (last : Int) (w : World) (pre : List ((Int × Int) × Int)) (W : World) : Prop := Boxed W (n + 1) 43 (.int .u64 (rkPre 0 pre)) ∧ Boxed W L 3 (.int .i64 last) ∧ Below n w W ∧ ∀ x ∈ pre, x.1.1 ≤ last
theorem ri_own (n L : Nat) (last : Int) (w : World) (hn : n ≤ w.heap.size) (C : Nat) (hC2 : n ≤ C) : OwnFrom C (RI n L last w) := fun pre X Y row hs hg hr => by
 obtain ⟨h1, h2, h3, h4⟩ := hs
 have hr' : ∀ r, row = some r → ∃ o : Obj, X.heap[r]? = some o ∧ o.isCells = false := fun r e => (hr r e).2
 exact ⟨ownBlk h1 hg hr', ownBlk h2 hg hr', ownFrom_below (β := Unit) (B := C) hn hC2 () X Y row h3 hg hr, h4⟩
def RIb (n L : Nat) (last : Int) (w : World) (pre : List ((Int × Int) × Int)) (W : World) : Prop := ∃ p x, pre = p ++ [x] ∧ last < x.1.1 ∧ RI n L last w p W
theorem rib_own (n L : Nat) (last : Int) (w : World) (hn : n ≤ w.heap.size) (C : Nat) (hC2 : n ≤ C) : OwnFrom C (RIb n L last w) := fun pre X Y row hs hg hr => by
 obtain ⟨p, x, h1, h2, h3⟩ := hs
 exact ⟨p, x, h1, h2, ri_own n L last w hn C hC2 p X Y row h3 hg hr⟩
set_option maxRecDepth 100000 in
set_option maxHeartbeats 2000000 in
theorem hRank_any (f : Nat) (l : List (Int × Int)) (v : Nat) (a : Option Addr) (len cap : Nat) (w : World) (hf : f ≤ 3) (hL : SlE encB 2 w.heap.size w a len l) (hr : hiRight f l = true) (hbu : BinsU l) (hlen : len ≤ 1000) (hp : ∀ b ∈ l, I64 b.1) (hv : v < 2 ^ 64) :
  Calls Tryz.prog 195 #[.agg #[.int .i64 f, .slice a len cap], .int .u64 v] w fun e w' => e = .returned (.int .u64 (hiRank f l v)) ∧ Below w.heap.size w w' := by
 have hR : Hid (∀ w1, Below w.heap.size w w1 → Calls Tryz.prog 98 #[.agg #[.int .i64 f, .slice a len cap]] w1 fun e w' => e = .returned (.bool true) ∧ Below w1.heap.size w1 w') := fun w1 hb => (hist_Right_any f l a len cap w1 ((hL.below hb).mono hb.size) (by unfold maxLen; omega) (fun b hb => (hp b hb).2)).mono fun e w' h => ⟨by rw [h.1, hr], h.2⟩
 have hBk : Hid (∀ w1, Calls Tryz.prog 201 #[.int .i64 f, .int .u64 v] w1 fun e w' => e = .returned (.int .i64 (hiBk f v)) ∧ Below w1.heap.size w1 w') := fun w1 => Bucket_any f v w1 hf hv
 have HL : Hid (SlE encB 2 w.heap.size w a len l ∧ len ≤ 1000 ∧ BinsU l ∧ len = l.length) := ⟨hL, hlen, hbu, hL.1⟩
 have hlast : ∃ last, hiBk f v = last := ⟨_, rfl⟩
 obtain ⟨last, hla⟩ := hlast
 rw [hla] at hBk
 have HLA := Lib.hid hla
 clear hL hlen hbu hp hr hf hv hla
 obtain ⟨W0, hW0, hX0, hY0, hB0, hs0⟩ := boxes2 w #[.int .i64 f, .slice a len cap] 31 #[.int .u64 0] 43
 have z1 : W0.setCell ⟨w.heap.size + 1, 0, none⟩ (.int .u64 0) = W0 := set_same hY0 rfl
 have y0 : W0.cell? ⟨w.heap.size + 1, 0, none⟩ = some (.int .u64 0) := cCc hY0 0
 have y9 : W0.frozen? ⟨w.heap.size + 1, 0, none⟩ = false := cFz hY0 0
 have HX0 := Lib.hid hX0
 have HY0 := Lib.hid hY0
 have HB0 := Lib.hid hB0
 obtain ⟨k0, k1⟩ := cl2 hX0
 clear hX0 hB0 hY0
 refine calls_marks Tryz.func195 rfl ?_
 simp only [Tryz.ntmps195, List.size_toArray, List.length_cons, List.length_nil, Nat.reduceAdd, Nat.reduceSub, Array.replicate_succ, Array.replicate_zero, List.push_toArray, List.append_toArray, List.nil_append, List.cons_append]
 go_wp2_with fail
 go_step3
 go_wp2_with fail
 refine (hR.out _ HB0.out).mono ?_
 rintro e w1 ⟨rfl, hb1⟩
 have hX1 := known hb1 (Nat.le_refl _) HX0.out
 obtain ⟨d0, d1⟩ := cl2 hX1
 go_wp2_with fail
 refine (hBk.out _).mono ?_
 rintro e w2 ⟨rfl, hb2⟩
 have hX2 := known hb2 (Nat.le_refl _) hX1
 obtain ⟨W3, hW3, hX3, hB3, hs3⟩ := boxes1 w2 #[.int .i64 last] 3
 have hX30 := known hB3 (Nat.le_refl _) hX2
 obtain ⟨e0, e1⟩ := cl2 hX30
 go_wp2_with fail
 apply wp_label
 obtain ⟨W5, hW5, hX5, hB5, hs5⟩ := boxes1 W3 #[.slice a len cap] 29
 have HW5 := Lib.hid hW5
 have hz1 : w.heap.size + 2 ≤ w1.heap.size := by have := hb1.size; omega
 have hz2 : w1.heap.size ≤ w2.heap.size := hb2.size
 have hB35 : Below w2.heap.size w2 W5 := hB3.trans (hB5.mono (by omega))
 have hB15 : Below W0.heap.size W0 W5 := hb1.trans ((hb2.trans (hB35.mono hz2)).mono (by omega))
 have hB05 : Below w.heap.size w W5 := HB0.out.trans (hB15.mono HB0.out.size)
 have H0 : Hid (RI w.heap.size w2.heap.size last w [] W5) := ⟨known hB15 (Nat.le_refl _) HY0.out, known hB5 (Nat.le_refl _) hX3, hB05, fun x hx => by cases hx⟩
 have HS := Lib.hid (sums_seq W3.heap.size w.heap.size a len cap l (by have := HL.out.2.1; omega) HL.out.2.2.1 W5 (by omega) (by omega) (cCc hX5 0) (HL.out.1.below hB05))
 have HZ : Hid (w.heap.size + 2 ≤ w1.heap.size ∧ w1.heap.size ≤ w2.heap.size ∧ W3.heap.size = w2.heap.size + 1 ∧ W5.heap.size = W3.heap.size + 1) := ⟨hz1, hz2, hs3, hs5⟩
 rw [hs3] at HS
 clear hW5 hX5 hB5 hB35 hB15 hB05 hX1 hX2 hX3 hX30 hB3 hb1 hb2 hz1 hz2 hs5
 go_wp2_with (go_at_call 203; refine (sums_any _ _ _ _).mono ?_; rintro e w' ⟨rfl, rfl⟩; rw [HW5.out])
 have hzz := HZ.out
 refine wp_range_box2 123 (fun x : (Int × Int) × Int => #[.int .i64 x.1.1, .int .u64 x.1.2]) 7 8 (fun x => .int .u64 x.2) (gf := 208) (lb := #[.pointer (some ⟨w2.heap.size + 1, 0, none⟩)]) rfl (enters_of Tryz.func208 (by kernel_rfl) rfl)
  HS.out (by omega) (Below.refl _ _) (fun _ => rfl) (RI w.heap.size w2.heap.size last w) (RIb w.heap.size w2.heap.size last w) (ri_own w.heap.size w2.heap.size last w (Nat.le_refl _) _ (by omega)) (rib_own w.heap.size w2.heap.size last w (Nat.le_refl _) _ (by omega)) H0.out ?assign ?body ?fin
 case assign =>
  rintro lo pre x W K hI hz hK
  simp only [put2, List.zip_toArray, List.zip_cons_cons, List.zip_nil_right, List.size_toArray, List.foldl_toArray', List.foldl_cons, List.foldl_nil, List.setIfInBounds_toArray, List.set_cons_succ, List.set_cons_zero] at hK ⊢
  gi_wp2
  refine ⟨?_, ?_, ?_, hI.2.2.2⟩
  ·exact (((Below.refl _ W).alloc (Nat.le_refl _) _).block _ hI.1.lt).trans hI.1
  ·exact (((Below.refl _ W).alloc (Nat.le_refl _) _).block _ hI.2.1.lt).trans hI.2.1
  ·exact hI.2.2.1.alloc (by omega) _
 case body =>
  rintro lo pre x W Bx ⟨hI1, hI2, hI3, hI4⟩ hb1 hb2 hX hlt
  simp only [put2, List.zip_toArray, List.zip_cons_cons, List.zip_nil_right, List.size_toArray, List.foldl_toArray', List.foldl_cons, List.foldl_nil, List.setIfInBounds_toArray, List.set_cons_succ, List.set_cons_zero]
  have q0 := hI1.cell
  have q1 := hI1.frozen
  have q2 := hI2.cell
  obtain ⟨k0, k1⟩ := cl2 hX
  have HI : Hid (RI w.heap.size w2.heap.size last w pre W) := ⟨hI1, hI2, hI3, hI4⟩
  clear hI1 hI2 hI3 hI4 hX
  by_cases hgt : last < x.1.1
  ·gi_wp2_with fail
   exact ⟨KeepsFrom.refl _ _, rfl, pre, x, rfl, hgt, HI.out⟩
  ·gi_wp2_with fail
   obtain ⟨hI1, hI2, hI3, hI4⟩ := HI.out
   have hB : Below w.heap.size W (W.setCell ⟨w.heap.size + 1, 0, none⟩ (.int .u64 x.2)) := (Below.refl _ W |>.mono hI3.size).setCell (p := ⟨w.heap.size + 1, 0, none⟩) (by show _ ≤ _ + 1; omega) _
   refine ⟨(KeepsOthers.setCell W _ _).from _, hB, ?_, ?_, hI3.trans hB, ?_⟩
   ·rw [rkPre_snoc]
    exact hSk hI1 _
   ·exact (heap_set_other (p := ⟨w.heap.size + 1, 0, none⟩) (by show w.heap.size + 1 ≠ w2.heap.size; omega) _).trans hI2
   ·intro y hy
    rcases List.mem_append.1 hy with h | h
    ·exact hI4 y h
    ·obtain rfl : y = x := by simpa using h
     omega
 case fin =>
  rintro D W hD hI hKD
  obtain ⟨hv, hk⟩ : Boxed W (w.heap.size + 1) 43 (.int .u64 (hiRank f l v)) ∧ Below w.heap.size w W := by
   unfold hiRank
   rw [HLA.out]
   rcases hI with hI | ⟨pre, ⟨q, hq⟩, p, x, rfl, hx, hI⟩
   ·have h1 := rkGo_pre last (hsSums 0 l) 0 [] hI.2.2.2
    rw [List.append_nil] at h1
    rw [h1]
    exact ⟨hI.1, hI.2.2.1⟩
   ·rw [← hq, List.append_assoc, rkGo_pre last p 0 _ hI.2.2.2]
    show Boxed W (w.heap.size + 1) 43 (.int .u64 (if last < x.1.1 then rkPre 0 p else rkGo last x.2 q)) ∧ _
    rw [if_pos hx]
    exact ⟨hI.1, hI.2.2.1⟩
  have q0 := hv.cell
  go_wp2_with fail
  rw [Exit.noGoto_ret]
  exact marks_ret1 (v := .int .u64 (hiRank f l v)) hKD (by simp [results, Tryz.f195, go_sem]) ⟨rfl, bPutD hk (by omega) hKD⟩
end Go.Proofs.YtcbbenncdainfaaGreatDoor
namespace Go.Proofs.YtcbbenncdainfaaGreatDoor
open Go Go.RowKit Go.Shelf
def Bd.ask : Bd → Nat → Int
 | .num l, _ => l.length
 | .reg b r, _ => (hlCount b (hlStr r) : Nat)
 | .cnt c l, h => cmCount c l h
 | .bkt f l, h => hiRank f l h
def AskPost (v : Int) (w : World) (e : Ending) (w' : World) : Prop := e = .returned (.int .u64 v) ∧ Below w.heap.size w w'
theorem ask_num (l : List Int) (a : Option Addr) (len cap : Nat) (h : Int) (w : World) (hS : SlC encU 1 w.heap.size w a len cap l) (hr : exRight l = true) (hlen : l.length ≤ 1000) :
  Calls Tryz.prog 131 #[.agg #[.slice a len cap], .int .u64 h] w (AskPost l.length w) := by
 obtain ⟨W0, hW0, hXb, hB0, hs0⟩ := boxes1 w #[.slice a len cap] 144
 have c0 : W0.cell? ⟨w.heap.size, 0, none⟩ = some (.slice a len cap) := cCc hXb 0
 have HA := exCount_any l a len cap W0 ((hS.1.below hB0).mono hB0.size) (by have := hS.1.1; omega)
 rw [hr, if_pos rfl] at HA
 have HA := Lib.hid HA
 have HB0 := Lib.hid hB0
 clear hXb hB0 hS hr hlen
 go_enter Tryz.func131, Tryz.ntmps131
 go_wp2_with fail
 refine HA.out.mono ?_
 rintro e w1 ⟨rfl, hb1⟩
 go_wp2_with fail
 go_ret
 exact ⟨rfl, HB0.out.trans (hb1.mono HB0.out.size)⟩
theorem ask_reg (b : Nat) (r : List Nat) (h : Int) (w : World) (h1 : 3 ≤ b) (h2 : b ≤ 8) (hl : r.length = 2 ^ b) (hr : ∀ i, r.getD i 0 ≤ 65 - b) :
  Calls Tryz.prog 161 #[.agg #[.int .i64 b, .string (hlStr r)], .int .u64 h] w (AskPost (hlCount b (hlStr r) : Nat) w) := by
 obtain ⟨W0, hW0, hXb, hB0, hs0⟩ := boxes1 w #[.int .i64 b, .string (hlStr r)] 147
 obtain ⟨c0, c1⟩ := cl2 hXb
 have HA := Lib.hid (hCount_any b r W0 h1 h2 hl hr)
 have HB0 := Lib.hid hB0
 generalize hlCount b (hlStr r) = n at HA ⊢
 clear hXb hB0 h1 h2 hl hr
 go_enter Tryz.func161, Tryz.ntmps161
 go_wp2_with fail
 refine HA.out.mono ?_
 rintro e w1 ⟨rfl, hb1⟩
 go_wp2_with fail
 go_ret
 exact ⟨rfl, HB0.out.trans (hb1.mono HB0.out.size)⟩
theorem ask_cnt (c : Nat) (l : List Int) (a : Option Addr) (len cap : Nat) (h : Nat) (w : World) (hc : c = 4 ∨ c = 8 ∨ c = 16 ∨ c = 32) (hS : SlC encU 1 w.heap.size w a len cap l) (hl : l.length = c + c) (hlu : U64s l) (hh : h < 2 ^ 64) :
  Calls Tryz.prog 171 #[.agg #[.int .i64 2, .int .i64 c, .slice a len cap], .int .u64 h] w (AskPost (cmCount c l h) w) := by
 obtain ⟨W0, hW0, hXb, hB0, hs0⟩ := boxes1 w #[.int .i64 2, .int .i64 c, .slice a len cap] 148
 obtain ⟨c0, c1, c2⟩ := cl3 hXb
 have HA := Lib.hid (cCount_any c h l a len cap W0 (shape_any c hc) (by omega) (by omega) hh ((hS.1.below hB0).mono hB0.size) (by omega) hlu)
 have HB0 := Lib.hid hB0
 generalize cmCount c l h = n at HA ⊢
 clear hXb hB0 hS hl hlu hh hc
 go_enter Tryz.func171, Tryz.ntmps171
 go_wp2_with fail
 refine HA.out.mono ?_
 rintro e w1 ⟨rfl, hb1⟩
 go_wp2_with fail
 go_ret
 exact ⟨rfl, HB0.out.trans (hb1.mono HB0.out.size)⟩
theorem ask_bkt (f : Nat) (l : List (Int × Int)) (a : Option Addr) (len cap : Nat) (h : Nat) (w : World) (hf : f ≤ 3) (hS : SlC encB 2 w.heap.size w a len cap l) (hr : hiRight f l = true) (hbu : BinsU l) (hlen : l.length ≤ 1000) (hp : ∀ b ∈ l, I64 b.1) (hh : h < 2 ^ 64) :
  Calls Tryz.prog 190 #[.agg #[.int .i64 f, .slice a len cap], .int .u64 h] w (AskPost (hiRank f l h) w) := by
 obtain ⟨W0, hW0, hXb, hB0, hs0⟩ := boxes1 w #[.int .i64 f, .slice a len cap] 150
 obtain ⟨c0, c1⟩ := cl2 hXb
 have HA := Lib.hid (hRank_any f l h a len cap W0 hf ((hS.1.below hB0).mono hB0.size) hr hbu (by have := hS.1.1; omega) hp hh)
 have HB0 := Lib.hid hB0
 generalize hiRank f l h = n at HA ⊢
 clear hXb hB0 hS hr hbu hlen hp hh hf
 go_enter Tryz.func190, Tryz.ntmps190
 go_wp2_with fail
 refine HA.out.mono ?_
 rintro e w1 ⟨rfl, hb1⟩
 go_wp2_with fail
 go_ret
 exact ⟨rfl, HB0.out.trans (hb1.mono HB0.out.size)⟩
theorem m_ask_num (x : Value) (w : World) : (method 392 144 (.agg #[x]) "aviary/ladder.ask").run Tryz.prog w = .ok (131, .agg #[x]) w := by kernel_rfl
theorem m_ask_reg (x y : Value) (w : World) : (method 392 147 (.agg #[x, y]) "aviary/ladder.ask").run Tryz.prog w = .ok (161, .agg #[x, y]) w := by kernel_rfl
theorem m_ask_cnt (x y z : Value) (w : World) : (method 392 148 (.agg #[x, y, z]) "aviary/ladder.ask").run Tryz.prog w = .ok (171, .agg #[x, y, z]) w := by kernel_rfl
theorem m_ask_bkt (x y : Value) (w : World) : (method 392 150 (.agg #[x, y]) "aviary/ladder.ask").run Tryz.prog w = .ok (190, .agg #[x, y]) w := by kernel_rfl
theorem ask_at {w : World} {v : Value} {B : Bd} {kind level : Nat} (hb : BdAt w v B) (hok : B.Ok kind level) : ∃ T rv f, v = .iface T rv ∧ (∀ W, (method 392 T rv "aviary/ladder.ask").run Tryz.prog W = .ok (f, rv) W) ∧ (∀ args W, (callFunc f args).run Tryz.prog W = .ok (.enter f args) W) ∧
  ∀ W (h : Nat), BdAt W v B → h < 2 ^ 64 → Calls Tryz.prog f #[rv, .int .u64 h] W (AskPost (B.ask h) W) := by
 cases B with
 | num l =>
  obtain ⟨a, len, cap, rfl, -⟩ := hb
  obtain ⟨-, -, o3, o4, -⟩ := hok
  refine ⟨_, _, _, rfl, fun W => m_ask_num _ W, enters_of Tryz.func131 (by kernel_rfl) rfl, fun W h hW hh => ?_⟩
  obtain ⟨a', len', cap', e, hS⟩ := hW
  cases e
  exact ask_num l a len cap h W hS (up_right l o3 o4) (by omega)
 | reg b r =>
  obtain rfl : v = _ := hb
  obtain ⟨-, o2, o3, o4, o5, o6⟩ := hok
  refine ⟨_, _, _, rfl, fun W => m_ask_reg _ _ W, enters_of Tryz.func161 (by kernel_rfl) rfl, fun W h hW hh => ?_⟩
  exact ask_reg b r h W (by omega) (by omega) o5 o6
 | cnt c l =>
  obtain ⟨a, len, cap, rfl, -⟩ := hb
  obtain ⟨-, o2, o3, o4, o5⟩ := hok
  refine ⟨_, _, _, rfl, fun W => m_ask_cnt _ _ _ W, enters_of Tryz.func171 (by kernel_rfl) rfl, fun W h hW hh => ?_⟩
  obtain ⟨a', len', cap', e, hS⟩ := hW
  cases e
  exact ask_cnt c l a len cap h W (cols_of o3 o2) hS o4 o5 hh
 | bkt f l =>
  obtain ⟨a, len, cap, rfl, -⟩ := hb
  obtain ⟨-, o2, o3, o4, o5, o6, o7⟩ := hok
  refine ⟨_, _, _, rfl, fun W => m_ask_bkt _ _ W, enters_of Tryz.func190 (by kernel_rfl) rfl, fun W h hW hh => ?_⟩
  obtain ⟨a', len', cap', e, hS⟩ := hW
  cases e
  have hf : f ≤ 3 := by omega
  exact ask_bkt f l a len cap h W hf hS (hiRight_of f l hf o4 o5 o7) o6 (by have := bins_len f l hf o4 o7; omega) (bins_i64 f l hf o7) hh
set_option maxRecDepth 100000 in
set_option maxHeartbeats 2000000 in
theorem Ask_any {k L : Nat} {h : Nat} {B : Bd} {v : Value} {w : World} (hok : B.Ok k L) (hh : h < 2 ^ 64) (hv : SkB w v k L B) :
  Calls Tryz.prog 25 #[v, .int .u64 h] w (AskPost (B.ask h) w) := by
 obtain ⟨y, s, hy, rfl, hA⟩ := hv
 obtain ⟨W0, hW0, hXp, hB0, hs0⟩ := boxes1 w #[.int .i64 y.kind, .int .i64 y.level, .slice s.ea s.el s.ec, .int .i64 y.hb, .string y.hr, .int .i64 y.cr, .int .i64 y.cc, .slice s.ca s.cl s.cc, .int .i64 y.gf, .slice s.ga s.gl s.gc] 33
 have HO := Lib.hid (open_sk_any (w := W0) hok ⟨y, s, hy, rfl, (hA.go hB0)⟩)
 have HT : Hid (∀ b W, BdAt W b B → ∃ T rv f, b = .iface T rv ∧ (∀ W, (method 392 T rv "aviary/ladder.ask").run Tryz.prog W = .ok (f, rv) W) ∧ (∀ args W, (callFunc f args).run Tryz.prog W = .ok (.enter f args) W) ∧
  ∀ W (h : Nat), BdAt W b B → h < 2 ^ 64 → Calls Tryz.prog f #[rv, .int .u64 h] W (AskPost (B.ask h) W)) := fun b W hb => ask_at hb hok
 obtain ⟨c0, c1, c2, c3, c4, c5, c6, c7, c8, c9⟩ := cl10 hXp
 have HB0 := Lib.hid hB0
 have HH := Lib.hid hh
 clear hXp hB0 hA hy hok hh
 go_enter Tryz.func25, Tryz.ntmps25
 go_wp2_with fail
 refine HO.out.mono ?_
 rintro e w1 ⟨b, rfl, hb, hb1⟩
 obtain ⟨T, rv, f, rfl, hm, he, hC⟩ := HT.out b w1 hb
 obtain ⟨W2, hW2, hX2, hB2, hs2⟩ := boxes1 w1 #[.iface T rv, .int .i64 k, .int .i64 L] 60
 obtain ⟨d0, d1, d2⟩ := cl3 hX2
 have HC2 := Lib.hid (hC W2 h (hb.go hB2) HH.out)
 have HB : Hid (Below w.heap.size w W2) := HB0.out.trans ((hb1.trans (hB2.mono hb1.size)).mono HB0.out.size)
 clear hX2 hB2 hb1 hb hC
 go_wp2_with fail
 refine HC2.out.mono ?_
 rintro e w3 ⟨rfl, hb3⟩
 go_wp2_with fail
 go_ret
 exact ⟨rfl, HB.out.trans (hb3.mono HB.out.size)⟩
end Go.Proofs.YtcbbenncdainfaaGreatDoor
namespace Go.Proofs.YtcbbenncdainfaaGreatDoor
open Go Go.RowKit Go.Shelf
def bdOf (x : Sk) : Bd := if x.kind == 1 then (if x.level == 0 then .num x.e else .reg x.hb.toNat (strRegs x.hr)) else if x.kind == 2 then .cnt x.cc.toNat x.cl else .bkt x.gf.toNat x.gl
theorem regs_str (r : List Nat) (h : ∀ i, r.getD i 0 ≤ 255) : strRegs (hlStr r) = r := by
 unfold strRegs hlStr
 rw [strOfNums_data, List.map_map, List.map_map]
 conv => rhs; rw [← List.map_id r]
 refine List.map_congr_left (fun x hx => ?_)
 obtain ⟨i, hi⟩ := List.mem_iff_getElem?.1 hx
 have h1 := h i
 rw [List.getD_eq_getElem?_getD, hi, Option.getD_some] at h1
 show (UInt8.ofNat ((x : Int)).toNat).toNat = x
 rw [Int.toNat_natCast]
 simp
 omega
theorem bdOf_sk {k L : Nat} {B : Bd} (h : B.Ok k L) : bdOf (skOf k L B) = B := by
 cases B with
 | num l => obtain ⟨rfl, rfl, -⟩ := h; rfl
 | reg b r =>
  obtain ⟨rfl, h1, -, h3, -, h5⟩ := h
  have h0 : (((L : Nat) : Int) == 0) = false := by simp; omega
  show (if (((1 : Nat) : Int) == 1) then (if ((L : Int) == 0) then _ else Bd.reg ((b : Int)).toNat (strRegs (hlStr r))) else _) = _
  rw [h0, Int.toNat_natCast, regs_str r (fun i => by have := h5 i; omega)]
  rfl
 | cnt c l => obtain ⟨rfl, -⟩ := h; rfl
 | bkt f l => obtain ⟨rfl, -⟩ := h; rfl
end Go.Proofs.YtcbbenncdainfaaGreatDoor
namespace Go.Proofs.YtcbbenncdainfaaGreatDoor
open Go Go.RowKit Go.Shelf
structure Sk.lim (x : Sk) : Prop where
 e : U64s x.e
 c : U64s x.cl
 g : Bins x.gl
 cc : I64 x.cc
 fit : x.fit
 el : x.e.length < 2147483648
 cl : x.cl.length < 2147483648
 gl : x.gl.length < 2147483648
theorem Sk.lim.short {x : Sk} (h : x.lim) {s : SS} {n : Nat} {w : World} (hs : s.At n w x) : s.Short := ⟨by rw [hs.e.1.1]; exact h.el, by rw [hs.c.1.1]; exact h.cl, by rw [hs.g.1.1]; exact h.gl⟩
theorem Sk.lim.bd {x : Sk} (h : x.lim) (ok : skOk x = true) : ∃ k L B, x = skOf k L B ∧ Bd.Ok k L B := sk_bd x ok h.e h.c (fun b hb => (h.g b hb).2)
def zsk : Sk := skNum 0 0 []
def SkP (r : Sk × Int) (w : World) (e : Ending) (w' : World) : Prop := ∃ s : SS, e = .returned (.tuple #[.agg #[.int .i64 r.1.kind, .int .i64 r.1.level, .slice s.ea s.el s.ec, .int .i64 r.1.hb, .string r.1.hr, .int .i64 r.1.cr, .int .i64 r.1.cc, .slice s.ca s.cl s.cc, .int .i64 r.1.gf, .slice s.ga s.gl s.gc], .int .i64 r.2]) ∧ s.At w'.heap.size w' r.1 ∧ Below w.heap.size w w'
theorem SkP.good {k L : Nat} {B : Bd} {w w' : World} {e : Ending} (h : ∃ x, e = .returned (.tuple #[x, .int .i64 0]) ∧ SkB w' x k L B ∧ Below w.heap.size w w') : SkP (skOf k L B, 0) w e w' := by
 obtain ⟨x, he, ⟨y, s, rfl, rfl, hA⟩, hb⟩ := h
 exact ⟨s, he, hA, hb⟩
theorem SkP.zero {E : Int} {w w' : World} {e : Ending} (h : e = .returned (.tuple #[.agg #[.int .i64 0, .int .i64 0, .slice none 0 0, .int .i64 0, .string ⟨#[]⟩, .int .i64 0, .int .i64 0, .slice none 0 0, .int .i64 0, .slice none 0 0], .int .i64 E]) ∧ Below w.heap.size w w') : SkP (zsk, E) w e w' := ⟨⟨none, 0, 0, none, 0, 0, none, 0, 0⟩, h.1, ⟨SlC.nil, SlC.nil, SlC.nil⟩, h.2⟩
def addS (x : Sk) (i : Nat × Int) : Sk × Int := if skOk x then (skOf x.kind.toNat (wkAdd (x.level.toNat, bdOf x) i).1 (wkAdd (x.level.toNat, bdOf x) i).2, 0) else (zsk, 100)
def newS (k : Int) : Sk × Int := if k = 1 ∨ k = 2 ∨ k = 3 then (skOf k.toNat 0 (bdNew k.toNat), 0) else (zsk, 101)
def askS (x : Sk) (h : Nat) : Int := if skOk x then (bdOf x).ask h else 0
theorem addS_sk {k L : Nat} {B : Bd} (h : B.Ok k L) (i : Nat × Int) : addS (skOf k L B) i = (skOf k (wkAdd (L, B) i).1 (wkAdd (L, B) i).2, 0) := by
 unfold addS
 rw [if_pos (skOf_ok h), bdOf_sk h, (skOf_kind k L B).1, (skOf_kind k L B).2, Int.toNat_natCast, Int.toNat_natCast]
theorem askS_sk {k L : Nat} {B : Bd} (h : B.Ok k L) (n : Nat) : askS (skOf k L B) n = B.ask n := by unfold askS; rw [if_pos (skOf_ok h), bdOf_sk h]
section
variable {x : Sk} {s : SS} {w : World}
theorem ladder_Add_S (i : Nat) (n : Int) (hx : s.At w.heap.size w x) (hl : x.lim) (hi : i < 2 ^ 64) (hn : U64 n) (hg : GT w) :
  Calls Tryz.prog 15 #[.agg #[.int .i64 x.kind, .int .i64 x.level, .slice s.ea s.el s.ec, .int .i64 x.hb, .string x.hr, .int .i64 x.cr, .int .i64 x.cc, .slice s.ca s.cl s.cc, .int .i64 x.gf, .slice s.ga s.gl s.gc], .agg #[.int .u64 i, .int .u64 n]] w (SkP (addS x (i, n)) w) := by
 cases ok : skOk x with
 | false =>
  unfold addS
  rw [ok]
  exact (Add_no x s i n w hx (hl.short hx) hl.fit ok hg).mono fun e w' h => .zero h
 | true =>
  obtain ⟨k, L, B, rfl, hB⟩ := hl.bd ok
  rw [addS_sk hB]
  exact (Add_any hB hi hn hg ⟨_, s, rfl, rfl, hx⟩).mono fun e w' h => .good h
theorem ladder_New_S (k : Int) (w : World) : Calls Tryz.prog 17 #[.int .i64 k] w (SkP (newS k) w) := by
 unfold newS
 by_cases hk : k = 1 ∨ k = 2 ∨ k = 3
 ·rw [if_pos hk]
  obtain ⟨n, rfl⟩ : ∃ n : Nat, k = n := ⟨k.toNat, by omega⟩
  exact (New_any n (by omega) w).mono fun e w' h => by rw [Int.toNat_natCast]; exact .good h
 ·rw [if_neg hk]
  exact (New_no k (by rw [beq_eq_false_iff_ne]; omega) (by rw [beq_eq_false_iff_ne]; omega) (by rw [beq_eq_false_iff_ne]; omega) w).mono fun e w' h => .zero h
theorem ladder_Ask_S (h : Nat) (hx : s.At w.heap.size w x) (hl : x.lim) (hh : h < 2 ^ 64) :
  Calls Tryz.prog 25 #[.agg #[.int .i64 x.kind, .int .i64 x.level, .slice s.ea s.el s.ec, .int .i64 x.hb, .string x.hr, .int .i64 x.cr, .int .i64 x.cc, .slice s.ca s.cl s.cc, .int .i64 x.gf, .slice s.ga s.gl s.gc], .int .u64 h] w fun e w' => e = .returned (.int .u64 (askS x h)) ∧ Below w.heap.size w w' := by
 cases ok : skOk x with
 | false =>
  unfold askS
  rw [ok]
  exact Ask_no x s h w hx (hl.short hx) hl.fit ok
 | true =>
  obtain ⟨k, L, B, rfl, hB⟩ := hl.bd ok
  rw [askS_sk hB]
  exact (Ask_any hB hh ⟨_, s, rfl, rfl, hx⟩).mono fun e w' h => h
end
end Go.Proofs.YtcbbenncdainfaaGreatDoor
namespace Go.Proofs.YtcbbenncdainfaaGreatDoor
open Go Go.RowKit Go.Shelf
theorem lim_cut {x : Sk} (h : x.arg) (hc : I64 x.cc) : x.cut.lim where
 e := fun n hn => h.e n (List.mem_of_mem_take hn)
 c := fun n hn => h.c n (List.mem_of_mem_take hn)
 g := fun b hb => h.g b (List.mem_of_mem_take hb)
 cc := hc
 fit := fun b hb => (h.g b (List.mem_of_mem_take hb)).1.2
 el := by show (x.e.take 70).length < _; rw [List.length_take]; omega
 cl := by show (x.cl.take 200).length < _; rw [List.length_take]; omega
 gl := by show (x.gl.take 300).length < _; rw [List.length_take]; omega
end Go.Proofs.YtcbbenncdainfaaGreatDoor

/- series.Merged. -/
import Derived.Test.YthbhmnakmhambaaGreatDoorZSM
namespace Go.Proofs.YthbhmnakmhambaaGreatDoor
open Go Go.RowKit Go.Shelf
attribute [-go_sem] Builtin.append_
set_option maxRecDepth 100000 in
set_option maxHeartbeats 8000000 in
theorem Merged_any (s : StrK) (kind : Int) (l : List (Ser × SerP)) (a : Option Addr) (len cap : Nat) (w : World) (hT : Tab w.heap.size w a len cap l) (hF : TabFit l) (hQ : tabRight (l.map (·.1)) = true → ∀ x ∈ l.map (·.1), SkGood x.sk) (hG : GW w) (hg : GT w) :
  Calls Tryz.prog 19 #[.slice a len cap, .string s.1, .int .i64 kind] w (SumPost kind (meantE (l.map (·.1)) s) (pickAt (l.map (·.1)) kind (meantR (l.map (·.1)) s)) w) := by
 have hlen := hT.row.1.1
 subst hlen
 obtain ⟨W0, hW0, hXr, hB0, hs0⟩ := boxes1 w #[.int .i64 0, .int .i64 0, .slice none 0 0, .int .i64 0, .string ⟨#[]⟩, .int .i64 0, .int .i64 0, .slice none 0 0, .int .i64 0, .slice none 0 0] 39
 have hM := Meant_any s l a l.length cap W0 (hT.go hB0) hF (hG.below hB0)
 unfold MeantPost at hM
 have HT := Lib.hid (hT.go hB0)
 have HGT : Hid (GT W0) := hg.go hB0
 have HXr := Lib.hid hXr
 have HB0 := Lib.hid hB0
 have hpl : Hid (∀ i ∈ meantR (l.map (·.1)) s, i < l.length) := by
  rw [Hid, meantR]
  split
  ·intro i hi
   have := ((meant_in s (l.map (·.1)) 0).1 i hi).2
   rw [List.length_map] at this
   omega
  ·intro i hi; cases hi
 have hQE : meantE (l.map (·.1)) s = 0 → ∀ x ∈ l.map (·.1), SkGood x.sk := fun h => by
  refine hQ ?_
  unfold meantE at h
  split at h
  ·assumption
  ·cases h
 have HQE := Lib.hid hQE
 generalize meantR (l.map (·.1)) s = pl at hM hpl ⊢
 generalize meantE (l.map (·.1)) s = er at hM HQE ⊢
 have HL : Hid (∀ (i : Nat) (x : Ser) (p : SerP), l[i]? = some (x, p) → (l.map (·.1))[i]? = some x) := fun i x p h => by rw [List.getElem?_map, h]; rfl
 generalize l.map (·.1) = L at HQE HL ⊢
 clear hT hF hQ hG hg hXr hB0 hQE
 go_enter Tryz.func19, Tryz.ntmps19
 go_wp2_with fail
 refine hM.mono ?_
 rintro e w1 ⟨pa, pc, rfl, hp, hb1⟩
 have hX1 := known hb1 (Nat.le_refl _) HXr.out
 have HX1 := Lib.hid hX1
 have HB1 : Hid (Below w.heap.size w w1) := HB0.out.trans (hb1.mono HB0.out.size)
 obtain ⟨r0, r1, r2, r3, r4, r5, r6, r7, r8, r9⟩ := cl10 hX1
 obtain ⟨g0, g1, g2, g3, g4, g5, g6, g7, g8, g9⟩ := cz10 hX1
 have d0 : w1.setCell ⟨w.heap.size, 0, none⟩ (.int .i64 0) = w1 := set_same hX1 rfl
 have d1 : w1.setCell ⟨w.heap.size, 1, none⟩ (.int .i64 0) = w1 := set_same hX1 rfl
 have d2 : w1.setCell ⟨w.heap.size, 2, none⟩ (.slice none 0 0) = w1 := set_same hX1 rfl
 have d3 : w1.setCell ⟨w.heap.size, 3, none⟩ (.int .i64 0) = w1 := set_same hX1 rfl
 have d4 : w1.setCell ⟨w.heap.size, 4, none⟩ (.string ⟨#[]⟩) = w1 := set_same hX1 rfl
 have d5 : w1.setCell ⟨w.heap.size, 5, none⟩ (.int .i64 0) = w1 := set_same hX1 rfl
 have d6 : w1.setCell ⟨w.heap.size, 6, none⟩ (.int .i64 0) = w1 := set_same hX1 rfl
 have d7 : w1.setCell ⟨w.heap.size, 7, none⟩ (.slice none 0 0) = w1 := set_same hX1 rfl
 have d8 : w1.setCell ⟨w.heap.size, 8, none⟩ (.int .i64 0) = w1 := set_same hX1 rfl
 have d9 : w1.setCell ⟨w.heap.size, 9, none⟩ (.slice none 0 0) = w1 := set_same hX1 rfl
 have Hb1 := Lib.hid hb1
 clear hX1 hb1 hM
 by_cases he : er = 0
 case neg =>
  have t1 : (er != 0) = true := by rw [bne_iff_ne]; exact he
  have HS : Hid (sumE er kind = er) := by unfold Hid sumE; rw [if_neg (by simpa using he)]
  have HE := Lib.hid he
  clear he
  go_wp2_with fail
  refine bodyPost_ret (v := .tuple #[.agg #[.int .i64 0, .int .i64 0, .slice none 0 0, .int .i64 0, .string ⟨#[]⟩, .int .i64 0, .int .i64 0, .slice none 0 0, .int .i64 0, .slice none 0 0], .int .i64 er]) (by simp [results, Tryz.f19, go_sem, r0, r1, r2, r3, r4, r5, r6, r7, r8, r9]) rfl ⟨skNum 0 0 [], SkNil, ?_, ?_, skNil_at _, HB1.out⟩
  ·rw [sumSk_no (by rw [HS.out]; exact HE.out)]
  ·rw [HS.out]; rfl
 subst he
 by_cases hk : kind = 1 ∨ kind = 2 ∨ kind = 3
 case neg =>
  have HS : Hid (sumE 0 kind = 101) := by unfold Hid sumE; rw [if_pos (by rfl : ((0 : Int) == 0) = true), if_neg (by simpa [not_or, and_assoc] using hk)]
  have HN := Lib.hid (New_no kind (by rw [beq_eq_false_iff_ne]; exact fun h => hk (.inl h)) (by rw [beq_eq_false_iff_ne]; exact fun h => hk (.inr (.inl h))) (by rw [beq_eq_false_iff_ne]; exact fun h => hk (.inr (.inr h))) w1)
  clear hk
  go_wp2_with fail
  refine HN.out.mono ?_
  rintro e w2 ⟨rfl, hb2⟩
  have hX2 := known hb2 (Nat.le_refl _) HX1.out
  obtain ⟨W3, hW3, hX3, hB3, hs3⟩ := boxes1 w2 #[.int .i64 0, .int .i64 0, .slice none 0 0, .int .i64 0, .string ⟨#[]⟩, .int .i64 0, .int .i64 0, .slice none 0 0, .int .i64 0, .slice none 0 0] 39
  have hX4 := known hB3 (Nat.le_refl _) hX2
  obtain ⟨q0, q1, q2, q3, q4, q5, q6, q7, q8, q9⟩ := cl10 hX4
  obtain ⟨f0, f1, f2, f3, f4, f5, f6, f7, f8, f9⟩ := cz10 hX4
  have q10 : W3.setCell ⟨w.heap.size, 0, none⟩ (.int .i64 0) = W3 := set_same hX4 rfl
  have q11 : W3.setCell ⟨w.heap.size, 1, none⟩ (.int .i64 0) = W3 := set_same hX4 rfl
  have q12 : W3.setCell ⟨w.heap.size, 2, none⟩ (.slice none 0 0) = W3 := set_same hX4 rfl
  have q13 : W3.setCell ⟨w.heap.size, 3, none⟩ (.int .i64 0) = W3 := set_same hX4 rfl
  have q14 : W3.setCell ⟨w.heap.size, 4, none⟩ (.string ⟨#[]⟩) = W3 := set_same hX4 rfl
  have q15 : W3.setCell ⟨w.heap.size, 5, none⟩ (.int .i64 0) = W3 := set_same hX4 rfl
  have q16 : W3.setCell ⟨w.heap.size, 6, none⟩ (.int .i64 0) = W3 := set_same hX4 rfl
  have q17 : W3.setCell ⟨w.heap.size, 7, none⟩ (.slice none 0 0) = W3 := set_same hX4 rfl
  have q18 : W3.setCell ⟨w.heap.size, 8, none⟩ (.int .i64 0) = W3 := set_same hX4 rfl
  have q19 : W3.setCell ⟨w.heap.size, 9, none⟩ (.slice none 0 0) = W3 := set_same hX4 rfl
  obtain ⟨z0, z1, z2, z3, z4, z5, z6, z7, z8, z9⟩ := cl10 hX3
  obtain ⟨y0, y1, y2, y3, y4, y5, y6, y7, y8, y9⟩ := cz10 hX3
  have z10 : W3.setCell ⟨w2.heap.size, 0, none⟩ (.int .i64 0) = W3 := set_same hX3 rfl
  have z11 : W3.setCell ⟨w2.heap.size, 1, none⟩ (.int .i64 0) = W3 := set_same hX3 rfl
  have z12 : W3.setCell ⟨w2.heap.size, 2, none⟩ (.slice none 0 0) = W3 := set_same hX3 rfl
  have z13 : W3.setCell ⟨w2.heap.size, 3, none⟩ (.int .i64 0) = W3 := set_same hX3 rfl
  have z14 : W3.setCell ⟨w2.heap.size, 4, none⟩ (.string ⟨#[]⟩) = W3 := set_same hX3 rfl
  have z15 : W3.setCell ⟨w2.heap.size, 5, none⟩ (.int .i64 0) = W3 := set_same hX3 rfl
  have z16 : W3.setCell ⟨w2.heap.size, 6, none⟩ (.int .i64 0) = W3 := set_same hX3 rfl
  have z17 : W3.setCell ⟨w2.heap.size, 7, none⟩ (.slice none 0 0) = W3 := set_same hX3 rfl
  have z18 : W3.setCell ⟨w2.heap.size, 8, none⟩ (.int .i64 0) = W3 := set_same hX3 rfl
  have z19 : W3.setCell ⟨w2.heap.size, 9, none⟩ (.slice none 0 0) = W3 := set_same hX3 rfl
  have HB3 : Hid (Below w.heap.size w W3) := HB1.out.trans ((hb2.trans (hB3.mono hb2.size)).mono HB1.out.size)
  clear hX2 hX3 hX4 hb2 hB3
  go_wp2_with fail
  refine bodyPost_ret (v := .tuple #[.agg #[.int .i64 0, .int .i64 0, .slice none 0 0, .int .i64 0, .string ⟨#[]⟩, .int .i64 0, .int .i64 0, .slice none 0 0, .int .i64 0, .slice none 0 0], .int .i64 101]) (by simp [results, Tryz.f19, go_sem, q0, q1, q2, q3, q4, q5, q6, q7, q8, q9]) rfl ⟨skNum 0 0 [], SkNil, ?_, ?_, skNil_at _, HB3.out⟩
  ·rw [sumSk_no (by rw [HS.out]; decide)]
  ·rw [HS.out]; rfl
 obtain ⟨K, rfl, hK⟩ : ∃ K : Nat, kind = (K : Int) ∧ (K = 1 ∨ K = 2 ∨ K = 3) := ⟨kind.toNat, by omega, by omega⟩
 have HS := Lib.hid (sumSk_ok (S := pickAt L K pl) hK)
 have HGd := Lib.hid (HQE.out rfl)
 have HN := Lib.hid (New_any K hK w1)
 have HK := Lib.hid hK
 clear hk hK HQE
 go_wp2_with fail
 refine HN.out.mono ?_
 rintro e w2 ⟨v2, rfl, ⟨y2, s2, hy2, rfl, hA2⟩, hb2⟩
 obtain ⟨W3, hW3, hX3, hB3, hs3⟩ := boxes1 w2 #[.int .i64 y2.kind, .int .i64 y2.level, .slice s2.ea s2.el s2.ec, .int .i64 y2.hb, .string y2.hr, .int .i64 y2.cr, .int .i64 y2.cc, .slice s2.ca s2.cl s2.cc, .int .i64 y2.gf, .slice s2.ga s2.gl s2.gc] 39
 have hb13 := hb2.trans (hB3.mono hb2.size)
 have HM0 : Hid (MI K [] w w.heap.size w2.heap.size W3) := ⟨⟨y2, s2, hy2, hX3, hA2.go hB3⟩, known hb13 (Nat.le_refl _) HX1.out, HB1.out.trans (hb13.mono HB1.out.size)⟩
 have HP : Hid (SlC encP 1 w1.heap.size w1 pa pl.length pc pl) := hp
 have HBP := Lib.hid hb13
 have hpm : pl.length ≤ maxLen := Nat.le_trans hp.2.1 hp.2.2.1
 unfold maxLen at hpm
 have HGT3 : Hid (GT w1) := HGT.out.go Hb1.out
 have HT3 : Hid (Tab w1.heap.size w1 a l.length cap l) := HT.out.go Hb1.out
 obtain ⟨b, hbb⟩ : ∃ b, w2.heap.size = b := ⟨_, rfl⟩
 have hw1 : w1.heap.size ≤ b := by rw [← hbb]; exact hb2.size
 have hwb : w.heap.size < b := by have := HB1.out.size; have := (Array.getElem?_eq_some_iff.1 HX1.out).1; omega
 rw [hbb] at HM0
 clear hb2 hX3 hB3 hb13 hp hy2 hA2
 go_wp2_with fail
 clear hbb
 go_loopw [9, 34] (fun e i wr => ∃ m : Nat, m ≤ pl.length ∧ e = .int .i64 0 ∧ i = .int .i64 m ∧ MI K (pickAt L K (pl.take m)) w w.heap.size b wr ∧ Below w1.heap.size w1 wr) (fun _ i _ => pl.length - (intOf i).toNat)
 case atStart => exact ⟨0, Nat.zero_le _, rfl, rfl, HM0.out, HBP.out⟩
 case round =>
  obtain ⟨m, hm, rfl, rfl, hMI, hB1r⟩ := hrel
  by_cases hlt : m < pl.length
  ·obtain ⟨i, hi⟩ : ∃ i, pl[m]? = some i := ⟨_, List.getElem?_eq_getElem hlt⟩
   have hil := hpl.out i (List.mem_of_getElem? hi)
   obtain ⟨⟨x, p⟩, hx⟩ : ∃ e, l[i]? = some e := ⟨_, List.getElem?_eq_getElem hil⟩
   obtain ⟨pb, po, rfl, hpb, hpc⟩ := HP.out.1.2 m i hi
   obtain ⟨eb, eo, rfl, heb, hec⟩ := HT3.out.row.1.2 i (x, p) hx
   have c0 : wr.cell? ⟨pb, po + m, none⟩ = some (.int .i64 (i : Int)) := by
    have h1 := hpc 0 (by omega)
    simp only [Nat.mul_one, Nat.add_zero] at h1
    exact (hB1r.cell (p := ⟨pb, po + m, none⟩) hpb).trans h1
   have n0 : w1.cell? ⟨eb, eo + i * 12, none⟩ = some (.slice p.la p.ll p.lc) := hec 0 (by omega)
   have n1 : w1.cell? ⟨eb, eo + i * 12 + 1, none⟩ = some (.int .i64 x.sk.kind) := hec 1 (by omega)
   have n2 : w1.cell? ⟨eb, eo + i * 12 + 2, none⟩ = some (.int .i64 x.sk.level) := hec 2 (by omega)
   have n3 : w1.cell? ⟨eb, eo + i * 12 + 3, none⟩ = some (.slice p.ss.ea p.ss.el p.ss.ec) := hec 3 (by omega)
   have n4 : w1.cell? ⟨eb, eo + i * 12 + 4, none⟩ = some (.int .i64 x.sk.hb) := hec 4 (by omega)
   have n5 : w1.cell? ⟨eb, eo + i * 12 + 5, none⟩ = some (.string x.sk.hr) := hec 5 (by omega)
   have n6 : w1.cell? ⟨eb, eo + i * 12 + 6, none⟩ = some (.int .i64 x.sk.cr) := hec 6 (by omega)
   have n7 : w1.cell? ⟨eb, eo + i * 12 + 7, none⟩ = some (.int .i64 x.sk.cc) := hec 7 (by omega)
   have n8 : w1.cell? ⟨eb, eo + i * 12 + 8, none⟩ = some (.slice p.ss.ca p.ss.cl p.ss.cc) := hec 8 (by omega)
   have n9 : w1.cell? ⟨eb, eo + i * 12 + 9, none⟩ = some (.int .i64 x.sk.gf) := hec 9 (by omega)
   have n10 : w1.cell? ⟨eb, eo + i * 12 + 10, none⟩ = some (.slice p.ss.ga p.ss.gl p.ss.gc) := hec 10 (by omega)
   have n11 : w1.cell? ⟨eb, eo + i * 12 + 11, none⟩ = some (.int .u64 x.seen) := hec 11 (by omega)
   have HLx := HL.out i x p hx
   have hsnoc : pickAt L K (pl.take (m + 1)) = pickAt L K (pl.take m) ++ pickOne K x := by rw [take_snoc' hi, pickAt_app, pickAt_at HLx]
   have HSN := Lib.hid hsnoc
   have HGx := Lib.hid (HGd.out x (List.mem_of_getElem? HLx))
   have HPx : Hid (p.At w1.heap.size w1 x) := HT3.out.at_ _ (List.mem_of_getElem? hx)
   have i0 : (0 : Int) ≤ (m : Int) := by omega
   have i1 : (m : Int) < (pl.length : Int) := by omega
   have j0 : (0 : Int) ≤ (i : Int) := by omega
   have j1 : (i : Int) < (l.length : Int) := by omega
   have k1 := (hB1r.cell (p := ⟨eb, eo + i * 12 + 1, none⟩) heb).trans n1
   have HMI := Lib.hid hMI
   have HB1r := Lib.hid hB1r
   by_cases hkx : x.sk.kind = (K : Int)
   case neg =>
    have t1 : (x.sk.kind != (K : Int)) = true := by rw [bne_iff_ne]; exact hkx
    have HS2 : Hid (pickAt L K (pl.take (m + 1)) = pickAt L K (pl.take m)) := by
     rw [Hid, HSN.out]
     unfold pickOne
     rw [if_neg (by simpa using hkx), List.append_nil]
    clear hkx hsnoc hpc hec hi hx hMI hB1r HLx n1 n2 n3 n4 n5 n6 n7 n8 n9 n10 n11 n0
    go_wp2_with fail
    all_goals go_roundw
    case rel => exact ⟨m + 1, by omega, rfl, by go_num, by rw [HS2.out]; exact HMI.out, HB1r.out⟩
    case measure => simp [intOf]; omega
   have t1 : (x.sk.kind != (K : Int)) = false := by simp [hkx]
   obtain ⟨⟨y, sy, hy, hXy, hAy⟩, hRy, hBy⟩ := hMI
   have HMg : Hid (Calls Tryz.prog 27 #[.agg #[.int .i64 y.kind, .int .i64 y.level, .slice sy.ea sy.el sy.ec, .int .i64 y.hb, .string y.hr, .int .i64 y.cr, .int .i64 y.cc, .slice sy.ca sy.cl sy.cc, .int .i64 y.gf, .slice sy.ga sy.gl sy.gc], .agg #[.int .i64 x.sk.kind, .int .i64 x.sk.level, .slice p.ss.ea p.ss.el p.ss.ec, .int .i64 x.sk.hb, .string x.sk.hr, .int .i64 x.sk.cr, .int .i64 x.sk.cc, .slice p.ss.ca p.ss.cl p.ss.cc, .int .i64 x.sk.gf, .slice p.ss.ga p.ss.gl p.ss.gc]] wr.drew fun e w' => ∃ (y : Sk) (s : SS), e = .returned (.tuple #[.agg #[.int .i64 y.kind, .int .i64 y.level, .slice s.ea s.el s.ec, .int .i64 y.hb, .string y.hr, .int .i64 y.cr, .int .i64 y.cc, .slice s.ca s.cl s.cc, .int .i64 y.gf, .slice s.ga s.gl s.gc], .int .i64 0]) ∧ y = skOf K (wkAll K (pickAt L K (pl.take (m + 1)))).1 (wkAll K (pickAt L K (pl.take (m + 1)))).2 ∧ s.At w'.heap.size w' y ∧ Below wr.drew.heap.size wr.drew w') := by
    rw [HSN.out]
    have hbd : Below wr.heap.size wr wr.drew := (Below.refl _ _).drew
    exact merge_step HK.out (pickAt_ok HGd.out _) HGx.out hkx ⟨y, sy, hy, rfl, hAy.go hbd⟩ (HPx.out.go (hB1r.trans (hbd.mono hB1r.size))).s (HGT3.out.go (hB1r.trans (hbd.mono hB1r.size)))
   have k2 := (hB1r.cell (p := ⟨eb, eo + i * 12 + 2, none⟩) heb).trans n2
   have k3 := (hB1r.cell (p := ⟨eb, eo + i * 12 + 3, none⟩) heb).trans n3
   have k4 := (hB1r.cell (p := ⟨eb, eo + i * 12 + 4, none⟩) heb).trans n4
   have k5 := (hB1r.cell (p := ⟨eb, eo + i * 12 + 5, none⟩) heb).trans n5
   have k6 := (hB1r.cell (p := ⟨eb, eo + i * 12 + 6, none⟩) heb).trans n6
   have k7 := (hB1r.cell (p := ⟨eb, eo + i * 12 + 7, none⟩) heb).trans n7
   have k8 := (hB1r.cell (p := ⟨eb, eo + i * 12 + 8, none⟩) heb).trans n8
   have k9 := (hB1r.cell (p := ⟨eb, eo + i * 12 + 9, none⟩) heb).trans n9
   have k10 := (hB1r.cell (p := ⟨eb, eo + i * 12 + 10, none⟩) heb).trans n10
   obtain ⟨c0, c1, c2, c3, c4, c5, c6, c7, c8, c9⟩ := cl10 hXy
   have HX : Hid (wr.drew.heap[b]? = some (.cells #[.int .i64 y.kind, .int .i64 y.level, .slice sy.ea sy.el sy.ec, .int .i64 y.hb, .string y.hr, .int .i64 y.cr, .int .i64 y.cc, .slice sy.ca sy.cl sy.cc, .int .i64 y.gf, .slice sy.ga sy.gl sy.gc] 39 (0, 0))) := hXy
   have HR : Hid (wr.drew.heap[w.heap.size]? = some (.cells #[.int .i64 0, .int .i64 0, .slice none 0 0, .int .i64 0, .string ⟨#[]⟩, .int .i64 0, .int .i64 0, .slice none 0 0, .int .i64 0, .slice none 0 0] 39 (0, 0))) := hRy
   have HB : Hid (Below w.heap.size w wr.drew) := hBy.drew
   have HB1d : Hid (Below w1.heap.size w1 wr.drew) := hB1r.drew
   clear hkx hsnoc hpc hec hi hx hB1r HLx n1 n2 n3 n4 n5 n6 n7 n8 n9 n10 n11 n0 hy hXy hAy hRy hBy
   go_wp2_with fail
   refine wp_region_any (by kernel_rfl) ?_
   change wpAny _ _ _ _ _ _ _ (World.drew _)
   refine tk 1 (v := ?_) rfl ?_ ?_
   rotate_left
   ·intro w; go_simp; with_reducible rfl
   refine tk 2 (v := ?_) rfl ?_ ?_
   rotate_left
   ·intro w; go_simp; with_reducible rfl
   refine tk 3 (v := ?_) rfl ?_ ?_
   rotate_left
   ·intro w; go_simp; with_reducible rfl
   refine tk 4 (v := ?_) rfl ?_ ?_
   rotate_left
   ·intro w; go_simp; with_reducible rfl
   refine wpAny_ready (rs := [0, 5]) (by kernel_rfl) (by simp) ?_
   refine AllReady.cons rfl (fun K_ hK => ?_) ?_
   ·go_simp
    refine hK _ _ ?_
    clear hK K_
    refine wpAny_ready (rs := [5]) (by kernel_rfl) (by simp) ?_
    refine AllReady.cons rfl (fun K_ hK => ?_) ?_
    ·go_simp
     refine hK _ _ ?_
     clear hK K_
     refine wpAny_ready (rs := [6]) (by kernel_rfl) (by simp) ?_
     refine AllReady.cons rfl (fun K_ hK => ?_) ?_
     ·go_simp
      refine HMg.out.mono ?_
      rintro e w5 ⟨y5, s5, rfl, hy5, hA5, hb5⟩
      have hX5 := known hb5 (Nat.le_refl _) HX.out
      have hR5 := known hb5 (Nat.le_refl _) HR.out
      obtain ⟨f0, f1, f2, f3, f4, f5, f6, f7, f8, f9⟩ := cl10 hX5
      have g'0 : w5.frozen? ⟨b, 0, none⟩ = false := cFz hX5 0
      have g'1 : w5.frozen? ⟨b, 1, none⟩ = false := cFz hX5 1
      have g'2 : w5.frozen? ⟨b, 2, none⟩ = false := cFz hX5 2
      have g'3 : w5.frozen? ⟨b, 3, none⟩ = false := cFz hX5 3
      have g'4 : w5.frozen? ⟨b, 4, none⟩ = false := cFz hX5 4
      have g'5 : w5.frozen? ⟨b, 5, none⟩ = false := cFz hX5 5
      have g'6 : w5.frozen? ⟨b, 6, none⟩ = false := cFz hX5 6
      have g'7 : w5.frozen? ⟨b, 7, none⟩ = false := cFz hX5 7
      have g'8 : w5.frozen? ⟨b, 8, none⟩ = false := cFz hX5 8
      have g'9 : w5.frozen? ⟨b, 9, none⟩ = false := cFz hX5 9
      obtain ⟨V, hV, hVX, hVO, hVB⟩ := store10 (.int .i64 y5.kind) (.int .i64 y5.level) (.slice s5.ea s5.el s5.ec) (.int .i64 y5.hb) (.string y5.hr) (.int .i64 y5.cr) (.int .i64 y5.cc) (.slice s5.ca s5.cl s5.cc) (.int .i64 y5.gf) (.slice s5.ga s5.gl s5.gc) hX5
      have HO : Hid (MI K (pickAt L K (pl.take (m + 1))) w w.heap.size b V ∧ Below w1.heap.size w1 V) := ⟨⟨⟨y5, s5, hy5, hVX, at_apart hA5 hX5 (fun i u => noU_sk y sy u) hVO⟩, (hVO.2 _ (by omega)).trans hR5, hVB _ _ (HB.out.trans (hb5.mono HB.out.size)) (by omega)⟩, hVB _ _ (HB1d.out.trans (hb5.mono HB1d.out.size)) hw1⟩
      clear hX5 hR5 hVX hVO hVB hy5 hA5 hb5
      refine hK _ _ ?_
      clear hK K_
      refine tk 7 (v := ?_) rfl ?_ ?_
      rotate_left
      ·intro w; go_simp; with_reducible rfl
      refine tk 8 (v := ?_) rfl ?_ ?_
      rotate_left
      ·intro w; go_simp; with_reducible rfl
      refine tk 9 (v := ?_) rfl ?_ ?_
      rotate_left
      ·intro w; go_simp; with_reducible rfl
      refine wpAny_ready (rs := [10]) (by kernel_rfl) (by simp) ?_
      refine AllReady.cons rfl (fun K_ hK => ?_) ?_
      ·go_simp
       refine hK _ _ ?_
       clear hK K_
       refine tk 11 (v := ?_) rfl ?_ ?_
       rotate_left
       ·intro w; go_simp; with_reducible rfl
       refine wpAny_done (by kernel_rfl) ?_ _
       go_wp2_with fail
       all_goals go_roundw
       case rel => exact ⟨m + 1, by omega, rfl, by go_num, HO.out.1, HO.out.2⟩
       case measure => simp [intOf]; omega
      exact AllReady.nil
     exact AllReady.nil
    exact AllReady.nil
   refine AllReady.cons rfl (fun K_ hK => ?_) ?_
   ·go_simp
    refine hK _ _ ?_
    clear hK K_
    refine wpAny_ready (rs := [0]) (by kernel_rfl) (by simp) ?_
    refine AllReady.cons rfl (fun K_ hK => ?_) ?_
    ·go_simp
     refine hK _ _ ?_
     clear hK K_
     refine wpAny_ready (rs := [6]) (by kernel_rfl) (by simp) ?_
     refine AllReady.cons rfl (fun K_ hK => ?_) ?_
     ·go_simp
      refine HMg.out.mono ?_
      rintro e w5 ⟨y5, s5, rfl, hy5, hA5, hb5⟩
      have hX5 := known hb5 (Nat.le_refl _) HX.out
      have hR5 := known hb5 (Nat.le_refl _) HR.out
      obtain ⟨f0, f1, f2, f3, f4, f5, f6, f7, f8, f9⟩ := cl10 hX5
      have g'0 : w5.frozen? ⟨b, 0, none⟩ = false := cFz hX5 0
      have g'1 : w5.frozen? ⟨b, 1, none⟩ = false := cFz hX5 1
      have g'2 : w5.frozen? ⟨b, 2, none⟩ = false := cFz hX5 2
      have g'3 : w5.frozen? ⟨b, 3, none⟩ = false := cFz hX5 3
      have g'4 : w5.frozen? ⟨b, 4, none⟩ = false := cFz hX5 4
      have g'5 : w5.frozen? ⟨b, 5, none⟩ = false := cFz hX5 5
      have g'6 : w5.frozen? ⟨b, 6, none⟩ = false := cFz hX5 6
      have g'7 : w5.frozen? ⟨b, 7, none⟩ = false := cFz hX5 7
      have g'8 : w5.frozen? ⟨b, 8, none⟩ = false := cFz hX5 8
      have g'9 : w5.frozen? ⟨b, 9, none⟩ = false := cFz hX5 9
      obtain ⟨V, hV, hVX, hVO, hVB⟩ := store10 (.int .i64 y5.kind) (.int .i64 y5.level) (.slice s5.ea s5.el s5.ec) (.int .i64 y5.hb) (.string y5.hr) (.int .i64 y5.cr) (.int .i64 y5.cc) (.slice s5.ca s5.cl s5.cc) (.int .i64 y5.gf) (.slice s5.ga s5.gl s5.gc) hX5
      have HO : Hid (MI K (pickAt L K (pl.take (m + 1))) w w.heap.size b V ∧ Below w1.heap.size w1 V) := ⟨⟨⟨y5, s5, hy5, hVX, at_apart hA5 hX5 (fun i u => noU_sk y sy u) hVO⟩, (hVO.2 _ (by omega)).trans hR5, hVB _ _ (HB.out.trans (hb5.mono HB.out.size)) (by omega)⟩, hVB _ _ (HB1d.out.trans (hb5.mono HB1d.out.size)) hw1⟩
      clear hX5 hR5 hVX hVO hVB hy5 hA5 hb5
      refine hK _ _ ?_
      clear hK K_
      refine tk 7 (v := ?_) rfl ?_ ?_
      rotate_left
      ·intro w; go_simp; with_reducible rfl
      refine tk 8 (v := ?_) rfl ?_ ?_
      rotate_left
      ·intro w; go_simp; with_reducible rfl
      refine tk 9 (v := ?_) rfl ?_ ?_
      rotate_left
      ·intro w; go_simp; with_reducible rfl
      refine wpAny_ready (rs := [10]) (by kernel_rfl) (by simp) ?_
      refine AllReady.cons rfl (fun K_ hK => ?_) ?_
      ·go_simp
       refine hK _ _ ?_
       clear hK K_
       refine tk 11 (v := ?_) rfl ?_ ?_
       rotate_left
       ·intro w; go_simp; with_reducible rfl
       refine wpAny_done (by kernel_rfl) ?_ _
       go_wp2_with fail
       all_goals go_roundw
       case rel => exact ⟨m + 1, by omega, rfl, by go_num, HO.out.1, HO.out.2⟩
       case measure => simp [intOf]; omega
      exact AllReady.nil
     exact AllReady.nil
    exact AllReady.nil
   exact AllReady.nil
  ·obtain rfl : m = pl.length := by omega
   rw [List.take_of_length_le (Nat.le_refl _)] at hMI
   obtain ⟨⟨y, sy, hy, hXy, hAy⟩, hRy, hBy⟩ := hMI
   obtain ⟨c0, c1, c2, c3, c4, c5, c6, c7, c8, c9⟩ := cl10 hXy
   have r'0 : wr.cell? ⟨w.heap.size, 0, none⟩ = some (.int .i64 0) := cCc hRy 0
   have r'1 : wr.cell? ⟨w.heap.size, 1, none⟩ = some (.int .i64 0) := cCc hRy 1
   have r'2 : wr.cell? ⟨w.heap.size, 2, none⟩ = some (.slice none 0 0) := cCc hRy 2
   have r'3 : wr.cell? ⟨w.heap.size, 3, none⟩ = some (.int .i64 0) := cCc hRy 3
   have r'4 : wr.cell? ⟨w.heap.size, 4, none⟩ = some (.string ⟨#[]⟩) := cCc hRy 4
   have r'5 : wr.cell? ⟨w.heap.size, 5, none⟩ = some (.int .i64 0) := cCc hRy 5
   have r'6 : wr.cell? ⟨w.heap.size, 6, none⟩ = some (.int .i64 0) := cCc hRy 6
   have r'7 : wr.cell? ⟨w.heap.size, 7, none⟩ = some (.slice none 0 0) := cCc hRy 7
   have r'8 : wr.cell? ⟨w.heap.size, 8, none⟩ = some (.int .i64 0) := cCc hRy 8
   have r'9 : wr.cell? ⟨w.heap.size, 9, none⟩ = some (.slice none 0 0) := cCc hRy 9
   have g'0 : wr.frozen? ⟨w.heap.size, 0, none⟩ = false := cFz hRy 0
   have g'1 : wr.frozen? ⟨w.heap.size, 1, none⟩ = false := cFz hRy 1
   have g'2 : wr.frozen? ⟨w.heap.size, 2, none⟩ = false := cFz hRy 2
   have g'3 : wr.frozen? ⟨w.heap.size, 3, none⟩ = false := cFz hRy 3
   have g'4 : wr.frozen? ⟨w.heap.size, 4, none⟩ = false := cFz hRy 4
   have g'5 : wr.frozen? ⟨w.heap.size, 5, none⟩ = false := cFz hRy 5
   have g'6 : wr.frozen? ⟨w.heap.size, 6, none⟩ = false := cFz hRy 6
   have g'7 : wr.frozen? ⟨w.heap.size, 7, none⟩ = false := cFz hRy 7
   have g'8 : wr.frozen? ⟨w.heap.size, 8, none⟩ = false := cFz hRy 8
   have g'9 : wr.frozen? ⟨w.heap.size, 9, none⟩ = false := cFz hRy 9
   obtain ⟨V, hV, hVX, hVO, hVB⟩ := store10 (.int .i64 y.kind) (.int .i64 y.level) (.slice sy.ea sy.el sy.ec) (.int .i64 y.hb) (.string y.hr) (.int .i64 y.cr) (.int .i64 y.cc) (.slice sy.ca sy.cl sy.cc) (.int .i64 y.gf) (.slice sy.ga sy.gl sy.gc) hRy
   obtain ⟨o0, o1, o2, o3, o4, o5, o6, o7, o8, o9⟩ := cl10 hVX
   have HF9 : Hid (y = skOf K (wkAll K (pickAt L K pl)).1 (wkAll K (pickAt L K pl)).2 ∧ sy.At V.heap.size V y ∧ Below w.heap.size w V) := ⟨hy, at_apart hAy hRy (fun i u => noU_zero u) hVO, hVB _ _ hBy (by omega)⟩
   clear hXy hRy hVX hVO hVB hy hAy hBy
   go_wp2_with fail
   refine bodyPost_ret (v := .tuple #[.agg #[.int .i64 y.kind, .int .i64 y.level, .slice sy.ea sy.el sy.ec, .int .i64 y.hb, .string y.hr, .int .i64 y.cr, .int .i64 y.cc, .slice sy.ca sy.cl sy.cc, .int .i64 y.gf, .slice sy.ga sy.gl sy.gc], .int .i64 0]) (by simp [results, Tryz.f19, go_sem, o0, o1, o2, o3, o4, o5, o6, o7, o8, o9]) rfl ⟨y, sy, HF9.out.1.trans HS.out.2.symm, ?_, HF9.out.2.1, HF9.out.2.2⟩
   rw [HS.out.1]
end Go.Proofs.YthbhmnakmhambaaGreatDoor

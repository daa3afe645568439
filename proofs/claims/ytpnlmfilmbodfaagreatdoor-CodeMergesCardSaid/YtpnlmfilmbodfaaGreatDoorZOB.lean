/- Package ladder: two sketches of different kinds are not merged. Printed by gen_ob.py. -/
import Derived.Test.YtpnlmfilmbodfaaGreatDoorZMJ
import Derived.Test.YtpnlmfilmbodfaaGreatDoorZLQ
import Derived.Test.YtpnlmfilmbodfaaGreatDoorZOA
namespace Go.Proofs.YtpnlmfilmbodfaaGreatDoor
open Go Go.RowKit Go.Shelf
set_option maxRecDepth 100000 in
set_option maxHeartbeats 2000000 in
theorem merged_kinds (v1 v2 : Value) (B1 B2 : Bd) (k k2 L1 L2 : Nat) (w : World) (hb1 : BdAt w v1 B1) (hb2 : BdAt w v2 B2) (hkk : k ≠ k2) :
    Calls Tryz.prog 70 #[.agg #[v1, .int .i64 k, .int .i64 L1], .agg #[v2, .int .i64 k2, .int .i64 L2]] w fun e w' => ∃ f, e = .returned (.tuple #[.agg #[.nilIface, .int .i64 0, .int .i64 0], f]) ∧ FaultAt w' f 101 ∧ Below w.heap.size w w' := by
  obtain ⟨T1, rv1, rfl⟩ := bd_iface hb1
  obtain ⟨T2, rv2, rfl⟩ := bd_iface hb2
  obtain ⟨W0, hW0, hXp, hXq, hXr, hB0, hs0⟩ := boxes3 w #[.iface T1 rv1, .int .i64 k, .int .i64 L1] 88 #[.iface T2 rv2, .int .i64 k2, .int .i64 L2] 88 #[.nilIface, .int .i64 0, .int .i64 0] 88
  obtain ⟨W1, hW1, hX1, hB1, hs1⟩ := boxes1 W0 #[.int .i64 101] 169
  have hR1 := known hB1 (Nat.le_refl _) hXr
  have e0 : W1.setCell ⟨w.heap.size + 1 + 1, 0, none⟩ .nilIface = W1 := set_same hR1 rfl
  have e1 : W1.setCell ⟨w.heap.size + 1 + 1, 1, none⟩ (.int .i64 0) = W1 := set_same hR1 rfl
  have e2 : W1.setCell ⟨w.heap.size + 1 + 1, 2, none⟩ (.int .i64 0) = W1 := set_same hR1 rfl
  have r0 : W1.cell? ⟨w.heap.size + 1 + 1, 0, none⟩ = some (.nilIface) := cCc hR1 0
  have r1 : W1.cell? ⟨w.heap.size + 1 + 1, 1, none⟩ = some (.int .i64 0) := cCc hR1 1
  have r2 : W1.cell? ⟨w.heap.size + 1 + 1, 2, none⟩ = some (.int .i64 0) := cCc hR1 2
  have g0 : W1.frozen? ⟨w.heap.size + 1 + 1, 0, none⟩ = false := cFz hR1 0
  have g1 : W1.frozen? ⟨w.heap.size + 1 + 1, 1, none⟩ = false := cFz hR1 1
  have g2 : W1.frozen? ⟨w.heap.size + 1 + 1, 2, none⟩ = false := cFz hR1 2
  have HE : Hid (FaultAt W1 (.iface 167 (.pointer (some ⟨w.heap.size + 3, 0, none⟩))) 101 ∧ Below w.heap.size w W1) := ⟨⟨w.heap.size + 3, rfl, by rw [hs0] at hX1; exact hX1⟩, hB0.trans (hB1.mono hB0.size)⟩
  have c0 : W0.cell? ⟨w.heap.size, 0, none⟩ = some (.iface T1 rv1) := cCc hXp 0
  have c1 : W0.cell? ⟨w.heap.size, 1, none⟩ = some (.int .i64 k) := cCc hXp 1
  have c2 : W0.cell? ⟨w.heap.size, 2, none⟩ = some (.int .i64 L1) := cCc hXp 2
  have d0 : W0.cell? ⟨w.heap.size + 1, 0, none⟩ = some (.iface T2 rv2) := cCc hXq 0
  have d1 : W0.cell? ⟨w.heap.size + 1, 1, none⟩ = some (.int .i64 k2) := cCc hXq 1
  have d2 : W0.cell? ⟨w.heap.size + 1, 2, none⟩ = some (.int .i64 L2) := cCc hXq 2
  have hne : ((k : Int) != (k2 : Int)) = true := by simp; omega
  clear hXp hXq hXr hB0 hb1 hb2 hkk hX1 hB1 hR1
  go_enter Tryz.func70, Tryz.ntmps70
  go_wp2_with fail
  exact bodyPost_ret (v := .tuple #[.agg #[.nilIface, .int .i64 0, .int .i64 0], .iface 167 (.pointer (some ⟨w.heap.size + 3, 0, none⟩))]) (by simp [results, Tryz.f70, go_sem, r0, r1, r2]) rfl ⟨_, rfl, HE.out.1, HE.out.2⟩
set_option maxRecDepth 100000 in
set_option maxHeartbeats 4000000 in
theorem Merge_kinds {k k2 L1 L2 : Nat} {B1 B2 : Bd} {v1 v2 : Value} {w : World} (hok1 : B1.Ok k L1) (hok2 : B2.Ok k2 L2) (hkk : k ≠ k2) (hg : GT w) (hv1 : SkB w v1 k L1 B1) (hv2 : SkB w v2 k2 L2 B2) :
    Calls Tryz.prog 17 #[v1, v2] w fun e w' => e = .returned (.tuple #[.agg #[.int .i64 0, .int .i64 0, .slice none 0 0, .int .i64 0, .string ⟨#[]⟩, .int .i64 0, .int .i64 0, .slice none 0 0, .int .i64 0, .slice none 0 0], .int .i64 101]) ∧ Below w.heap.size w w' := by
  obtain ⟨y1, s1, hy1, rfl, hA1⟩ := hv1
  obtain ⟨y2, s2, hy2, rfl, hA2⟩ := hv2
  obtain ⟨W0, hW0, hXa, hXb, hXr, hB0, hs0⟩ := boxes3 w #[.int .i64 y1.kind, .int .i64 y1.level, .slice s1.ea s1.el s1.ec, .int .i64 y1.hb, .string y1.hr, .int .i64 y1.cr, .int .i64 y1.cc, .slice s1.ca s1.cl s1.cc, .int .i64 y1.gf, .slice s1.ga s1.gl s1.gc] 33 #[.int .i64 y2.kind, .int .i64 y2.level, .slice s2.ea s2.el s2.ec, .int .i64 y2.hb, .string y2.hr, .int .i64 y2.cr, .int .i64 y2.cc, .slice s2.ca s2.cl s2.cc, .int .i64 y2.gf, .slice s2.ga s2.gl s2.gc] 33 #[.int .i64 0, .int .i64 0, .slice none 0 0, .int .i64 0, .string ⟨#[]⟩, .int .i64 0, .int .i64 0, .slice none 0 0, .int .i64 0, .slice none 0 0] 33
  have HO1 := Lib.hid (open_sk_any (w := W0) hok1 ⟨y1, s1, hy1, rfl, hA1.go hB0⟩)
  have HO2 : Hid (∀ W, Below W0.heap.size W0 W → Calls Tryz.prog 68 #[.agg #[.int .i64 y2.kind, .int .i64 y2.level, .slice s2.ea s2.el s2.ec, .int .i64 y2.hb, .string y2.hr, .int .i64 y2.cr, .int .i64 y2.cc, .slice s2.ca s2.cl s2.cc, .int .i64 y2.gf, .slice s2.ga s2.gl s2.gc]] W fun e w' => ∃ b, e = .returned (.tuple #[.agg #[b, .int .i64 k2, .int .i64 L2], .nilIface]) ∧ BdAt w' b B2 ∧ Below W.heap.size W w') := fun W hB => open_sk_any hok2 ⟨y2, s2, hy2, rfl, (hA2.go hB0).go hB⟩
  have HT : Hid (∀ b1 b2 W, BdAt W b1 B1 → BdAt W b2 B2 → Calls Tryz.prog 70 #[.agg #[b1, .int .i64 k, .int .i64 L1], .agg #[b2, .int .i64 k2, .int .i64 L2]] W fun e w' => ∃ f, e = .returned (.tuple #[.agg #[.nilIface, .int .i64 0, .int .i64 0], f]) ∧ FaultAt w' f 101 ∧ Below W.heap.size W w') := fun b1 b2 W h1 h2 => merged_kinds b1 b2 B1 B2 k k2 L1 L2 W h1 h2 hkk
  have c0 : W0.cell? ⟨w.heap.size, 0, none⟩ = some (.int .i64 y1.kind) := cCc hXa 0
  have c1 : W0.cell? ⟨w.heap.size, 1, none⟩ = some (.int .i64 y1.level) := cCc hXa 1
  have c2 : W0.cell? ⟨w.heap.size, 2, none⟩ = some (.slice s1.ea s1.el s1.ec) := cCc hXa 2
  have c3 : W0.cell? ⟨w.heap.size, 3, none⟩ = some (.int .i64 y1.hb) := cCc hXa 3
  have c4 : W0.cell? ⟨w.heap.size, 4, none⟩ = some (.string y1.hr) := cCc hXa 4
  have c5 : W0.cell? ⟨w.heap.size, 5, none⟩ = some (.int .i64 y1.cr) := cCc hXa 5
  have c6 : W0.cell? ⟨w.heap.size, 6, none⟩ = some (.int .i64 y1.cc) := cCc hXa 6
  have c7 : W0.cell? ⟨w.heap.size, 7, none⟩ = some (.slice s1.ca s1.cl s1.cc) := cCc hXa 7
  have c8 : W0.cell? ⟨w.heap.size, 8, none⟩ = some (.int .i64 y1.gf) := cCc hXa 8
  have c9 : W0.cell? ⟨w.heap.size, 9, none⟩ = some (.slice s1.ga s1.gl s1.gc) := cCc hXa 9
  have HGT := Lib.hid (hg.go hB0)
  have HXB := Lib.hid hXb
  have HXR := Lib.hid hXr
  have HB0 := Lib.hid hB0
  clear hXa hXb hXr hB0 hA1 hA2 hy1 hy2 hok1 hok2 hkk hg
  go_enter Tryz.func17, Tryz.ntmps17
  go_wp2_with fail
  refine HO1.out.mono ?_
  rintro e w1 ⟨b1, rfl, hb1, hB1⟩
  obtain ⟨T1, rv1, rfl⟩ := bd_iface hb1
  obtain ⟨W2, hW2, hX2, hB2, hs2⟩ := boxes1 w1 #[.iface T1 rv1, .int .i64 k, .int .i64 L1] 88
  have hb02 := hB1.trans (hB2.mono hB1.size)
  have HO2 := Lib.hid (HO2.out W2 hb02)
  have hY2 := known hb02 (Nat.le_refl _) HXB.out
  have HK1 := Lib.hid (hb1.go hB2)
  have HX2 := Lib.hid hX2
  have HB02 := Lib.hid hb02
  have hsz1 := hB1.size
  have d0 : W2.cell? ⟨w.heap.size + 1, 0, none⟩ = some (.int .i64 y2.kind) := cCc hY2 0
  have d1 : W2.cell? ⟨w.heap.size + 1, 1, none⟩ = some (.int .i64 y2.level) := cCc hY2 1
  have d2 : W2.cell? ⟨w.heap.size + 1, 2, none⟩ = some (.slice s2.ea s2.el s2.ec) := cCc hY2 2
  have d3 : W2.cell? ⟨w.heap.size + 1, 3, none⟩ = some (.int .i64 y2.hb) := cCc hY2 3
  have d4 : W2.cell? ⟨w.heap.size + 1, 4, none⟩ = some (.string y2.hr) := cCc hY2 4
  have d5 : W2.cell? ⟨w.heap.size + 1, 5, none⟩ = some (.int .i64 y2.cr) := cCc hY2 5
  have d6 : W2.cell? ⟨w.heap.size + 1, 6, none⟩ = some (.int .i64 y2.cc) := cCc hY2 6
  have d7 : W2.cell? ⟨w.heap.size + 1, 7, none⟩ = some (.slice s2.ca s2.cl s2.cc) := cCc hY2 7
  have d8 : W2.cell? ⟨w.heap.size + 1, 8, none⟩ = some (.int .i64 y2.gf) := cCc hY2 8
  have d9 : W2.cell? ⟨w.heap.size + 1, 9, none⟩ = some (.slice s2.ga s2.gl s2.gc) := cCc hY2 9
  clear hb1 hB1 hX2 hB2 hb02 hY2
  go_wp2_with fail
  refine HO2.out.mono ?_
  rintro e w3 ⟨b2, rfl, hb2, hb23⟩
  obtain ⟨T2, rv2, rfl⟩ := bd_iface hb2
  obtain ⟨W4, hW4, hX4, hB4, hs4⟩ := boxes1 w3 #[.iface T2 rv2, .int .i64 k2, .int .i64 L2] 88
  have hb24 := hb23.trans (hB4.mono hb23.size)
  have hA4 := known hb24 (Nat.le_refl _) HX2.out
  have hb04 : Below W0.heap.size W0 W4 := HB02.out.trans (hb24.mono HB02.out.size)
  have HT2 := Lib.hid (HT.out _ _ W4 (HK1.out.go hb24) (hb2.go hB4))
  have q0 : W4.cell? ⟨w1.heap.size, 0, none⟩ = some (.iface T1 rv1) := cCc hA4 0
  have q1 : W4.cell? ⟨w1.heap.size, 1, none⟩ = some (.int .i64 k) := cCc hA4 1
  have q2 : W4.cell? ⟨w1.heap.size, 2, none⟩ = some (.int .i64 L1) := cCc hA4 2
  have x0 : W4.cell? ⟨w3.heap.size, 0, none⟩ = some (.iface T2 rv2) := cCc hX4 0
  have x1 : W4.cell? ⟨w3.heap.size, 1, none⟩ = some (.int .i64 k2) := cCc hX4 1
  have x2 : W4.cell? ⟨w3.heap.size, 2, none⟩ = some (.int .i64 L2) := cCc hX4 2
  have HA4 := Lib.hid hA4
  have HB04 := Lib.hid hb04
  clear hb2 hb23 hX4 hB4 hb24 hA4 hb04
  go_wp2_with fail
  refine HT2.out.mono ?_
  rintro e w5 ⟨f, rfl, hf5, hb5⟩
  have hX5 := known hb5 (Nat.le_refl _) HA4.out
  have p0 : w5.cell? ⟨w1.heap.size, 0, none⟩ = some (.iface T1 rv1) := cCc hX5 0
  have p1 : w5.cell? ⟨w1.heap.size, 1, none⟩ = some (.int .i64 k) := cCc hX5 1
  have p2 : w5.cell? ⟨w1.heap.size, 2, none⟩ = some (.int .i64 L1) := cCc hX5 2
  have g0 : w5.frozen? ⟨w1.heap.size, 0, none⟩ = false := cFz hX5 0
  have g1 : w5.frozen? ⟨w1.heap.size, 1, none⟩ = false := cFz hX5 1
  have g2 : w5.frozen? ⟨w1.heap.size, 2, none⟩ = false := cFz hX5 2
  obtain ⟨V, hV, hVX, hVO, hVB⟩ := store3 .nilIface (.int .i64 0) (.int .i64 0) hX5
  have hb05 := HB04.out.trans (hb5.mono HB04.out.size)
  have HB5 : Hid (Below w.heap.size w V) := hVB _ _ (HB0.out.trans (hb05.mono HB0.out.size)) (by omega)
  have hGV : GT V := HGT.out.go (hVB _ _ hb05 (by omega))
  have HN2 := Lib.hid (told_fault f 101 V (fault_apart hf5 hX5 hVO) hGV)
  have HR5 : Hid (V.heap[w.heap.size + 2]? = some (.cells #[.int .i64 0, .int .i64 0, .slice none 0 0, .int .i64 0, .string ⟨#[]⟩, .int .i64 0, .int .i64 0, .slice none 0 0, .int .i64 0, .slice none 0 0] 33 (0, 0))) := (hVO.2 _ (by omega)).trans (known hb05 (Nat.le_refl _) HXR.out)
  have q0 : V.cell? ⟨w1.heap.size, 0, none⟩ = some (.nilIface) := cCc hVX 0
  have q1 : V.cell? ⟨w1.heap.size, 1, none⟩ = some (.int .i64 0) := cCc hVX 1
  have q2 : V.cell? ⟨w1.heap.size, 2, none⟩ = some (.int .i64 0) := cCc hVX 2
  clear hX5 hVX hVO hVB hf5 hb5 hb05 hGV
  go_wp2_with fail
  refine HN2.out.mono ?_
  rintro e w6 ⟨rfl, hb6⟩
  have hR6 := known hb6 (Nat.le_refl _) HR5.out
  have r0 : w6.cell? ⟨w.heap.size + 2, 0, none⟩ = some (.int .i64 0) := cCc hR6 0
  have r1 : w6.cell? ⟨w.heap.size + 2, 1, none⟩ = some (.int .i64 0) := cCc hR6 1
  have r2 : w6.cell? ⟨w.heap.size + 2, 2, none⟩ = some (.slice none 0 0) := cCc hR6 2
  have r3 : w6.cell? ⟨w.heap.size + 2, 3, none⟩ = some (.int .i64 0) := cCc hR6 3
  have r4 : w6.cell? ⟨w.heap.size + 2, 4, none⟩ = some (.string ⟨#[]⟩) := cCc hR6 4
  have r5 : w6.cell? ⟨w.heap.size + 2, 5, none⟩ = some (.int .i64 0) := cCc hR6 5
  have r6 : w6.cell? ⟨w.heap.size + 2, 6, none⟩ = some (.int .i64 0) := cCc hR6 6
  have r7 : w6.cell? ⟨w.heap.size + 2, 7, none⟩ = some (.slice none 0 0) := cCc hR6 7
  have r8 : w6.cell? ⟨w.heap.size + 2, 8, none⟩ = some (.int .i64 0) := cCc hR6 8
  have r9 : w6.cell? ⟨w.heap.size + 2, 9, none⟩ = some (.slice none 0 0) := cCc hR6 9
  have z0 : w6.frozen? ⟨w.heap.size + 2, 0, none⟩ = false := cFz hR6 0
  have z1 : w6.frozen? ⟨w.heap.size + 2, 1, none⟩ = false := cFz hR6 1
  have z2 : w6.frozen? ⟨w.heap.size + 2, 2, none⟩ = false := cFz hR6 2
  have z3 : w6.frozen? ⟨w.heap.size + 2, 3, none⟩ = false := cFz hR6 3
  have z4 : w6.frozen? ⟨w.heap.size + 2, 4, none⟩ = false := cFz hR6 4
  have z5 : w6.frozen? ⟨w.heap.size + 2, 5, none⟩ = false := cFz hR6 5
  have z6 : w6.frozen? ⟨w.heap.size + 2, 6, none⟩ = false := cFz hR6 6
  have z7 : w6.frozen? ⟨w.heap.size + 2, 7, none⟩ = false := cFz hR6 7
  have z8 : w6.frozen? ⟨w.heap.size + 2, 8, none⟩ = false := cFz hR6 8
  have z9 : w6.frozen? ⟨w.heap.size + 2, 9, none⟩ = false := cFz hR6 9
  have e0 : w6.setCell ⟨w.heap.size + 2, 0, none⟩ (.int .i64 0) = w6 := set_same hR6 rfl
  have e1 : w6.setCell ⟨w.heap.size + 2, 1, none⟩ (.int .i64 0) = w6 := set_same hR6 rfl
  have e2 : w6.setCell ⟨w.heap.size + 2, 2, none⟩ (.slice none 0 0) = w6 := set_same hR6 rfl
  have e3 : w6.setCell ⟨w.heap.size + 2, 3, none⟩ (.int .i64 0) = w6 := set_same hR6 rfl
  have e4 : w6.setCell ⟨w.heap.size + 2, 4, none⟩ (.string ⟨#[]⟩) = w6 := set_same hR6 rfl
  have e5 : w6.setCell ⟨w.heap.size + 2, 5, none⟩ (.int .i64 0) = w6 := set_same hR6 rfl
  have e6 : w6.setCell ⟨w.heap.size + 2, 6, none⟩ (.int .i64 0) = w6 := set_same hR6 rfl
  have e7 : w6.setCell ⟨w.heap.size + 2, 7, none⟩ (.slice none 0 0) = w6 := set_same hR6 rfl
  have e8 : w6.setCell ⟨w.heap.size + 2, 8, none⟩ (.int .i64 0) = w6 := set_same hR6 rfl
  have e9 : w6.setCell ⟨w.heap.size + 2, 9, none⟩ (.slice none 0 0) = w6 := set_same hR6 rfl
  have HBU : Hid (Below w.heap.size w w6) := HB5.out.trans (hb6.mono HB5.out.size)
  clear hR6 hb6
  go_wp2_with fail
  exact bodyPost_ret (v := .tuple #[.agg #[.int .i64 0, .int .i64 0, .slice none 0 0, .int .i64 0, .string ⟨#[]⟩, .int .i64 0, .int .i64 0, .slice none 0 0, .int .i64 0, .slice none 0 0], .int .i64 101]) (by simp [results, Tryz.f17, go_sem, r0, r1, r2, r3, r4, r5, r6, r7, r8, r9]) rfl ⟨rfl, HBU.out⟩
end Go.Proofs.YtpnlmfilmbodfaaGreatDoor

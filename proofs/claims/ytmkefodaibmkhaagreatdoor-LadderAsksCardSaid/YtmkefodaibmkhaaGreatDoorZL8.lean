/- Package ladder: To, Lower, Add on sketches at work. Printed by gen_ll.py. Package ladder: Add on sketches at work. Printed by gen_ll.py. -/
import Derived.Test.YtmkefodaibmkhaaGreatDoorZLH
import Derived.Test.YtmkefodaibmkhaaGreatDoorZLK
namespace Go.Proofs.YtmkefodaibmkhaaGreatDoor
open Go Go.RowKit Go.Shelf

set_option maxRecDepth 100000 in
set_option maxHeartbeats 2000000 in
theorem To_any {k L : Nat} {t : Nat} {B : Bd} {v : Value} {w : World} (hok : B.Ok k L) (ht : t ≤ botN k) (hv : SkB w v k L B) :
    Calls Tryz.prog 15 #[v, .int .i64 t] w fun e w' => ∃ x, e = .returned (.tuple #[x, .int .i64 0]) ∧ SkB w' x k (wkTo (L, B) t).1 (wkTo (L, B) t).2 ∧ Below w.heap.size w w' := by
  have hok2 : ((wkTo (L, B) t).2).Ok k ((wkTo (L, B) t).1) := (wkTo_ok t ht _ (L, B) rfl hok).1
  obtain ⟨y, s, hy, rfl, hA⟩ := hv
  obtain ⟨W0, hW0, hXp, hXr, hB0, hs0⟩ := boxes2 w #[.int .i64 y.kind, .int .i64 y.level, .slice s.ea s.el s.ec, .int .i64 y.hb, .string y.hr, .int .i64 y.cr, .int .i64 y.cc, .slice s.ca s.cl s.cc, .int .i64 y.gf, .slice s.ga s.gl s.gc] 36 #[.int .i64 0, .int .i64 0, .slice none 0 0, .int .i64 0, .string ⟨#[]⟩, .int .i64 0, .int .i64 0, .slice none 0 0, .int .i64 0, .slice none 0 0] 36
  have HO := Lib.hid (open_sk_any (w := W0) hok ⟨y, s, hy, rfl, hA.go hB0⟩)
  obtain ⟨L2, hL2⟩ : ∃ L2 : Nat, (wkTo (L, B) t).1 = L2 := ⟨_, rfl⟩
  obtain ⟨B2, hB2⟩ : ∃ B2 : Bd, (wkTo (L, B) t).2 = B2 := ⟨_, rfl⟩
  rw [hL2, hB2] at hok2 ⊢
  have HT : Hid (∀ b W, BdAt W b B → Calls Tryz.prog 39 #[.agg #[b, .int .i64 k, .int .i64 L], .int .i64 t] W fun e w' => ∃ v', e = .returned (.tuple #[.agg #[v', .int .i64 k, .int .i64 L2], .nilIface]) ∧ BdAt w' v' B2 ∧ Below W.heap.size W w') := by
    rw [← hB2, ← hL2]
    exact fun b W h => to_any b B k L t W h hok ht
  have HN : Hid (∀ b W, BdAt W b B2 → Calls Tryz.prog 40 #[.agg #[b, .int .i64 k, .int .i64 L2], .nilIface] W fun e w' => ∃ x, e = .returned (.tuple #[x, .int .i64 0]) ∧ SkB w' x k L2 B2 ∧ Below W.heap.size W w') := fun b W h => told_nil b B2 k L2 W h hok2
  have c0 : W0.cell? ⟨w.heap.size, 0, none⟩ = some (.int .i64 y.kind) := cell_of_cells hXp 0
  have c1 : W0.cell? ⟨w.heap.size, 1, none⟩ = some (.int .i64 y.level) := cell_of_cells hXp 1
  have c2 : W0.cell? ⟨w.heap.size, 2, none⟩ = some (.slice s.ea s.el s.ec) := cell_of_cells hXp 2
  have c3 : W0.cell? ⟨w.heap.size, 3, none⟩ = some (.int .i64 y.hb) := cell_of_cells hXp 3
  have c4 : W0.cell? ⟨w.heap.size, 4, none⟩ = some (.string y.hr) := cell_of_cells hXp 4
  have c5 : W0.cell? ⟨w.heap.size, 5, none⟩ = some (.int .i64 y.cr) := cell_of_cells hXp 5
  have c6 : W0.cell? ⟨w.heap.size, 6, none⟩ = some (.int .i64 y.cc) := cell_of_cells hXp 6
  have c7 : W0.cell? ⟨w.heap.size, 7, none⟩ = some (.slice s.ca s.cl s.cc) := cell_of_cells hXp 7
  have c8 : W0.cell? ⟨w.heap.size, 8, none⟩ = some (.int .i64 y.gf) := cell_of_cells hXp 8
  have c9 : W0.cell? ⟨w.heap.size, 9, none⟩ = some (.slice s.ga s.gl s.gc) := cell_of_cells hXp 9
  have HXR := Lib.hid hXr
  have HB0 := Lib.hid hB0
  clear hXp hXr hB0 hA hy hok hok2 hL2 hB2 ht
  go_enter Tryz.func15, Tryz.ntmps15
  go_wp2_with fail
  refine HO.out.mono ?_
  rintro e w1 ⟨b, rfl, hb, hb1⟩
  obtain ⟨T, rv, rfl⟩ := bd_iface hb
  obtain ⟨W2, hW2, hX2, hB2, hs2⟩ := boxes1 w1 #[.iface T rv, .int .i64 k, .int .i64 L] 68
  have d0 : W2.cell? ⟨w1.heap.size, 0, none⟩ = some (.iface T rv) := cell_of_cells hX2 0
  have d1 : W2.cell? ⟨w1.heap.size, 1, none⟩ = some (.int .i64 k) := cell_of_cells hX2 1
  have d2 : W2.cell? ⟨w1.heap.size, 2, none⟩ = some (.int .i64 L) := cell_of_cells hX2 2
  have HT2 := Lib.hid (HT.out _ W2 (hb.go hB2))
  have HX2 := Lib.hid hX2
  have HB2 := Lib.hid hB2
  have HB1 := Lib.hid hb1
  clear hX2 hB2 hb1 hb
  go_wp2_with fail
  refine HT2.out.mono ?_
  rintro e w3 ⟨b3, rfl, hv3, hb3⟩
  obtain ⟨T3, rv3, rfl⟩ := bd_iface hv3
  have hX3 := known hb3 (Nat.le_refl _) HX2.out
  have p0 : w3.cell? ⟨w1.heap.size, 0, none⟩ = some (.iface T rv) := cell_of_cells hX3 0
  have p1 : w3.cell? ⟨w1.heap.size, 1, none⟩ = some (.int .i64 k) := cell_of_cells hX3 1
  have p2 : w3.cell? ⟨w1.heap.size, 2, none⟩ = some (.int .i64 L) := cell_of_cells hX3 2
  have g0 : w3.frozen? ⟨w1.heap.size, 0, none⟩ = false := frozen_of_cells hX3 0
  have g1 : w3.frozen? ⟨w1.heap.size, 1, none⟩ = false := frozen_of_cells hX3 1
  have g2 : w3.frozen? ⟨w1.heap.size, 2, none⟩ = false := frozen_of_cells hX3 2
  obtain ⟨V, hV, hVX, hVO, hVB⟩ := store3 (.iface T3 rv3) (.int .i64 k) (.int .i64 L2) hX3
  have HN2 := Lib.hid (HN.out _ V (BdAt.set_work hv3 hX3 (by simp) (by simp) (by simp) hVO))
  have hsz := HB1.out.size
  have HB3 : Hid (Below w.heap.size w V) := hVB _ _ (HB0.out.trans ((HB1.out.trans ((HB2.out.trans (hb3.mono HB2.out.size)).mono HB1.out.size)).mono HB0.out.size)) (by omega)
  have HR3 : Hid (V.heap[w.heap.size + 1]? = some (.cells #[.int .i64 0, .int .i64 0, .slice none 0 0, .int .i64 0, .string ⟨#[]⟩, .int .i64 0, .int .i64 0, .slice none 0 0, .int .i64 0, .slice none 0 0] 36 (0, 0))) := by
    refine (hVO.2 _ (by omega)).trans ?_
    exact known (HB1.out.trans ((HB2.out.trans (hb3.mono HB2.out.size)).mono HB1.out.size)) (Nat.le_refl _) HXR.out
  have q0 : V.cell? ⟨w1.heap.size, 0, none⟩ = some (.iface T3 rv3) := cell_of_cells hVX 0
  have q1 : V.cell? ⟨w1.heap.size, 1, none⟩ = some (.int .i64 k) := cell_of_cells hVX 1
  have q2 : V.cell? ⟨w1.heap.size, 2, none⟩ = some (.int .i64 L2) := cell_of_cells hVX 2
  clear hX3 hVX hVO hVB hv3 hb3
  go_wp2_with fail
  refine HN2.out.mono ?_
  rintro e w5 ⟨x, rfl, ⟨y5, s5, hy5, rfl, hA5⟩, hb5⟩
  have hR5 := known hb5 (Nat.le_refl _) HR3.out
  have r0 : w5.cell? ⟨w.heap.size + 1, 0, none⟩ = some (.int .i64 0) := cell_of_cells hR5 0
  have r1 : w5.cell? ⟨w.heap.size + 1, 1, none⟩ = some (.int .i64 0) := cell_of_cells hR5 1
  have r2 : w5.cell? ⟨w.heap.size + 1, 2, none⟩ = some (.slice none 0 0) := cell_of_cells hR5 2
  have r3 : w5.cell? ⟨w.heap.size + 1, 3, none⟩ = some (.int .i64 0) := cell_of_cells hR5 3
  have r4 : w5.cell? ⟨w.heap.size + 1, 4, none⟩ = some (.string ⟨#[]⟩) := cell_of_cells hR5 4
  have r5 : w5.cell? ⟨w.heap.size + 1, 5, none⟩ = some (.int .i64 0) := cell_of_cells hR5 5
  have r6 : w5.cell? ⟨w.heap.size + 1, 6, none⟩ = some (.int .i64 0) := cell_of_cells hR5 6
  have r7 : w5.cell? ⟨w.heap.size + 1, 7, none⟩ = some (.slice none 0 0) := cell_of_cells hR5 7
  have r8 : w5.cell? ⟨w.heap.size + 1, 8, none⟩ = some (.int .i64 0) := cell_of_cells hR5 8
  have r9 : w5.cell? ⟨w.heap.size + 1, 9, none⟩ = some (.slice none 0 0) := cell_of_cells hR5 9
  have f0 : w5.frozen? ⟨w.heap.size + 1, 0, none⟩ = false := frozen_of_cells hR5 0
  have f1 : w5.frozen? ⟨w.heap.size + 1, 1, none⟩ = false := frozen_of_cells hR5 1
  have f2 : w5.frozen? ⟨w.heap.size + 1, 2, none⟩ = false := frozen_of_cells hR5 2
  have f3 : w5.frozen? ⟨w.heap.size + 1, 3, none⟩ = false := frozen_of_cells hR5 3
  have f4 : w5.frozen? ⟨w.heap.size + 1, 4, none⟩ = false := frozen_of_cells hR5 4
  have f5 : w5.frozen? ⟨w.heap.size + 1, 5, none⟩ = false := frozen_of_cells hR5 5
  have f6 : w5.frozen? ⟨w.heap.size + 1, 6, none⟩ = false := frozen_of_cells hR5 6
  have f7 : w5.frozen? ⟨w.heap.size + 1, 7, none⟩ = false := frozen_of_cells hR5 7
  have f8 : w5.frozen? ⟨w.heap.size + 1, 8, none⟩ = false := frozen_of_cells hR5 8
  have f9 : w5.frozen? ⟨w.heap.size + 1, 9, none⟩ = false := frozen_of_cells hR5 9
  obtain ⟨U, hU, hUX, hUO, hUB⟩ := store10 (.int .i64 y5.kind) (.int .i64 y5.level) (.slice s5.ea s5.el s5.ec) (.int .i64 y5.hb) (.string y5.hr) (.int .i64 y5.cr) (.int .i64 y5.cc) (.slice s5.ca s5.cl s5.cc) (.int .i64 y5.gf) (.slice s5.ga s5.gl s5.gc) hR5
  have k0 : U.cell? ⟨w.heap.size + 1, 0, none⟩ = some (.int .i64 y5.kind) := cell_of_cells hUX 0
  have k1 : U.cell? ⟨w.heap.size + 1, 1, none⟩ = some (.int .i64 y5.level) := cell_of_cells hUX 1
  have k2 : U.cell? ⟨w.heap.size + 1, 2, none⟩ = some (.slice s5.ea s5.el s5.ec) := cell_of_cells hUX 2
  have k3 : U.cell? ⟨w.heap.size + 1, 3, none⟩ = some (.int .i64 y5.hb) := cell_of_cells hUX 3
  have k4 : U.cell? ⟨w.heap.size + 1, 4, none⟩ = some (.string y5.hr) := cell_of_cells hUX 4
  have k5 : U.cell? ⟨w.heap.size + 1, 5, none⟩ = some (.int .i64 y5.cr) := cell_of_cells hUX 5
  have k6 : U.cell? ⟨w.heap.size + 1, 6, none⟩ = some (.int .i64 y5.cc) := cell_of_cells hUX 6
  have k7 : U.cell? ⟨w.heap.size + 1, 7, none⟩ = some (.slice s5.ca s5.cl s5.cc) := cell_of_cells hUX 7
  have k8 : U.cell? ⟨w.heap.size + 1, 8, none⟩ = some (.int .i64 y5.gf) := cell_of_cells hUX 8
  have k9 : U.cell? ⟨w.heap.size + 1, 9, none⟩ = some (.slice s5.ga s5.gl s5.gc) := cell_of_cells hUX 9
  have HS2 : Hid (SkB U (.agg #[.int .i64 y5.kind, .int .i64 y5.level, .slice s5.ea s5.el s5.ec, .int .i64 y5.hb, .string y5.hr, .int .i64 y5.cr, .int .i64 y5.cc, .slice s5.ca s5.cl s5.cc, .int .i64 y5.gf, .slice s5.ga s5.gl s5.gc]) k L2 B2) := SkB.apart ⟨y5, s5, hy5, rfl, hA5⟩ hR5 (fun i u => noU_zero u) hUO
  have HBU : Hid (Below w.heap.size w U) := hUB _ _ (HB3.out.trans (hb5.mono HB3.out.size)) (by omega)
  clear hR5 hUX hUO hUB hy5 hA5 hb5
  go_wp2_with fail
  exact bodyPost_ret (v := .tuple #[.agg #[.int .i64 y5.kind, .int .i64 y5.level, .slice s5.ea s5.el s5.ec, .int .i64 y5.hb, .string y5.hr, .int .i64 y5.cr, .int .i64 y5.cc, .slice s5.ca s5.cl s5.cc, .int .i64 y5.gf, .slice s5.ga s5.gl s5.gc], .int .i64 0]) (by simp [results, Tryz.f15, go_sem, k0, k1, k2, k3, k4, k5, k6, k7, k8, k9]) rfl ⟨_, rfl, HS2.out, HBU.out⟩
set_option maxRecDepth 100000 in
set_option maxHeartbeats 2000000 in
theorem Lower_any {k L : Nat}  {B : Bd} {v : Value} {w : World} (hok : B.Ok k L) (hlv : L < botN k) (hv : SkB w v k L B) :
    Calls Tryz.prog 17 #[v] w fun e w' => ∃ x, e = .returned (.tuple #[x, .int .i64 0]) ∧ SkB w' x k (L + 1) B.low ∧ Below w.heap.size w w' := by
  have hok2 : (B.low).Ok k ((L + 1)) := bd_low_ok hok hlv
  obtain ⟨y, s, hy, rfl, hA⟩ := hv
  obtain ⟨W0, hW0, hXp, hXr, hB0, hs0⟩ := boxes2 w #[.int .i64 y.kind, .int .i64 y.level, .slice s.ea s.el s.ec, .int .i64 y.hb, .string y.hr, .int .i64 y.cr, .int .i64 y.cc, .slice s.ca s.cl s.cc, .int .i64 y.gf, .slice s.ga s.gl s.gc] 36 #[.int .i64 0, .int .i64 0, .slice none 0 0, .int .i64 0, .string ⟨#[]⟩, .int .i64 0, .int .i64 0, .slice none 0 0, .int .i64 0, .slice none 0 0] 36
  have HO := Lib.hid (open_sk_any (w := W0) hok ⟨y, s, hy, rfl, hA.go hB0⟩)
  obtain ⟨L2, hL2⟩ : ∃ L2 : Nat, L + 1 = L2 := ⟨_, rfl⟩
  obtain ⟨B2, hB2⟩ : ∃ B2 : Bd, B.low = B2 := ⟨_, rfl⟩
  rw [hL2, hB2] at hok2 ⊢
  have HT : Hid (∀ b W, BdAt W b B → Calls Tryz.prog 44 #[.agg #[b, .int .i64 k, .int .i64 L]] W fun e w' => ∃ v', e = .returned (.tuple #[.agg #[v', .int .i64 k, .int .i64 L2], .nilIface]) ∧ BdAt w' v' B2 ∧ Below W.heap.size W w') := by
    rw [← hB2, ← hL2]
    rw [Int.natCast_add]
    exact fun b W h => lowered_any b B k L W h hok hlv
  have HN : Hid (∀ b W, BdAt W b B2 → Calls Tryz.prog 40 #[.agg #[b, .int .i64 k, .int .i64 L2], .nilIface] W fun e w' => ∃ x, e = .returned (.tuple #[x, .int .i64 0]) ∧ SkB w' x k L2 B2 ∧ Below W.heap.size W w') := fun b W h => told_nil b B2 k L2 W h hok2
  have c0 : W0.cell? ⟨w.heap.size, 0, none⟩ = some (.int .i64 y.kind) := cell_of_cells hXp 0
  have c1 : W0.cell? ⟨w.heap.size, 1, none⟩ = some (.int .i64 y.level) := cell_of_cells hXp 1
  have c2 : W0.cell? ⟨w.heap.size, 2, none⟩ = some (.slice s.ea s.el s.ec) := cell_of_cells hXp 2
  have c3 : W0.cell? ⟨w.heap.size, 3, none⟩ = some (.int .i64 y.hb) := cell_of_cells hXp 3
  have c4 : W0.cell? ⟨w.heap.size, 4, none⟩ = some (.string y.hr) := cell_of_cells hXp 4
  have c5 : W0.cell? ⟨w.heap.size, 5, none⟩ = some (.int .i64 y.cr) := cell_of_cells hXp 5
  have c6 : W0.cell? ⟨w.heap.size, 6, none⟩ = some (.int .i64 y.cc) := cell_of_cells hXp 6
  have c7 : W0.cell? ⟨w.heap.size, 7, none⟩ = some (.slice s.ca s.cl s.cc) := cell_of_cells hXp 7
  have c8 : W0.cell? ⟨w.heap.size, 8, none⟩ = some (.int .i64 y.gf) := cell_of_cells hXp 8
  have c9 : W0.cell? ⟨w.heap.size, 9, none⟩ = some (.slice s.ga s.gl s.gc) := cell_of_cells hXp 9
  have HXR := Lib.hid hXr
  have HB0 := Lib.hid hB0
  clear hXp hXr hB0 hA hy hok hok2 hL2 hB2 hlv
  go_enter Tryz.func17, Tryz.ntmps17
  go_wp2_with fail
  refine HO.out.mono ?_
  rintro e w1 ⟨b, rfl, hb, hb1⟩
  obtain ⟨T, rv, rfl⟩ := bd_iface hb
  obtain ⟨W2, hW2, hX2, hB2, hs2⟩ := boxes1 w1 #[.iface T rv, .int .i64 k, .int .i64 L] 68
  have d0 : W2.cell? ⟨w1.heap.size, 0, none⟩ = some (.iface T rv) := cell_of_cells hX2 0
  have d1 : W2.cell? ⟨w1.heap.size, 1, none⟩ = some (.int .i64 k) := cell_of_cells hX2 1
  have d2 : W2.cell? ⟨w1.heap.size, 2, none⟩ = some (.int .i64 L) := cell_of_cells hX2 2
  have HT2 := Lib.hid (HT.out _ W2 (hb.go hB2))
  have HX2 := Lib.hid hX2
  have HB2 := Lib.hid hB2
  have HB1 := Lib.hid hb1
  clear hX2 hB2 hb1 hb
  go_wp2_with fail
  refine HT2.out.mono ?_
  rintro e w3 ⟨b3, rfl, hv3, hb3⟩
  obtain ⟨T3, rv3, rfl⟩ := bd_iface hv3
  have hX3 := known hb3 (Nat.le_refl _) HX2.out
  have p0 : w3.cell? ⟨w1.heap.size, 0, none⟩ = some (.iface T rv) := cell_of_cells hX3 0
  have p1 : w3.cell? ⟨w1.heap.size, 1, none⟩ = some (.int .i64 k) := cell_of_cells hX3 1
  have p2 : w3.cell? ⟨w1.heap.size, 2, none⟩ = some (.int .i64 L) := cell_of_cells hX3 2
  have g0 : w3.frozen? ⟨w1.heap.size, 0, none⟩ = false := frozen_of_cells hX3 0
  have g1 : w3.frozen? ⟨w1.heap.size, 1, none⟩ = false := frozen_of_cells hX3 1
  have g2 : w3.frozen? ⟨w1.heap.size, 2, none⟩ = false := frozen_of_cells hX3 2
  obtain ⟨V, hV, hVX, hVO, hVB⟩ := store3 (.iface T3 rv3) (.int .i64 k) (.int .i64 L2) hX3
  have HN2 := Lib.hid (HN.out _ V (BdAt.set_work hv3 hX3 (by simp) (by simp) (by simp) hVO))
  have hsz := HB1.out.size
  have HB3 : Hid (Below w.heap.size w V) := hVB _ _ (HB0.out.trans ((HB1.out.trans ((HB2.out.trans (hb3.mono HB2.out.size)).mono HB1.out.size)).mono HB0.out.size)) (by omega)
  have HR3 : Hid (V.heap[w.heap.size + 1]? = some (.cells #[.int .i64 0, .int .i64 0, .slice none 0 0, .int .i64 0, .string ⟨#[]⟩, .int .i64 0, .int .i64 0, .slice none 0 0, .int .i64 0, .slice none 0 0] 36 (0, 0))) := by
    refine (hVO.2 _ (by omega)).trans ?_
    exact known (HB1.out.trans ((HB2.out.trans (hb3.mono HB2.out.size)).mono HB1.out.size)) (Nat.le_refl _) HXR.out
  have q0 : V.cell? ⟨w1.heap.size, 0, none⟩ = some (.iface T3 rv3) := cell_of_cells hVX 0
  have q1 : V.cell? ⟨w1.heap.size, 1, none⟩ = some (.int .i64 k) := cell_of_cells hVX 1
  have q2 : V.cell? ⟨w1.heap.size, 2, none⟩ = some (.int .i64 L2) := cell_of_cells hVX 2
  clear hX3 hVX hVO hVB hv3 hb3
  go_wp2_with fail
  refine HN2.out.mono ?_
  rintro e w5 ⟨x, rfl, ⟨y5, s5, hy5, rfl, hA5⟩, hb5⟩
  have hR5 := known hb5 (Nat.le_refl _) HR3.out
  have r0 : w5.cell? ⟨w.heap.size + 1, 0, none⟩ = some (.int .i64 0) := cell_of_cells hR5 0
  have r1 : w5.cell? ⟨w.heap.size + 1, 1, none⟩ = some (.int .i64 0) := cell_of_cells hR5 1
  have r2 : w5.cell? ⟨w.heap.size + 1, 2, none⟩ = some (.slice none 0 0) := cell_of_cells hR5 2
  have r3 : w5.cell? ⟨w.heap.size + 1, 3, none⟩ = some (.int .i64 0) := cell_of_cells hR5 3
  have r4 : w5.cell? ⟨w.heap.size + 1, 4, none⟩ = some (.string ⟨#[]⟩) := cell_of_cells hR5 4
  have r5 : w5.cell? ⟨w.heap.size + 1, 5, none⟩ = some (.int .i64 0) := cell_of_cells hR5 5
  have r6 : w5.cell? ⟨w.heap.size + 1, 6, none⟩ = some (.int .i64 0) := cell_of_cells hR5 6
  have r7 : w5.cell? ⟨w.heap.size + 1, 7, none⟩ = some (.slice none 0 0) := cell_of_cells hR5 7
  have r8 : w5.cell? ⟨w.heap.size + 1, 8, none⟩ = some (.int .i64 0) := cell_of_cells hR5 8
  have r9 : w5.cell? ⟨w.heap.size + 1, 9, none⟩ = some (.slice none 0 0) := cell_of_cells hR5 9
  have f0 : w5.frozen? ⟨w.heap.size + 1, 0, none⟩ = false := frozen_of_cells hR5 0
  have f1 : w5.frozen? ⟨w.heap.size + 1, 1, none⟩ = false := frozen_of_cells hR5 1
  have f2 : w5.frozen? ⟨w.heap.size + 1, 2, none⟩ = false := frozen_of_cells hR5 2
  have f3 : w5.frozen? ⟨w.heap.size + 1, 3, none⟩ = false := frozen_of_cells hR5 3
  have f4 : w5.frozen? ⟨w.heap.size + 1, 4, none⟩ = false := frozen_of_cells hR5 4
  have f5 : w5.frozen? ⟨w.heap.size + 1, 5, none⟩ = false := frozen_of_cells hR5 5
  have f6 : w5.frozen? ⟨w.heap.size + 1, 6, none⟩ = false := frozen_of_cells hR5 6
  have f7 : w5.frozen? ⟨w.heap.size + 1, 7, none⟩ = false := frozen_of_cells hR5 7
  have f8 : w5.frozen? ⟨w.heap.size + 1, 8, none⟩ = false := frozen_of_cells hR5 8
  have f9 : w5.frozen? ⟨w.heap.size + 1, 9, none⟩ = false := frozen_of_cells hR5 9
  obtain ⟨U, hU, hUX, hUO, hUB⟩ := store10 (.int .i64 y5.kind) (.int .i64 y5.level) (.slice s5.ea s5.el s5.ec) (.int .i64 y5.hb) (.string y5.hr) (.int .i64 y5.cr) (.int .i64 y5.cc) (.slice s5.ca s5.cl s5.cc) (.int .i64 y5.gf) (.slice s5.ga s5.gl s5.gc) hR5
  have k0 : U.cell? ⟨w.heap.size + 1, 0, none⟩ = some (.int .i64 y5.kind) := cell_of_cells hUX 0
  have k1 : U.cell? ⟨w.heap.size + 1, 1, none⟩ = some (.int .i64 y5.level) := cell_of_cells hUX 1
  have k2 : U.cell? ⟨w.heap.size + 1, 2, none⟩ = some (.slice s5.ea s5.el s5.ec) := cell_of_cells hUX 2
  have k3 : U.cell? ⟨w.heap.size + 1, 3, none⟩ = some (.int .i64 y5.hb) := cell_of_cells hUX 3
  have k4 : U.cell? ⟨w.heap.size + 1, 4, none⟩ = some (.string y5.hr) := cell_of_cells hUX 4
  have k5 : U.cell? ⟨w.heap.size + 1, 5, none⟩ = some (.int .i64 y5.cr) := cell_of_cells hUX 5
  have k6 : U.cell? ⟨w.heap.size + 1, 6, none⟩ = some (.int .i64 y5.cc) := cell_of_cells hUX 6
  have k7 : U.cell? ⟨w.heap.size + 1, 7, none⟩ = some (.slice s5.ca s5.cl s5.cc) := cell_of_cells hUX 7
  have k8 : U.cell? ⟨w.heap.size + 1, 8, none⟩ = some (.int .i64 y5.gf) := cell_of_cells hUX 8
  have k9 : U.cell? ⟨w.heap.size + 1, 9, none⟩ = some (.slice s5.ga s5.gl s5.gc) := cell_of_cells hUX 9
  have HS2 : Hid (SkB U (.agg #[.int .i64 y5.kind, .int .i64 y5.level, .slice s5.ea s5.el s5.ec, .int .i64 y5.hb, .string y5.hr, .int .i64 y5.cr, .int .i64 y5.cc, .slice s5.ca s5.cl s5.cc, .int .i64 y5.gf, .slice s5.ga s5.gl s5.gc]) k L2 B2) := SkB.apart ⟨y5, s5, hy5, rfl, hA5⟩ hR5 (fun i u => noU_zero u) hUO
  have HBU : Hid (Below w.heap.size w U) := hUB _ _ (HB3.out.trans (hb5.mono HB3.out.size)) (by omega)
  clear hR5 hUX hUO hUB hy5 hA5 hb5
  go_wp2_with fail
  exact bodyPost_ret (v := .tuple #[.agg #[.int .i64 y5.kind, .int .i64 y5.level, .slice s5.ea s5.el s5.ec, .int .i64 y5.hb, .string y5.hr, .int .i64 y5.cr, .int .i64 y5.cc, .slice s5.ca s5.cl s5.cc, .int .i64 y5.gf, .slice s5.ga s5.gl s5.gc], .int .i64 0]) (by simp [results, Tryz.f17, go_sem, k0, k1, k2, k3, k4, k5, k6, k7, k8, k9]) rfl ⟨_, rfl, HS2.out, HBU.out⟩
end Go.Proofs.YtmkefodaibmkhaaGreatDoor
namespace Go.Proofs.YtmkefodaibmkhaaGreatDoor
open Go Go.RowKit Go.Shelf

set_option maxRecDepth 100000 in
set_option maxHeartbeats 2000000 in
theorem Add_any {k L : Nat} {h : Nat} {n : Int} {B : Bd} {v : Value} {w : World} (hok : B.Ok k L) (hh : h < 2 ^ 64) (hn : U64 n) (hg : GT w) (hv : SkB w v k L B) :
    Calls Tryz.prog 25 #[v, .agg #[.int .u64 h, .int .u64 n]] w fun e w' => ∃ x, e = .returned (.tuple #[x, .int .i64 0]) ∧ SkB w' x k (wkAdd (L, B) (h, n)).1 (wkAdd (L, B) (h, n)).2 ∧ Below w.heap.size w w' := by
  have hok2 : ((wkAdd (L, B) (h, n)).2).Ok k ((wkAdd (L, B) (h, n)).1) := (wkAdd_ok (s := (L, B)) (i := (h, n)) hok ⟨hh, hn⟩).1
  obtain ⟨y, s, hy, rfl, hA⟩ := hv
  obtain ⟨W0, hW0, hXp, hXi, hXr, hB0, hs0⟩ := boxes3 w #[.int .i64 y.kind, .int .i64 y.level, .slice s.ea s.el s.ec, .int .i64 y.hb, .string y.hr, .int .i64 y.cr, .int .i64 y.cc, .slice s.ca s.cl s.cc, .int .i64 y.gf, .slice s.ga s.gl s.gc] 36 #[.int .u64 h, .int .u64 n] 52 #[.int .i64 0, .int .i64 0, .slice none 0 0, .int .i64 0, .string ⟨#[]⟩, .int .i64 0, .int .i64 0, .slice none 0 0, .int .i64 0, .slice none 0 0] 36
  have HXI := Lib.hid hXi
  have HO := Lib.hid (open_sk_any (w := W0) hok ⟨y, s, hy, rfl, hA.go hB0⟩)
  obtain ⟨L2, hL2⟩ : ∃ L2 : Nat, (wkAdd (L, B) (h, n)).1 = L2 := ⟨_, rfl⟩
  obtain ⟨B2, hB2⟩ : ∃ B2 : Bd, (wkAdd (L, B) (h, n)).2 = B2 := ⟨_, rfl⟩
  rw [hL2, hB2] at hok2 ⊢
  have HT : Hid (∀ b g W, BdAt W b B → W.heap[g]? = some (.cells #[.int .u64 h, .int .u64 n] 52 (0, 0)) → GT W → Calls Tryz.prog 58 #[.agg #[b, .int .i64 k, .int .i64 L], .slice (some ⟨g, 0, none⟩) 1 1] W fun e w' => ∃ v', e = .returned (.tuple #[.agg #[v', .int .i64 k, .int .i64 L2], .nilIface]) ∧ BdAt w' v' B2 ∧ Below W.heap.size W w') := by
    rw [← hB2, ← hL2]
    exact fun b g W h hI hg => with_item b B k L _ g n W h hok hI hh hn hg
  have HN : Hid (∀ b W, BdAt W b B2 → Calls Tryz.prog 40 #[.agg #[b, .int .i64 k, .int .i64 L2], .nilIface] W fun e w' => ∃ x, e = .returned (.tuple #[x, .int .i64 0]) ∧ SkB w' x k L2 B2 ∧ Below W.heap.size W w') := fun b W h => told_nil b B2 k L2 W h hok2
  have c0 : W0.cell? ⟨w.heap.size, 0, none⟩ = some (.int .i64 y.kind) := cell_of_cells hXp 0
  have c1 : W0.cell? ⟨w.heap.size, 1, none⟩ = some (.int .i64 y.level) := cell_of_cells hXp 1
  have c2 : W0.cell? ⟨w.heap.size, 2, none⟩ = some (.slice s.ea s.el s.ec) := cell_of_cells hXp 2
  have c3 : W0.cell? ⟨w.heap.size, 3, none⟩ = some (.int .i64 y.hb) := cell_of_cells hXp 3
  have c4 : W0.cell? ⟨w.heap.size, 4, none⟩ = some (.string y.hr) := cell_of_cells hXp 4
  have c5 : W0.cell? ⟨w.heap.size, 5, none⟩ = some (.int .i64 y.cr) := cell_of_cells hXp 5
  have c6 : W0.cell? ⟨w.heap.size, 6, none⟩ = some (.int .i64 y.cc) := cell_of_cells hXp 6
  have c7 : W0.cell? ⟨w.heap.size, 7, none⟩ = some (.slice s.ca s.cl s.cc) := cell_of_cells hXp 7
  have c8 : W0.cell? ⟨w.heap.size, 8, none⟩ = some (.int .i64 y.gf) := cell_of_cells hXp 8
  have c9 : W0.cell? ⟨w.heap.size, 9, none⟩ = some (.slice s.ga s.gl s.gc) := cell_of_cells hXp 9
  have HGT := Lib.hid (hg.go hB0)
  have HXR := Lib.hid hXr
  have HB0 := Lib.hid hB0
  clear hXp hXr hB0 hA hy hok hok2 hL2 hB2 hXi hh hn hg
  go_enter Tryz.func25, Tryz.ntmps25
  go_wp2_with fail
  refine HO.out.mono ?_
  rintro e w1 ⟨b, rfl, hb, hb1⟩
  obtain ⟨T, rv, rfl⟩ := bd_iface hb
  obtain ⟨W2, hW2, hX2, hB2, hs2⟩ := boxes1 w1 #[.iface T rv, .int .i64 k, .int .i64 L] 68
  have d0 : W2.cell? ⟨w1.heap.size, 0, none⟩ = some (.iface T rv) := cell_of_cells hX2 0
  have d1 : W2.cell? ⟨w1.heap.size, 1, none⟩ = some (.int .i64 k) := cell_of_cells hX2 1
  have d2 : W2.cell? ⟨w1.heap.size, 2, none⟩ = some (.int .i64 L) := cell_of_cells hX2 2
  have hI2 := known (hb1.trans (hB2.mono hb1.size)) (Nat.le_refl _) HXI.out
  have i0 : W2.cell? ⟨w.heap.size + 1, 0, none⟩ = some (.int .u64 h) := cell_of_cells hI2 0
  have i1 : W2.cell? ⟨w.heap.size + 1, 1, none⟩ = some (.int .u64 n) := cell_of_cells hI2 1
  obtain ⟨W3, hW3, hX3, hB3, hs3⟩ := boxes1 W2 #[.int .u64 h, .int .u64 n] 52
  rw [hs2] at hX3
  have HT2 := Lib.hid (HT.out _ _ W3 ((hb.go hB2).go hB3) hX3 ((HGT.out.go hb1).go (hB2.trans (hB3.mono hB2.size))))
  have HX2 := Lib.hid (known hB3 (Nat.le_refl _) hX2)
  have HB2 : Hid (Below w1.heap.size w1 W3) := hB2.trans (hB3.mono hB2.size)
  have HB1 := Lib.hid hb1
  clear hX2 hB2 hb1 hb hI2 hX3 hB3
  go_wp2_with fail
  refine HT2.out.mono ?_
  rintro e w3 ⟨b3, rfl, hv3, hb3⟩
  obtain ⟨T3, rv3, rfl⟩ := bd_iface hv3
  have hX3 := known hb3 (Nat.le_refl _) HX2.out
  have p0 : w3.cell? ⟨w1.heap.size, 0, none⟩ = some (.iface T rv) := cell_of_cells hX3 0
  have p1 : w3.cell? ⟨w1.heap.size, 1, none⟩ = some (.int .i64 k) := cell_of_cells hX3 1
  have p2 : w3.cell? ⟨w1.heap.size, 2, none⟩ = some (.int .i64 L) := cell_of_cells hX3 2
  have g0 : w3.frozen? ⟨w1.heap.size, 0, none⟩ = false := frozen_of_cells hX3 0
  have g1 : w3.frozen? ⟨w1.heap.size, 1, none⟩ = false := frozen_of_cells hX3 1
  have g2 : w3.frozen? ⟨w1.heap.size, 2, none⟩ = false := frozen_of_cells hX3 2
  obtain ⟨V, hV, hVX, hVO, hVB⟩ := store3 (.iface T3 rv3) (.int .i64 k) (.int .i64 L2) hX3
  have HN2 := Lib.hid (HN.out _ V (BdAt.set_work hv3 hX3 (by simp) (by simp) (by simp) hVO))
  have hsz := HB1.out.size
  have HB3 : Hid (Below w.heap.size w V) := hVB _ _ (HB0.out.trans ((HB1.out.trans ((HB2.out.trans (hb3.mono HB2.out.size)).mono HB1.out.size)).mono HB0.out.size)) (by omega)
  have HR3 : Hid (V.heap[w.heap.size + 2]? = some (.cells #[.int .i64 0, .int .i64 0, .slice none 0 0, .int .i64 0, .string ⟨#[]⟩, .int .i64 0, .int .i64 0, .slice none 0 0, .int .i64 0, .slice none 0 0] 36 (0, 0))) := by
    refine (hVO.2 _ (by omega)).trans ?_
    exact known (HB1.out.trans ((HB2.out.trans (hb3.mono HB2.out.size)).mono HB1.out.size)) (Nat.le_refl _) HXR.out
  have q0 : V.cell? ⟨w1.heap.size, 0, none⟩ = some (.iface T3 rv3) := cell_of_cells hVX 0
  have q1 : V.cell? ⟨w1.heap.size, 1, none⟩ = some (.int .i64 k) := cell_of_cells hVX 1
  have q2 : V.cell? ⟨w1.heap.size, 2, none⟩ = some (.int .i64 L2) := cell_of_cells hVX 2
  clear hX3 hVX hVO hVB hv3 hb3
  go_wp2_with fail
  refine HN2.out.mono ?_
  rintro e w5 ⟨x, rfl, ⟨y5, s5, hy5, rfl, hA5⟩, hb5⟩
  have hR5 := known hb5 (Nat.le_refl _) HR3.out
  have r0 : w5.cell? ⟨w.heap.size + 2, 0, none⟩ = some (.int .i64 0) := cell_of_cells hR5 0
  have r1 : w5.cell? ⟨w.heap.size + 2, 1, none⟩ = some (.int .i64 0) := cell_of_cells hR5 1
  have r2 : w5.cell? ⟨w.heap.size + 2, 2, none⟩ = some (.slice none 0 0) := cell_of_cells hR5 2
  have r3 : w5.cell? ⟨w.heap.size + 2, 3, none⟩ = some (.int .i64 0) := cell_of_cells hR5 3
  have r4 : w5.cell? ⟨w.heap.size + 2, 4, none⟩ = some (.string ⟨#[]⟩) := cell_of_cells hR5 4
  have r5 : w5.cell? ⟨w.heap.size + 2, 5, none⟩ = some (.int .i64 0) := cell_of_cells hR5 5
  have r6 : w5.cell? ⟨w.heap.size + 2, 6, none⟩ = some (.int .i64 0) := cell_of_cells hR5 6
  have r7 : w5.cell? ⟨w.heap.size + 2, 7, none⟩ = some (.slice none 0 0) := cell_of_cells hR5 7
  have r8 : w5.cell? ⟨w.heap.size + 2, 8, none⟩ = some (.int .i64 0) := cell_of_cells hR5 8
  have r9 : w5.cell? ⟨w.heap.size + 2, 9, none⟩ = some (.slice none 0 0) := cell_of_cells hR5 9
  have f0 : w5.frozen? ⟨w.heap.size + 2, 0, none⟩ = false := frozen_of_cells hR5 0
  have f1 : w5.frozen? ⟨w.heap.size + 2, 1, none⟩ = false := frozen_of_cells hR5 1
  have f2 : w5.frozen? ⟨w.heap.size + 2, 2, none⟩ = false := frozen_of_cells hR5 2
  have f3 : w5.frozen? ⟨w.heap.size + 2, 3, none⟩ = false := frozen_of_cells hR5 3
  have f4 : w5.frozen? ⟨w.heap.size + 2, 4, none⟩ = false := frozen_of_cells hR5 4
  have f5 : w5.frozen? ⟨w.heap.size + 2, 5, none⟩ = false := frozen_of_cells hR5 5
  have f6 : w5.frozen? ⟨w.heap.size + 2, 6, none⟩ = false := frozen_of_cells hR5 6
  have f7 : w5.frozen? ⟨w.heap.size + 2, 7, none⟩ = false := frozen_of_cells hR5 7
  have f8 : w5.frozen? ⟨w.heap.size + 2, 8, none⟩ = false := frozen_of_cells hR5 8
  have f9 : w5.frozen? ⟨w.heap.size + 2, 9, none⟩ = false := frozen_of_cells hR5 9
  obtain ⟨U, hU, hUX, hUO, hUB⟩ := store10 (.int .i64 y5.kind) (.int .i64 y5.level) (.slice s5.ea s5.el s5.ec) (.int .i64 y5.hb) (.string y5.hr) (.int .i64 y5.cr) (.int .i64 y5.cc) (.slice s5.ca s5.cl s5.cc) (.int .i64 y5.gf) (.slice s5.ga s5.gl s5.gc) hR5
  have k0 : U.cell? ⟨w.heap.size + 2, 0, none⟩ = some (.int .i64 y5.kind) := cell_of_cells hUX 0
  have k1 : U.cell? ⟨w.heap.size + 2, 1, none⟩ = some (.int .i64 y5.level) := cell_of_cells hUX 1
  have k2 : U.cell? ⟨w.heap.size + 2, 2, none⟩ = some (.slice s5.ea s5.el s5.ec) := cell_of_cells hUX 2
  have k3 : U.cell? ⟨w.heap.size + 2, 3, none⟩ = some (.int .i64 y5.hb) := cell_of_cells hUX 3
  have k4 : U.cell? ⟨w.heap.size + 2, 4, none⟩ = some (.string y5.hr) := cell_of_cells hUX 4
  have k5 : U.cell? ⟨w.heap.size + 2, 5, none⟩ = some (.int .i64 y5.cr) := cell_of_cells hUX 5
  have k6 : U.cell? ⟨w.heap.size + 2, 6, none⟩ = some (.int .i64 y5.cc) := cell_of_cells hUX 6
  have k7 : U.cell? ⟨w.heap.size + 2, 7, none⟩ = some (.slice s5.ca s5.cl s5.cc) := cell_of_cells hUX 7
  have k8 : U.cell? ⟨w.heap.size + 2, 8, none⟩ = some (.int .i64 y5.gf) := cell_of_cells hUX 8
  have k9 : U.cell? ⟨w.heap.size + 2, 9, none⟩ = some (.slice s5.ga s5.gl s5.gc) := cell_of_cells hUX 9
  have HS2 : Hid (SkB U (.agg #[.int .i64 y5.kind, .int .i64 y5.level, .slice s5.ea s5.el s5.ec, .int .i64 y5.hb, .string y5.hr, .int .i64 y5.cr, .int .i64 y5.cc, .slice s5.ca s5.cl s5.cc, .int .i64 y5.gf, .slice s5.ga s5.gl s5.gc]) k L2 B2) := SkB.apart ⟨y5, s5, hy5, rfl, hA5⟩ hR5 (fun i u => noU_zero u) hUO
  have HBU : Hid (Below w.heap.size w U) := hUB _ _ (HB3.out.trans (hb5.mono HB3.out.size)) (by omega)
  clear hR5 hUX hUO hUB hy5 hA5 hb5
  go_wp2_with fail
  exact bodyPost_ret (v := .tuple #[.agg #[.int .i64 y5.kind, .int .i64 y5.level, .slice s5.ea s5.el s5.ec, .int .i64 y5.hb, .string y5.hr, .int .i64 y5.cr, .int .i64 y5.cc, .slice s5.ca s5.cl s5.cc, .int .i64 y5.gf, .slice s5.ga s5.gl s5.gc], .int .i64 0]) (by simp [results, Tryz.f25, go_sem, k0, k1, k2, k3, k4, k5, k6, k7, k8, k9]) rfl ⟨_, rfl, HS2.out, HBU.out⟩
end Go.Proofs.YtmkefodaibmkhaaGreatDoor

/- Package ladder: merged. Package ladder: Merge on sketches at work. -/
import Derived.Test.YtmkefodaibmkhaaGreatDoorZMH
namespace Go.Proofs.YtmkefodaibmkhaaGreatDoor
open Go Go.RowKit Go.Shelf

set_option maxRecDepth 100000 in
set_option maxHeartbeats 2000000 in
theorem merged_some (v1 v2 : Value) (B1 B2 B : Bd) (kind L1 L2 u : Nat) (w : World) (hb1 : BdAt w v1 B1) (hb2 : BdAt w v2 B2) (hok1 : B1.Ok kind L1) (hok2 : B2.Ok kind L2) (hu : max L1 L2 = u) (hub : u ≤ botN kind) (he : (wkTo (L1, B1) u).2.merge (wkTo (L2, B2) u).2 = some B) :
    Calls Tryz.prog 49 #[.agg #[v1, .int .i64 kind, .int .i64 L1], .agg #[v2, .int .i64 kind, .int .i64 L2]] w fun e w' => ∃ v, e = .returned (.tuple #[.agg #[v, .int .i64 kind, .int .i64 u], .nilIface]) ∧ BdAt w' v B ∧ Below w.heap.size w w' := by
  obtain ⟨T1, rv1, rfl⟩ := bd_iface hb1
  obtain ⟨T2, rv2, rfl⟩ := bd_iface hb2
  have o1 : (wkTo (L1, B1) u).2.Ok kind u := by
    have h := wkTo_ok u hub _ (L1, B1) rfl hok1
    have e : (wkTo (L1, B1) u).1 = u := h.2.trans (by show max L1 u = u; omega)
    have h1 := h.1
    rwa [e] at h1
  have o2 : (wkTo (L2, B2) u).2.Ok kind u := by
    have h := wkTo_ok u hub _ (L2, B2) rfl hok2
    have e : (wkTo (L2, B2) u).1 = u := h.2.trans (by show max L2 u = u; omega)
    have h1 := h.1
    rwa [e] at h1
  have HEV : Hid (∀ W, BdAt W (.iface T1 rv1) B1 → BdAt W (.iface T2 rv2) B2 → Calls Tryz.prog 85 #[.agg #[.iface T1 rv1, .int .i64 kind, .int .i64 L1], .agg #[.iface T2 rv2, .int .i64 kind, .int .i64 L2], .int .i64 u] W fun e w' => ∃ u1 u2, e = .returned (.tuple #[.agg #[u1, .int .i64 kind, .int .i64 u], .agg #[u2, .int .i64 kind, .int .i64 u], .nilIface]) ∧ BdAt w' u1 (wkTo (L1, B1) u).2 ∧ BdAt w' u2 (wkTo (L2, B2) u).2 ∧ Below W.heap.size W w') := fun W h1 h2 => even_any _ _ B1 B2 kind L1 L2 u W h1 h2 hok1 hok2 (by omega) (by omega) hub
  generalize (wkTo (L1, B1) u).2 = D1 at HEV o1 he
  generalize (wkTo (L2, B2) u).2 = D2 at HEV o2 he
  obtain ⟨W0, hW0, hXa, hXb, hXr, hB0, hs0⟩ := boxes3 w #[.iface T1 rv1, .int .i64 kind, .int .i64 L1] 68 #[.iface T2 rv2, .int .i64 kind, .int .i64 L2] 68 #[.nilIface, .int .i64 0, .int .i64 0] 68
  have c0 : W0.cell? ⟨w.heap.size, 0, none⟩ = some (.iface T1 rv1) := cell_of_cells hXa 0
  have c1 : W0.cell? ⟨w.heap.size, 1, none⟩ = some (.int .i64 kind) := cell_of_cells hXa 1
  have c2 : W0.cell? ⟨w.heap.size, 2, none⟩ = some (.int .i64 L1) := cell_of_cells hXa 2
  have d0 : W0.cell? ⟨w.heap.size + 1, 0, none⟩ = some (.iface T2 rv2) := cell_of_cells hXb 0
  have d1 : W0.cell? ⟨w.heap.size + 1, 1, none⟩ = some (.int .i64 kind) := cell_of_cells hXb 1
  have d2 : W0.cell? ⟨w.heap.size + 1, 2, none⟩ = some (.int .i64 L2) := cell_of_cells hXb 2
  have HEV := Lib.hid (HEV.out W0 (hb1.go hB0) (hb2.go hB0))
  have emx : max (L1 : Int) (L2 : Int) = (u : Int) := by omega
  have HXA := Lib.hid hXa
  have HXB := Lib.hid hXb
  have HXR := Lib.hid hXr
  have HB0 := Lib.hid hB0
  have HO : Hid (D1.Ok kind u ∧ D2.Ok kind u) := ⟨o1, o2⟩
  have HM := Lib.hid he
  clear hXa hXb hXr hB0 hb1 hb2 hok1 hok2 hu hub he o1 o2
  go_enter Tryz.func49, Tryz.ntmps49
  go_wp2_with fail
  refine HEV.out.mono ?_
  rintro e w2 ⟨u1, u2, rfl, hu1, hu2, hb02⟩
  obtain ⟨S1, rs1, f, rfl, hm, hcf, hc⟩ := merge_at_any hu1 HO.out.1
  obtain ⟨S2, rs2, rfl⟩ := bd_iface hu2
  have hA2 := known hb02 (Nat.le_refl _) HXA.out
  have hB2 := known hb02 (Nat.le_refl _) HXB.out
  have hR2 := known hb02 (Nat.le_refl _) HXR.out
  have p0 : w2.cell? ⟨w.heap.size, 0, none⟩ = some (.iface T1 rv1) := cell_of_cells hA2 0
  have p1 : w2.cell? ⟨w.heap.size, 1, none⟩ = some (.int .i64 kind) := cell_of_cells hA2 1
  have p2 : w2.cell? ⟨w.heap.size, 2, none⟩ = some (.int .i64 L1) := cell_of_cells hA2 2
  have g0 : w2.frozen? ⟨w.heap.size, 0, none⟩ = false := frozen_of_cells hA2 0
  have g1 : w2.frozen? ⟨w.heap.size, 1, none⟩ = false := frozen_of_cells hA2 1
  have g2 : w2.frozen? ⟨w.heap.size, 2, none⟩ = false := frozen_of_cells hA2 2
  obtain ⟨V1, hV1, hX1, hO1, hQ1⟩ := store3 (.iface S1 rs1) (.int .i64 kind) (.int .i64 u) hA2
  have hB1 := (hO1.2 (w.heap.size + 1) (by omega)).trans hB2
  have hR1 := (hO1.2 (w.heap.size + 2) (by omega)).trans hR2
  have q0 : V1.cell? ⟨w.heap.size + 1, 0, none⟩ = some (.iface T2 rv2) := cell_of_cells hB1 0
  have q1 : V1.cell? ⟨w.heap.size + 1, 1, none⟩ = some (.int .i64 kind) := cell_of_cells hB1 1
  have q2 : V1.cell? ⟨w.heap.size + 1, 2, none⟩ = some (.int .i64 L2) := cell_of_cells hB1 2
  have h0 : V1.frozen? ⟨w.heap.size + 1, 0, none⟩ = false := frozen_of_cells hB1 0
  have h1 : V1.frozen? ⟨w.heap.size + 1, 1, none⟩ = false := frozen_of_cells hB1 1
  have h2 : V1.frozen? ⟨w.heap.size + 1, 2, none⟩ = false := frozen_of_cells hB1 2
  obtain ⟨V2, hV2, hX2, hO2, hQ2⟩ := store3 (.iface S2 rs2) (.int .i64 kind) (.int .i64 u) hB1
  have hA3 := (hO2.2 w.heap.size (by omega)).trans hX1
  have hR3 := (hO2.2 (w.heap.size + 2) (by omega)).trans hR1
  have hBV : Below w.heap.size w V2 := hQ2 _ _ (hQ1 _ _ (HB0.out.trans (hb02.mono HB0.out.size)) (Nat.le_refl _)) (Nat.le_succ _)
  have k1 : BdAt V2 (.iface S1 rs1) D1 := BdAt.set_work (BdAt.set_work hu1 hA2 (by simp) (by simp) (by simp) hO1) hB1 (by simp) (by simp) (by simp) hO2
  have k2 : BdAt V2 (.iface S2 rs2) D2 := BdAt.set_work (BdAt.set_work hu2 hA2 (by simp) (by simp) (by simp) hO1) hB1 (by simp) (by simp) (by simp) hO2
  have hC := hc V2 (.iface S2 rs2) D2 k1 k2 HO.out.2
  rw [HM.out] at hC
  have HC := Lib.hid hC
  have x0 : V2.cell? ⟨w.heap.size, 0, none⟩ = some (.iface S1 rs1) := cell_of_cells hA3 0
  have x1 : V2.cell? ⟨w.heap.size, 1, none⟩ = some (.int .i64 kind) := cell_of_cells hA3 1
  have x2 : V2.cell? ⟨w.heap.size, 2, none⟩ = some (.int .i64 u) := cell_of_cells hA3 2
  have y0 : V2.cell? ⟨w.heap.size + 1, 0, none⟩ = some (.iface S2 rs2) := cell_of_cells hX2 0
  have y1 : V2.cell? ⟨w.heap.size + 1, 1, none⟩ = some (.int .i64 kind) := cell_of_cells hX2 1
  have y2 : V2.cell? ⟨w.heap.size + 1, 2, none⟩ = some (.int .i64 u) := cell_of_cells hX2 2
  have HA3 := Lib.hid hA3
  have HR3 := Lib.hid hR3
  have HBV := Lib.hid hBV
  clear hc hC hA2 hB2 hR2 hX1 hO1 hQ1 hB1 hR1 hX2 hO2 hQ2 hA3 hR3 hBV k1 k2 hu1 hu2 hb02
  go_wp2_with fail
  refine HC.out.mono ?_
  rintro e w3 ⟨hb3, v3, rfl, hv3⟩
  obtain ⟨T3, rv3, rfl⟩ := bd_iface hv3
  have HF := Lib.hid (isFull_nil w3)
  go_wp2_with fail
  refine HF.out.mono ?_
  rintro e w4 ⟨rfl, hb4⟩
  have hb34 := hb3.trans (hb4.mono hb3.size)
  have hA4 := known hb34 (Nat.le_refl _) HA3.out
  have hR4 := known hb34 (Nat.le_refl _) HR3.out
  have hB4 := HBV.out.trans (hb34.mono HBV.out.size)
  have r0 : w4.cell? ⟨w.heap.size, 0, none⟩ = some (.iface S1 rs1) := cell_of_cells hA4 0
  have r1 : w4.cell? ⟨w.heap.size, 1, none⟩ = some (.int .i64 kind) := cell_of_cells hA4 1
  have r2 : w4.cell? ⟨w.heap.size, 2, none⟩ = some (.int .i64 u) := cell_of_cells hA4 2
  have s0 : w4.frozen? ⟨w.heap.size, 0, none⟩ = false := frozen_of_cells hA4 0
  have s1 : w4.frozen? ⟨w.heap.size, 1, none⟩ = false := frozen_of_cells hA4 1
  have s2 : w4.frozen? ⟨w.heap.size, 2, none⟩ = false := frozen_of_cells hA4 2
  obtain ⟨U, hU⟩ : ∃ U, w4.setCell ⟨w.heap.size, 0, none⟩ (.iface T3 rv3) = U := ⟨_, rfl⟩
  have hXU : U.heap[w.heap.size]? = some (.cells #[.iface T3 rv3, .int .i64 kind, .int .i64 u] 68 (0, 0)) := by rw [← hU]; exact heap_set_known hA4 (.iface T3 rv3)
  have hOU : OnlyAt w.heap.size w4 U := by rw [← hU]; exact (OnlyAt.refl _ _).set _ _
  have hBU : Below w.heap.size w U := by rw [← hU]; exact hB4.setCell (p := ⟨w.heap.size, 0, none⟩) (Nat.le_refl _) _
  have hRU := (hOU.2 (w.heap.size + 2) (by omega)).trans hR4
  have hbU : BdAt U (.iface T3 rv3) B := BdAt.set_work (hv3.go hb4) hA4 (by simp) (by simp) (by simp) hOU
  have l0 : U.cell? ⟨w.heap.size, 0, none⟩ = some (.iface T3 rv3) := cell_of_cells hXU 0
  have l1 : U.cell? ⟨w.heap.size, 1, none⟩ = some (.int .i64 kind) := cell_of_cells hXU 1
  have l2 : U.cell? ⟨w.heap.size, 2, none⟩ = some (.int .i64 u) := cell_of_cells hXU 2
  have n0 : U.cell? ⟨w.heap.size + 2, 0, none⟩ = some (.nilIface) := cell_of_cells hRU 0
  have n1 : U.cell? ⟨w.heap.size + 2, 1, none⟩ = some (.int .i64 0) := cell_of_cells hRU 1
  have n2 : U.cell? ⟨w.heap.size + 2, 2, none⟩ = some (.int .i64 0) := cell_of_cells hRU 2
  have z0 : U.frozen? ⟨w.heap.size + 2, 0, none⟩ = false := frozen_of_cells hRU 0
  have z1 : U.frozen? ⟨w.heap.size + 2, 1, none⟩ = false := frozen_of_cells hRU 1
  have z2 : U.frozen? ⟨w.heap.size + 2, 2, none⟩ = false := frozen_of_cells hRU 2
  obtain ⟨V5, hV5, hX5, hO5, hQ5⟩ := store3 (b := w.heap.size + 1 + 1) (.iface T3 rv3) (.int .i64 kind) (.int .i64 u) hRU
  have k0 : V5.cell? ⟨w.heap.size + 1 + 1, 0, none⟩ = some (.iface T3 rv3) := cell_of_cells hX5 0
  have k1 : V5.cell? ⟨w.heap.size + 1 + 1, 1, none⟩ = some (.int .i64 kind) := cell_of_cells hX5 1
  have k2 : V5.cell? ⟨w.heap.size + 1 + 1, 2, none⟩ = some (.int .i64 u) := cell_of_cells hX5 2
  have HE : Hid (BdAt V5 (.iface T3 rv3) B ∧ Below w.heap.size w V5) := ⟨BdAt.set_work hbU hRU (by simp) (by simp) (by simp) hO5, hQ5 _ _ hBU (by omega)⟩
  clear hm hcf hA4 hR4 hB4 hb34 hb3 hb4 hv3 hXU hOU hBU hRU hbU hX5 hO5 hQ5
  go_wp2_with fail
  exact bodyPost_ret (v := .tuple #[.agg #[.iface T3 rv3, .int .i64 kind, .int .i64 u], .nilIface]) (by simp [results, Tryz.f49, go_sem, k0, k1, k2]) rfl ⟨_, rfl, HE.out.1, HE.out.2⟩
set_option maxRecDepth 100000 in
set_option maxHeartbeats 2000000 in
theorem merged_none (v1 v2 : Value) (B1 B2 B : Bd) (kind L1 L2 u : Nat) (w : World) (hb1 : BdAt w v1 B1) (hb2 : BdAt w v2 B2) (hok1 : B1.Ok kind L1) (hok2 : B2.Ok kind L2) (hu : max L1 L2 = u) (hub : u ≤ botN kind) (hub1 : u < botN kind) (hg : GT w) (he : (wkTo (L1, B1) u).2.merge (wkTo (L2, B2) u).2 = none) (he2 : (wkTo (L1, B1) u).2.low.merge (wkTo (L2, B2) u).2.low = some B) :
    Calls Tryz.prog 49 #[.agg #[v1, .int .i64 kind, .int .i64 L1], .agg #[v2, .int .i64 kind, .int .i64 L2]] w fun e w' => ∃ v, e = .returned (.tuple #[.agg #[v, .int .i64 kind, .int .i64 ((u : Int) + 1)], .nilIface]) ∧ BdAt w' v B ∧ Below w.heap.size w w' := by
  obtain ⟨T1, rv1, rfl⟩ := bd_iface hb1
  obtain ⟨T2, rv2, rfl⟩ := bd_iface hb2
  have o1 : (wkTo (L1, B1) u).2.Ok kind u := by
    have h := wkTo_ok u hub _ (L1, B1) rfl hok1
    have e : (wkTo (L1, B1) u).1 = u := h.2.trans (by show max L1 u = u; omega)
    have h1 := h.1
    rwa [e] at h1
  have o2 : (wkTo (L2, B2) u).2.Ok kind u := by
    have h := wkTo_ok u hub _ (L2, B2) rfl hok2
    have e : (wkTo (L2, B2) u).1 = u := h.2.trans (by show max L2 u = u; omega)
    have h1 := h.1
    rwa [e] at h1
  have HEV : Hid (∀ W, BdAt W (.iface T1 rv1) B1 → BdAt W (.iface T2 rv2) B2 → Calls Tryz.prog 85 #[.agg #[.iface T1 rv1, .int .i64 kind, .int .i64 L1], .agg #[.iface T2 rv2, .int .i64 kind, .int .i64 L2], .int .i64 u] W fun e w' => ∃ u1 u2, e = .returned (.tuple #[.agg #[u1, .int .i64 kind, .int .i64 u], .agg #[u2, .int .i64 kind, .int .i64 u], .nilIface]) ∧ BdAt w' u1 (wkTo (L1, B1) u).2 ∧ BdAt w' u2 (wkTo (L2, B2) u).2 ∧ Below W.heap.size W w') := fun W h1 h2 => even_any _ _ B1 B2 kind L1 L2 u W h1 h2 hok1 hok2 (by omega) (by omega) hub
  generalize (wkTo (L1, B1) u).2 = D1 at HEV o1 he he2
  generalize (wkTo (L2, B2) u).2 = D2 at HEV o2 he he2
  obtain ⟨W0, hW0, hXa, hXb, hXr, hB0, hs0⟩ := boxes3 w #[.iface T1 rv1, .int .i64 kind, .int .i64 L1] 68 #[.iface T2 rv2, .int .i64 kind, .int .i64 L2] 68 #[.nilIface, .int .i64 0, .int .i64 0] 68
  have c0 : W0.cell? ⟨w.heap.size, 0, none⟩ = some (.iface T1 rv1) := cell_of_cells hXa 0
  have c1 : W0.cell? ⟨w.heap.size, 1, none⟩ = some (.int .i64 kind) := cell_of_cells hXa 1
  have c2 : W0.cell? ⟨w.heap.size, 2, none⟩ = some (.int .i64 L1) := cell_of_cells hXa 2
  have d0 : W0.cell? ⟨w.heap.size + 1, 0, none⟩ = some (.iface T2 rv2) := cell_of_cells hXb 0
  have d1 : W0.cell? ⟨w.heap.size + 1, 1, none⟩ = some (.int .i64 kind) := cell_of_cells hXb 1
  have d2 : W0.cell? ⟨w.heap.size + 1, 2, none⟩ = some (.int .i64 L2) := cell_of_cells hXb 2
  have HEV := Lib.hid (HEV.out W0 (hb1.go hB0) (hb2.go hB0))
  have emx : max (L1 : Int) (L2 : Int) = (u : Int) := by omega
  have HXA := Lib.hid hXa
  have HXB := Lib.hid hXb
  have HXR := Lib.hid hXr
  have HB0 := Lib.hid hB0
  have HO : Hid (D1.Ok kind u ∧ D2.Ok kind u) := ⟨o1, o2⟩
  have HM := Lib.hid he
  have HM2 := Lib.hid he2
  have HGT := Lib.hid hg
  have HUB : Hid (u < botN kind) := hub1
  have hu4 : u ≤ 4 := by have : botN kind ≤ 4 := (by unfold botN; split <;> omega); omega
  clear hXa hXb hXr hB0 hb1 hb2 hok1 hok2 hu hub he he2 hg hub1 o1 o2
  go_enter Tryz.func49, Tryz.ntmps49
  go_wp2_with fail
  refine HEV.out.mono ?_
  rintro e w2 ⟨u1, u2, rfl, hu1, hu2, hb02⟩
  obtain ⟨S1, rs1, f, rfl, hm, hcf, hc⟩ := merge_at_any hu1 HO.out.1
  obtain ⟨S2, rs2, rfl⟩ := bd_iface hu2
  have hA2 := known hb02 (Nat.le_refl _) HXA.out
  have hB2 := known hb02 (Nat.le_refl _) HXB.out
  have hR2 := known hb02 (Nat.le_refl _) HXR.out
  have p0 : w2.cell? ⟨w.heap.size, 0, none⟩ = some (.iface T1 rv1) := cell_of_cells hA2 0
  have p1 : w2.cell? ⟨w.heap.size, 1, none⟩ = some (.int .i64 kind) := cell_of_cells hA2 1
  have p2 : w2.cell? ⟨w.heap.size, 2, none⟩ = some (.int .i64 L1) := cell_of_cells hA2 2
  have g0 : w2.frozen? ⟨w.heap.size, 0, none⟩ = false := frozen_of_cells hA2 0
  have g1 : w2.frozen? ⟨w.heap.size, 1, none⟩ = false := frozen_of_cells hA2 1
  have g2 : w2.frozen? ⟨w.heap.size, 2, none⟩ = false := frozen_of_cells hA2 2
  obtain ⟨V1, hV1, hX1, hO1, hQ1⟩ := store3 (.iface S1 rs1) (.int .i64 kind) (.int .i64 u) hA2
  have hB1 := (hO1.2 (w.heap.size + 1) (by omega)).trans hB2
  have hR1 := (hO1.2 (w.heap.size + 2) (by omega)).trans hR2
  have q0 : V1.cell? ⟨w.heap.size + 1, 0, none⟩ = some (.iface T2 rv2) := cell_of_cells hB1 0
  have q1 : V1.cell? ⟨w.heap.size + 1, 1, none⟩ = some (.int .i64 kind) := cell_of_cells hB1 1
  have q2 : V1.cell? ⟨w.heap.size + 1, 2, none⟩ = some (.int .i64 L2) := cell_of_cells hB1 2
  have h0 : V1.frozen? ⟨w.heap.size + 1, 0, none⟩ = false := frozen_of_cells hB1 0
  have h1 : V1.frozen? ⟨w.heap.size + 1, 1, none⟩ = false := frozen_of_cells hB1 1
  have h2 : V1.frozen? ⟨w.heap.size + 1, 2, none⟩ = false := frozen_of_cells hB1 2
  obtain ⟨V2, hV2, hX2, hO2, hQ2⟩ := store3 (.iface S2 rs2) (.int .i64 kind) (.int .i64 u) hB1
  have hA3 := (hO2.2 w.heap.size (by omega)).trans hX1
  have hR3 := (hO2.2 (w.heap.size + 2) (by omega)).trans hR1
  have hBV : Below w.heap.size w V2 := hQ2 _ _ (hQ1 _ _ (HB0.out.trans (hb02.mono HB0.out.size)) (Nat.le_refl _)) (Nat.le_succ _)
  have k1 : BdAt V2 (.iface S1 rs1) D1 := BdAt.set_work (BdAt.set_work hu1 hA2 (by simp) (by simp) (by simp) hO1) hB1 (by simp) (by simp) (by simp) hO2
  have k2 : BdAt V2 (.iface S2 rs2) D2 := BdAt.set_work (BdAt.set_work hu2 hA2 (by simp) (by simp) (by simp) hO1) hB1 (by simp) (by simp) (by simp) hO2
  have hC := hc V2 (.iface S2 rs2) D2 k1 k2 HO.out.2
  rw [HM.out] at hC
  have HC := Lib.hid hC
  have x0 : V2.cell? ⟨w.heap.size, 0, none⟩ = some (.iface S1 rs1) := cell_of_cells hA3 0
  have x1 : V2.cell? ⟨w.heap.size, 1, none⟩ = some (.int .i64 kind) := cell_of_cells hA3 1
  have x2 : V2.cell? ⟨w.heap.size, 2, none⟩ = some (.int .i64 u) := cell_of_cells hA3 2
  have y0 : V2.cell? ⟨w.heap.size + 1, 0, none⟩ = some (.iface S2 rs2) := cell_of_cells hX2 0
  have y1 : V2.cell? ⟨w.heap.size + 1, 1, none⟩ = some (.int .i64 kind) := cell_of_cells hX2 1
  have y2 : V2.cell? ⟨w.heap.size + 1, 2, none⟩ = some (.int .i64 u) := cell_of_cells hX2 2
  have HA3 := Lib.hid hA3
  have HY3 := Lib.hid hX2
  have HR3 := Lib.hid hR3
  have HK1 := Lib.hid k1
  have HK2 := Lib.hid k2
  have HBV := Lib.hid hBV
  clear hc hC hA2 hB2 hR2 hX1 hO1 hQ1 hB1 hR1 hX2 hO2 hQ2 hA3 hR3 hBV k1 k2 hu1 hu2 hb02
  go_wp2_with fail
  refine HC.out.mono ?_
  rintro e w3 ⟨hb3, v3, rfl, hf3⟩
  have hF : Calls Tryz.prog 86 #[v3] w3 fun e w' => e = .returned (.bool true) ∧ Below w3.heap.size w3 w' := isFull_fault v3 60 w3 (HGT.out.go (HBV.out.trans (hb3.mono HBV.out.size))) hf3
  have HF := Lib.hid hF
  obtain ⟨bf, rfl, -⟩ := hf3
  clear hF hm hcf
  go_wp2_with fail
  refine HF.out.mono ?_
  rintro e w4 ⟨rfl, hb4⟩
  have hb34 := hb3.trans (hb4.mono hb3.size)
  have hA4 := known hb34 (Nat.le_refl _) HA3.out
  have hY4 := known hb34 (Nat.le_refl _) HY3.out
  have hR4 := known hb34 (Nat.le_refl _) HR3.out
  have hB4 := HBV.out.trans (hb34.mono HBV.out.size)
  have hE2 := even_any (.iface S1 rs1) (.iface S2 rs2) D1 D2 kind u u (u + 1) w4 (HK1.out.go hb34) (HK2.out.go hb34) HO.out.1 HO.out.2 (Nat.le_succ _) (Nat.le_succ _) HUB.out
  rw [show (wkTo (u, D1) (u + 1)).2 = D1.low by unfold wkTo; rw [show u + 1 - (u, D1).1 = 1 by show u + 1 - u = 1; omega]; rfl, show (wkTo (u, D2) (u + 1)).2 = D2.low by unfold wkTo; rw [show u + 1 - (u, D2).1 = 1 by show u + 1 - u = 1; omega]; rfl, Int.natCast_add] at hE2
  have HE2 := Lib.hid hE2
  have r0 : w4.cell? ⟨w.heap.size, 0, none⟩ = some (.iface S1 rs1) := cell_of_cells hA4 0
  have r1 : w4.cell? ⟨w.heap.size, 1, none⟩ = some (.int .i64 kind) := cell_of_cells hA4 1
  have r2 : w4.cell? ⟨w.heap.size, 2, none⟩ = some (.int .i64 u) := cell_of_cells hA4 2
  have s0 : w4.cell? ⟨w.heap.size + 1, 0, none⟩ = some (.iface S2 rs2) := cell_of_cells hY4 0
  have s1 : w4.cell? ⟨w.heap.size + 1, 1, none⟩ = some (.int .i64 kind) := cell_of_cells hY4 1
  have s2 : w4.cell? ⟨w.heap.size + 1, 2, none⟩ = some (.int .i64 u) := cell_of_cells hY4 2
  have hwu1 : wrap64 ((u : Int) + 1) = (u : Int) + 1 := by unfold wrap64; omega
  have hwu2 : IntKind.i64.wrap ((u : Int) + 1) = (u : Int) + 1 := IntWalk.i64_in _ (by omega)
  have HA4 := Lib.hid hA4
  have HY4 := Lib.hid hY4
  have HR4 := Lib.hid hR4
  have HB4 := Lib.hid hB4
  clear hA4 hY4 hR4 hB4 hb34 hb3 hb4 hE2
  go_wp2_with fail
  refine HE2.out.mono ?_
  rintro e w5 ⟨u3, u4, rfl, hu3, hu5, hb45⟩
  obtain ⟨S3, rs3, f3, rfl, hm3, hcf3, hc3⟩ := merge_at_any hu3 (bd_low_ok HO.out.1 HUB.out)
  obtain ⟨S4, rs4, rfl⟩ := bd_iface hu5
  have hA5 := known hb45 (Nat.le_refl _) HA4.out
  have hY5 := known hb45 (Nat.le_refl _) HY4.out
  have hR5 := known hb45 (Nat.le_refl _) HR4.out
  have a0 : w5.cell? ⟨w.heap.size, 0, none⟩ = some (.iface S1 rs1) := cell_of_cells hA5 0
  have a1 : w5.cell? ⟨w.heap.size, 1, none⟩ = some (.int .i64 kind) := cell_of_cells hA5 1
  have a2 : w5.cell? ⟨w.heap.size, 2, none⟩ = some (.int .i64 u) := cell_of_cells hA5 2
  have b0 : w5.frozen? ⟨w.heap.size, 0, none⟩ = false := frozen_of_cells hA5 0
  have b1 : w5.frozen? ⟨w.heap.size, 1, none⟩ = false := frozen_of_cells hA5 1
  have b2 : w5.frozen? ⟨w.heap.size, 2, none⟩ = false := frozen_of_cells hA5 2
  obtain ⟨V3, hV3, hX3, hO3, hQ3⟩ := store3 (.iface S3 rs3) (.int .i64 kind) (.int .i64 ((u : Int) + 1)) hA5
  have hY6 := (hO3.2 (w.heap.size + 1) (by omega)).trans hY5
  have hR6 := (hO3.2 (w.heap.size + 2) (by omega)).trans hR5
  have m0 : V3.cell? ⟨w.heap.size + 1, 0, none⟩ = some (.iface S2 rs2) := cell_of_cells hY6 0
  have m1 : V3.cell? ⟨w.heap.size + 1, 1, none⟩ = some (.int .i64 kind) := cell_of_cells hY6 1
  have m2 : V3.cell? ⟨w.heap.size + 1, 2, none⟩ = some (.int .i64 u) := cell_of_cells hY6 2
  have o0 : V3.frozen? ⟨w.heap.size + 1, 0, none⟩ = false := frozen_of_cells hY6 0
  have o1 : V3.frozen? ⟨w.heap.size + 1, 1, none⟩ = false := frozen_of_cells hY6 1
  have o2 : V3.frozen? ⟨w.heap.size + 1, 2, none⟩ = false := frozen_of_cells hY6 2
  obtain ⟨V4, hV4, hX4, hO4, hQ4⟩ := store3 (.iface S4 rs4) (.int .i64 kind) (.int .i64 ((u : Int) + 1)) hY6
  have hA7 := (hO4.2 w.heap.size (by omega)).trans hX3
  have hR7 := (hO4.2 (w.heap.size + 2) (by omega)).trans hR6
  have hBV4 : Below w.heap.size w V4 := hQ4 _ _ (hQ3 _ _ (HB4.out.trans (hb45.mono HB4.out.size)) (Nat.le_refl _)) (Nat.le_succ _)
  have k3 : BdAt V4 (.iface S3 rs3) D1.low := BdAt.set_work (BdAt.set_work hu3 hA5 (by simp) (by simp) (by simp) hO3) hY6 (by simp) (by simp) (by simp) hO4
  have k4 : BdAt V4 (.iface S4 rs4) D2.low := BdAt.set_work (BdAt.set_work hu5 hA5 (by simp) (by simp) (by simp) hO3) hY6 (by simp) (by simp) (by simp) hO4
  have hC3 := hc3 V4 (.iface S4 rs4) D2.low k3 k4 (bd_low_ok HO.out.2 HUB.out)
  rw [HM2.out] at hC3
  have HC3 := Lib.hid hC3
  have t0 : V4.cell? ⟨w.heap.size, 0, none⟩ = some (.iface S3 rs3) := cell_of_cells hA7 0
  have t1 : V4.cell? ⟨w.heap.size, 1, none⟩ = some (.int .i64 kind) := cell_of_cells hA7 1
  have t2 : V4.cell? ⟨w.heap.size, 2, none⟩ = some (.int .i64 ((u : Int) + 1)) := cell_of_cells hA7 2
  have v0 : V4.cell? ⟨w.heap.size + 1, 0, none⟩ = some (.iface S4 rs4) := cell_of_cells hX4 0
  have v1 : V4.cell? ⟨w.heap.size + 1, 1, none⟩ = some (.int .i64 kind) := cell_of_cells hX4 1
  have v2 : V4.cell? ⟨w.heap.size + 1, 2, none⟩ = some (.int .i64 ((u : Int) + 1)) := cell_of_cells hX4 2
  have HA7 := Lib.hid hA7
  have HR7 := Lib.hid hR7
  have HBV4 := Lib.hid hBV4
  clear hc3 hC3 hA5 hY5 hR5 hX3 hO3 hQ3 hY6 hR6 hX4 hO4 hQ4 hA7 hR7 hBV4 k3 k4 hu3 hu5 hb45
  go_wp2_with fail
  refine HC3.out.mono ?_
  rintro e w6 ⟨hb6, v6, rfl, hv6⟩
  obtain ⟨T3, rv3, rfl⟩ := bd_iface hv6
  have hA8 := known hb6 (Nat.le_refl _) HA7.out
  have hR8 := known hb6 (Nat.le_refl _) HR7.out
  have hB8 := HBV4.out.trans (hb6.mono HBV4.out.size)
  have i0 : w6.cell? ⟨w.heap.size, 0, none⟩ = some (.iface S3 rs3) := cell_of_cells hA8 0
  have i1 : w6.cell? ⟨w.heap.size, 1, none⟩ = some (.int .i64 kind) := cell_of_cells hA8 1
  have i2 : w6.cell? ⟨w.heap.size, 2, none⟩ = some (.int .i64 ((u : Int) + 1)) := cell_of_cells hA8 2
  have j0 : w6.frozen? ⟨w.heap.size, 0, none⟩ = false := frozen_of_cells hA8 0
  have j1 : w6.frozen? ⟨w.heap.size, 1, none⟩ = false := frozen_of_cells hA8 1
  have j2 : w6.frozen? ⟨w.heap.size, 2, none⟩ = false := frozen_of_cells hA8 2
  obtain ⟨U, hU⟩ : ∃ U, w6.setCell ⟨w.heap.size, 0, none⟩ (.iface T3 rv3) = U := ⟨_, rfl⟩
  have hXU : U.heap[w.heap.size]? = some (.cells #[.iface T3 rv3, .int .i64 kind, .int .i64 ((u : Int) + 1)] 68 (0, 0)) := by rw [← hU]; exact heap_set_known hA8 (.iface T3 rv3)
  have hOU : OnlyAt w.heap.size w6 U := by rw [← hU]; exact (OnlyAt.refl _ _).set _ _
  have hBU : Below w.heap.size w U := by rw [← hU]; exact hB8.setCell (p := ⟨w.heap.size, 0, none⟩) (Nat.le_refl _) _
  have hRU := (hOU.2 (w.heap.size + 2) (by omega)).trans hR8
  have hbU : BdAt U (.iface T3 rv3) B := BdAt.set_work hv6 hA8 (by simp) (by simp) (by simp) hOU
  have l0 : U.cell? ⟨w.heap.size, 0, none⟩ = some (.iface T3 rv3) := cell_of_cells hXU 0
  have l1 : U.cell? ⟨w.heap.size, 1, none⟩ = some (.int .i64 kind) := cell_of_cells hXU 1
  have l2 : U.cell? ⟨w.heap.size, 2, none⟩ = some (.int .i64 ((u : Int) + 1)) := cell_of_cells hXU 2
  have n0 : U.cell? ⟨w.heap.size + 2, 0, none⟩ = some (.nilIface) := cell_of_cells hRU 0
  have n1 : U.cell? ⟨w.heap.size + 2, 1, none⟩ = some (.int .i64 0) := cell_of_cells hRU 1
  have n2 : U.cell? ⟨w.heap.size + 2, 2, none⟩ = some (.int .i64 0) := cell_of_cells hRU 2
  have z0 : U.frozen? ⟨w.heap.size + 2, 0, none⟩ = false := frozen_of_cells hRU 0
  have z1 : U.frozen? ⟨w.heap.size + 2, 1, none⟩ = false := frozen_of_cells hRU 1
  have z2 : U.frozen? ⟨w.heap.size + 2, 2, none⟩ = false := frozen_of_cells hRU 2
  obtain ⟨V5, hV5, hX5, hO5, hQ5⟩ := store3 (b := w.heap.size + 1 + 1) (.iface T3 rv3) (.int .i64 kind) (.int .i64 ((u : Int) + 1)) hRU
  have k0 : V5.cell? ⟨w.heap.size + 1 + 1, 0, none⟩ = some (.iface T3 rv3) := cell_of_cells hX5 0
  have k1 : V5.cell? ⟨w.heap.size + 1 + 1, 1, none⟩ = some (.int .i64 kind) := cell_of_cells hX5 1
  have k2 : V5.cell? ⟨w.heap.size + 1 + 1, 2, none⟩ = some (.int .i64 ((u : Int) + 1)) := cell_of_cells hX5 2
  have HE : Hid (BdAt V5 (.iface T3 rv3) B ∧ Below w.heap.size w V5) := ⟨BdAt.set_work hbU hRU (by simp) (by simp) (by simp) hO5, hQ5 _ _ hBU (by omega)⟩
  clear hm3 hcf3 hA8 hR8 hB8 hb6 hv6 hXU hOU hBU hRU hbU hX5 hO5 hQ5
  go_wp2_with fail
  exact bodyPost_ret (v := .tuple #[.agg #[.iface T3 rv3, .int .i64 kind, .int .i64 ((u : Int) + 1)], .nilIface]) (by simp [results, Tryz.f49, go_sem, k0, k1, k2]) rfl ⟨_, rfl, HE.out.1, HE.out.2⟩
theorem merge_low_some {k L : Nat} {x y : Bd} (hx : x.Ok k L) (hy : y.Ok k L) (he : x.merge y = none) : L < botN k ∧ ∃ z, x.low.merge y.low = some z := by
  cases x with
  | num l =>
    cases y with
    | num m =>
      obtain ⟨rfl, rfl, -⟩ := hx
      exact ⟨by decide, _, rfl⟩
    | reg b r => exact absurd hy.2.1 (by have := hx.2.1; omega)
    | cnt c m => exact absurd hy.1 (by have := hx.1; omega)
    | bkt f m => exact absurd hy.1 (by have := hx.1; omega)
  | reg b r =>
    cases y with
    | num m => exact absurd hx.2.1 (by have := hy.2.1; omega)
    | reg b' s => cases he
    | cnt c m => exact absurd hy.1 (by have := hx.1; omega)
    | bkt f m => exact absurd hy.1 (by have := hx.1; omega)
  | cnt c l =>
    cases y with
    | num m => exact absurd hy.1 (by have := hx.1; omega)
    | reg b' s => exact absurd hy.1 (by have := hx.1; omega)
    | cnt c m => cases he
    | bkt f m => exact absurd hy.1 (by have := hx.1; omega)
  | bkt f l =>
    cases y with
    | num m => exact absurd hy.1 (by have := hx.1; omega)
    | reg b' s => exact absurd hy.1 (by have := hx.1; omega)
    | cnt c m => exact absurd hy.1 (by have := hx.1; omega)
    | bkt f m => cases he
theorem merged_any (v1 v2 : Value) (B1 B2 : Bd) (kind L1 L2 : Nat) (w : World) (hb1 : BdAt w v1 B1) (hb2 : BdAt w v2 B2) (hok1 : B1.Ok kind L1) (hok2 : B2.Ok kind L2) (hg : GT w) :
    Calls Tryz.prog 49 #[.agg #[v1, .int .i64 kind, .int .i64 L1], .agg #[v2, .int .i64 kind, .int .i64 L2]] w fun e w' => ∃ v, e = .returned (.tuple #[.agg #[v, .int .i64 kind, .int .i64 ((wkMerge (L1, B1) (L2, B2)).1 : Nat)], .nilIface]) ∧ BdAt w' v (wkMerge (L1, B1) (L2, B2)).2 ∧ Below w.heap.size w w' := by
  obtain ⟨u, hu⟩ : ∃ u, max L1 L2 = u := ⟨_, rfl⟩
  have hub : u ≤ botN kind := by have := ok_bot hok1; have := ok_bot hok2; omega
  have o1 : (wkTo (L1, B1) u).2.Ok kind u := by
    have h := wkTo_ok u hub _ (L1, B1) rfl hok1
    have e : (wkTo (L1, B1) u).1 = u := h.2.trans (by show max L1 u = u; omega)
    have h1 := h.1
    rwa [e] at h1
  have o2 : (wkTo (L2, B2) u).2.Ok kind u := by
    have h := wkTo_ok u hub _ (L2, B2) rfl hok2
    have e : (wkTo (L2, B2) u).1 = u := h.2.trans (by show max L2 u = u; omega)
    have h1 := h.1
    rwa [e] at h1
  cases he : (wkTo (L1, B1) u).2.merge (wkTo (L2, B2) u).2 with
  | some B =>
    have e : wkMerge (L1, B1) (L2, B2) = (u, B) := by
      unfold wkMerge
      simp only [hu, he]
    rw [e]
    exact merged_some v1 v2 B1 B2 B kind L1 L2 u w hb1 hb2 hok1 hok2 hu hub he
  | none =>
    obtain ⟨hlt, z, hz⟩ := merge_low_some o1 o2 he
    have e : wkMerge (L1, B1) (L2, B2) = (u + 1, z) := by
      unfold wkMerge
      simp only [hu, he, hz, Option.getD_some]
    rw [e]
    exact merged_none v1 v2 B1 B2 z kind L1 L2 u w hb1 hb2 hok1 hok2 hu hub hlt hg he hz
end Go.Proofs.YtmkefodaibmkhaaGreatDoor
namespace Go.Proofs.YtmkefodaibmkhaaGreatDoor
open Go Go.RowKit Go.Shelf

theorem wkMerge_ok {k : Nat} {s t : Nat × Bd} (hs : s.2.Ok k s.1) (ht : t.2.Ok k t.1) : (wkMerge s t).2.Ok k (wkMerge s t).1 := by
  have hub : max s.1 t.1 ≤ botN k := by have := ok_bot hs; have := ok_bot ht; omega
  have o1 := (wkTo_ok (max s.1 t.1) hub _ s rfl hs).1
  have o2 := (wkTo_ok (max s.1 t.1) hub _ t rfl ht).1
  rw [(wkTo_ok (max s.1 t.1) hub _ s rfl hs).2, show max s.1 (max s.1 t.1) = max s.1 t.1 by omega] at o1
  rw [(wkTo_ok (max s.1 t.1) hub _ t rfl ht).2, show max t.1 (max s.1 t.1) = max s.1 t.1 by omega] at o2
  unfold wkMerge
  cases he : (wkTo s (max s.1 t.1)).2.merge (wkTo t (max s.1 t.1)).2 with
  | some B => exact merge_ok o1 o2 he
  | none =>
    obtain ⟨hlt, z, hz⟩ := merge_low_some o1 o2 he
    simp only [hz, Option.getD_some]
    exact merge_ok (bd_low_ok o1 hlt) (bd_low_ok o2 hlt) hz
set_option maxRecDepth 100000 in
set_option maxHeartbeats 2000000 in
theorem Merge_any {k L1 L2 : Nat} {B1 B2 : Bd} {v1 v2 : Value} {w : World} (hok1 : B1.Ok k L1) (hok2 : B2.Ok k L2) (hg : GT w) (hv1 : SkB w v1 k L1 B1) (hv2 : SkB w v2 k L2 B2) :
    Calls Tryz.prog 20 #[v1, v2] w fun e w' => ∃ x, e = .returned (.tuple #[x, .int .i64 0]) ∧ SkB w' x k (wkMerge (L1, B1) (L2, B2)).1 (wkMerge (L1, B1) (L2, B2)).2 ∧ Below w.heap.size w w' := by
  have hok := wkMerge_ok (s := (L1, B1)) (t := (L2, B2)) hok1 hok2
  obtain ⟨y1, s1, hy1, rfl, hA1⟩ := hv1
  obtain ⟨y2, s2, hy2, rfl, hA2⟩ := hv2
  obtain ⟨W0, hW0, hXa, hXb, hXr, hB0, hs0⟩ := boxes3 w #[.int .i64 y1.kind, .int .i64 y1.level, .slice s1.ea s1.el s1.ec, .int .i64 y1.hb, .string y1.hr, .int .i64 y1.cr, .int .i64 y1.cc, .slice s1.ca s1.cl s1.cc, .int .i64 y1.gf, .slice s1.ga s1.gl s1.gc] 36 #[.int .i64 y2.kind, .int .i64 y2.level, .slice s2.ea s2.el s2.ec, .int .i64 y2.hb, .string y2.hr, .int .i64 y2.cr, .int .i64 y2.cc, .slice s2.ca s2.cl s2.cc, .int .i64 y2.gf, .slice s2.ga s2.gl s2.gc] 36 #[.int .i64 0, .int .i64 0, .slice none 0 0, .int .i64 0, .string ⟨#[]⟩, .int .i64 0, .int .i64 0, .slice none 0 0, .int .i64 0, .slice none 0 0] 36
  have HO1 := Lib.hid (open_sk_any (w := W0) hok1 ⟨y1, s1, hy1, rfl, hA1.go hB0⟩)
  have HO2 : Hid (∀ W, Below W0.heap.size W0 W → Calls Tryz.prog 38 #[.agg #[.int .i64 y2.kind, .int .i64 y2.level, .slice s2.ea s2.el s2.ec, .int .i64 y2.hb, .string y2.hr, .int .i64 y2.cr, .int .i64 y2.cc, .slice s2.ca s2.cl s2.cc, .int .i64 y2.gf, .slice s2.ga s2.gl s2.gc]] W fun e w' => ∃ b, e = .returned (.tuple #[.agg #[b, .int .i64 k, .int .i64 L2], .nilIface]) ∧ BdAt w' b B2 ∧ Below W.heap.size W w') := fun W hB => open_sk_any hok2 ⟨y2, s2, hy2, rfl, (hA2.go hB0).go hB⟩
  obtain ⟨L, hL⟩ : ∃ L : Nat, (wkMerge (L1, B1) (L2, B2)).1 = L := ⟨_, rfl⟩
  obtain ⟨B, hBB⟩ : ∃ B : Bd, (wkMerge (L1, B1) (L2, B2)).2 = B := ⟨_, rfl⟩
  rw [hL, hBB] at hok ⊢
  have HT : Hid (∀ b1 b2 W, BdAt W b1 B1 → BdAt W b2 B2 → GT W → Calls Tryz.prog 49 #[.agg #[b1, .int .i64 k, .int .i64 L1], .agg #[b2, .int .i64 k, .int .i64 L2]] W fun e w' => ∃ v', e = .returned (.tuple #[.agg #[v', .int .i64 k, .int .i64 L], .nilIface]) ∧ BdAt w' v' B ∧ Below W.heap.size W w') := by
    rw [← hBB, ← hL]
    exact fun b1 b2 W h1 h2 hgW => merged_any b1 b2 B1 B2 k L1 L2 W h1 h2 hok1 hok2 hgW
  have HN : Hid (∀ b W, BdAt W b B → Calls Tryz.prog 40 #[.agg #[b, .int .i64 k, .int .i64 L], .nilIface] W fun e w' => ∃ x, e = .returned (.tuple #[x, .int .i64 0]) ∧ SkB w' x k L B ∧ Below W.heap.size W w') := fun b W h => told_nil b B k L W h hok
  have c0 : W0.cell? ⟨w.heap.size, 0, none⟩ = some (.int .i64 y1.kind) := cell_of_cells hXa 0
  have c1 : W0.cell? ⟨w.heap.size, 1, none⟩ = some (.int .i64 y1.level) := cell_of_cells hXa 1
  have c2 : W0.cell? ⟨w.heap.size, 2, none⟩ = some (.slice s1.ea s1.el s1.ec) := cell_of_cells hXa 2
  have c3 : W0.cell? ⟨w.heap.size, 3, none⟩ = some (.int .i64 y1.hb) := cell_of_cells hXa 3
  have c4 : W0.cell? ⟨w.heap.size, 4, none⟩ = some (.string y1.hr) := cell_of_cells hXa 4
  have c5 : W0.cell? ⟨w.heap.size, 5, none⟩ = some (.int .i64 y1.cr) := cell_of_cells hXa 5
  have c6 : W0.cell? ⟨w.heap.size, 6, none⟩ = some (.int .i64 y1.cc) := cell_of_cells hXa 6
  have c7 : W0.cell? ⟨w.heap.size, 7, none⟩ = some (.slice s1.ca s1.cl s1.cc) := cell_of_cells hXa 7
  have c8 : W0.cell? ⟨w.heap.size, 8, none⟩ = some (.int .i64 y1.gf) := cell_of_cells hXa 8
  have c9 : W0.cell? ⟨w.heap.size, 9, none⟩ = some (.slice s1.ga s1.gl s1.gc) := cell_of_cells hXa 9
  have HGT := Lib.hid (hg.go hB0)
  have HXB := Lib.hid hXb
  have HXR := Lib.hid hXr
  have HB0 := Lib.hid hB0
  clear hXa hXb hXr hB0 hA1 hA2 hy1 hy2 hok hok1 hok2 hL hBB hg
  go_enter Tryz.func20, Tryz.ntmps20
  go_wp2_with fail
  refine HO1.out.mono ?_
  rintro e w1 ⟨b1, rfl, hb1, hB1⟩
  obtain ⟨T1, rv1, rfl⟩ := bd_iface hb1
  obtain ⟨W2, hW2, hX2, hB2, hs2⟩ := boxes1 w1 #[.iface T1 rv1, .int .i64 k, .int .i64 L1] 68
  have hb02 := hB1.trans (hB2.mono hB1.size)
  have HO2 := Lib.hid (HO2.out W2 hb02)
  have hY2 := known hb02 (Nat.le_refl _) HXB.out
  have HK1 := Lib.hid (hb1.go hB2)
  have HX2 := Lib.hid hX2
  have HB02 := Lib.hid hb02
  have hsz1 := hB1.size
  have d0 : W2.cell? ⟨w.heap.size + 1, 0, none⟩ = some (.int .i64 y2.kind) := cell_of_cells hY2 0
  have d1 : W2.cell? ⟨w.heap.size + 1, 1, none⟩ = some (.int .i64 y2.level) := cell_of_cells hY2 1
  have d2 : W2.cell? ⟨w.heap.size + 1, 2, none⟩ = some (.slice s2.ea s2.el s2.ec) := cell_of_cells hY2 2
  have d3 : W2.cell? ⟨w.heap.size + 1, 3, none⟩ = some (.int .i64 y2.hb) := cell_of_cells hY2 3
  have d4 : W2.cell? ⟨w.heap.size + 1, 4, none⟩ = some (.string y2.hr) := cell_of_cells hY2 4
  have d5 : W2.cell? ⟨w.heap.size + 1, 5, none⟩ = some (.int .i64 y2.cr) := cell_of_cells hY2 5
  have d6 : W2.cell? ⟨w.heap.size + 1, 6, none⟩ = some (.int .i64 y2.cc) := cell_of_cells hY2 6
  have d7 : W2.cell? ⟨w.heap.size + 1, 7, none⟩ = some (.slice s2.ca s2.cl s2.cc) := cell_of_cells hY2 7
  have d8 : W2.cell? ⟨w.heap.size + 1, 8, none⟩ = some (.int .i64 y2.gf) := cell_of_cells hY2 8
  have d9 : W2.cell? ⟨w.heap.size + 1, 9, none⟩ = some (.slice s2.ga s2.gl s2.gc) := cell_of_cells hY2 9
  clear hb1 hB1 hX2 hB2 hb02 hY2
  go_wp2_with fail
  refine HO2.out.mono ?_
  rintro e w3 ⟨b2, rfl, hb2, hb23⟩
  obtain ⟨T2, rv2, rfl⟩ := bd_iface hb2
  obtain ⟨W4, hW4, hX4, hB4, hs4⟩ := boxes1 w3 #[.iface T2 rv2, .int .i64 k, .int .i64 L2] 68
  have hb24 := hb23.trans (hB4.mono hb23.size)
  have hA4 := known hb24 (Nat.le_refl _) HX2.out
  have hb04 : Below W0.heap.size W0 W4 := HB02.out.trans (hb24.mono HB02.out.size)
  have HT2 := Lib.hid (HT.out _ _ W4 (HK1.out.go hb24) (hb2.go hB4) (HGT.out.go hb04))
  have q0 : W4.cell? ⟨w1.heap.size, 0, none⟩ = some (.iface T1 rv1) := cell_of_cells hA4 0
  have q1 : W4.cell? ⟨w1.heap.size, 1, none⟩ = some (.int .i64 k) := cell_of_cells hA4 1
  have q2 : W4.cell? ⟨w1.heap.size, 2, none⟩ = some (.int .i64 L1) := cell_of_cells hA4 2
  have x0 : W4.cell? ⟨w3.heap.size, 0, none⟩ = some (.iface T2 rv2) := cell_of_cells hX4 0
  have x1 : W4.cell? ⟨w3.heap.size, 1, none⟩ = some (.int .i64 k) := cell_of_cells hX4 1
  have x2 : W4.cell? ⟨w3.heap.size, 2, none⟩ = some (.int .i64 L2) := cell_of_cells hX4 2
  have HA4 := Lib.hid hA4
  have HB04 := Lib.hid hb04
  clear hb2 hb23 hX4 hB4 hb24 hA4 hb04
  go_wp2_with fail
  refine HT2.out.mono ?_
  rintro e w5 ⟨b5, rfl, hv5, hb5⟩
  obtain ⟨T5, rv5, rfl⟩ := bd_iface hv5
  have hX5 := known hb5 (Nat.le_refl _) HA4.out
  have p0 : w5.cell? ⟨w1.heap.size, 0, none⟩ = some (.iface T1 rv1) := cell_of_cells hX5 0
  have p1 : w5.cell? ⟨w1.heap.size, 1, none⟩ = some (.int .i64 k) := cell_of_cells hX5 1
  have p2 : w5.cell? ⟨w1.heap.size, 2, none⟩ = some (.int .i64 L1) := cell_of_cells hX5 2
  have g0 : w5.frozen? ⟨w1.heap.size, 0, none⟩ = false := frozen_of_cells hX5 0
  have g1 : w5.frozen? ⟨w1.heap.size, 1, none⟩ = false := frozen_of_cells hX5 1
  have g2 : w5.frozen? ⟨w1.heap.size, 2, none⟩ = false := frozen_of_cells hX5 2
  obtain ⟨V, hV, hVX, hVO, hVB⟩ := store3 (.iface T5 rv5) (.int .i64 k) (.int .i64 L) hX5
  have HN2 := Lib.hid (HN.out _ V (BdAt.set_work hv5 hX5 (by simp) (by simp) (by simp) hVO))
  have hb05 := HB04.out.trans (hb5.mono HB04.out.size)
  have HB5 : Hid (Below w.heap.size w V) := hVB _ _ (HB0.out.trans (hb05.mono HB0.out.size)) (by omega)
  have HR5 : Hid (V.heap[w.heap.size + 2]? = some (.cells #[.int .i64 0, .int .i64 0, .slice none 0 0, .int .i64 0, .string ⟨#[]⟩, .int .i64 0, .int .i64 0, .slice none 0 0, .int .i64 0, .slice none 0 0] 36 (0, 0))) := (hVO.2 _ (by omega)).trans (known hb05 (Nat.le_refl _) HXR.out)
  have r0 : V.cell? ⟨w1.heap.size, 0, none⟩ = some (.iface T5 rv5) := cell_of_cells hVX 0
  have r1 : V.cell? ⟨w1.heap.size, 1, none⟩ = some (.int .i64 k) := cell_of_cells hVX 1
  have r2 : V.cell? ⟨w1.heap.size, 2, none⟩ = some (.int .i64 L) := cell_of_cells hVX 2
  clear hX5 hVX hVO hVB hv5 hb5 hb05
  go_wp2_with fail
  refine HN2.out.mono ?_
  rintro e w6 ⟨x6, rfl, ⟨y6, s6, hy6, rfl, hA6⟩, hb6⟩
  have hR6 := known hb6 (Nat.le_refl _) HR5.out
  have z0 : w6.cell? ⟨w.heap.size + 2, 0, none⟩ = some (.int .i64 0) := cell_of_cells hR6 0
  have z1 : w6.cell? ⟨w.heap.size + 2, 1, none⟩ = some (.int .i64 0) := cell_of_cells hR6 1
  have z2 : w6.cell? ⟨w.heap.size + 2, 2, none⟩ = some (.slice none 0 0) := cell_of_cells hR6 2
  have z3 : w6.cell? ⟨w.heap.size + 2, 3, none⟩ = some (.int .i64 0) := cell_of_cells hR6 3
  have z4 : w6.cell? ⟨w.heap.size + 2, 4, none⟩ = some (.string ⟨#[]⟩) := cell_of_cells hR6 4
  have z5 : w6.cell? ⟨w.heap.size + 2, 5, none⟩ = some (.int .i64 0) := cell_of_cells hR6 5
  have z6 : w6.cell? ⟨w.heap.size + 2, 6, none⟩ = some (.int .i64 0) := cell_of_cells hR6 6
  have z7 : w6.cell? ⟨w.heap.size + 2, 7, none⟩ = some (.slice none 0 0) := cell_of_cells hR6 7
  have z8 : w6.cell? ⟨w.heap.size + 2, 8, none⟩ = some (.int .i64 0) := cell_of_cells hR6 8
  have z9 : w6.cell? ⟨w.heap.size + 2, 9, none⟩ = some (.slice none 0 0) := cell_of_cells hR6 9
  have f0 : w6.frozen? ⟨w.heap.size + 2, 0, none⟩ = false := frozen_of_cells hR6 0
  have f1 : w6.frozen? ⟨w.heap.size + 2, 1, none⟩ = false := frozen_of_cells hR6 1
  have f2 : w6.frozen? ⟨w.heap.size + 2, 2, none⟩ = false := frozen_of_cells hR6 2
  have f3 : w6.frozen? ⟨w.heap.size + 2, 3, none⟩ = false := frozen_of_cells hR6 3
  have f4 : w6.frozen? ⟨w.heap.size + 2, 4, none⟩ = false := frozen_of_cells hR6 4
  have f5 : w6.frozen? ⟨w.heap.size + 2, 5, none⟩ = false := frozen_of_cells hR6 5
  have f6 : w6.frozen? ⟨w.heap.size + 2, 6, none⟩ = false := frozen_of_cells hR6 6
  have f7 : w6.frozen? ⟨w.heap.size + 2, 7, none⟩ = false := frozen_of_cells hR6 7
  have f8 : w6.frozen? ⟨w.heap.size + 2, 8, none⟩ = false := frozen_of_cells hR6 8
  have f9 : w6.frozen? ⟨w.heap.size + 2, 9, none⟩ = false := frozen_of_cells hR6 9
  obtain ⟨U, hU, hUX, hUO, hUB⟩ := store10 (.int .i64 y6.kind) (.int .i64 y6.level) (.slice s6.ea s6.el s6.ec) (.int .i64 y6.hb) (.string y6.hr) (.int .i64 y6.cr) (.int .i64 y6.cc) (.slice s6.ca s6.cl s6.cc) (.int .i64 y6.gf) (.slice s6.ga s6.gl s6.gc) hR6
  have k0 : U.cell? ⟨w.heap.size + 2, 0, none⟩ = some (.int .i64 y6.kind) := cell_of_cells hUX 0
  have k1 : U.cell? ⟨w.heap.size + 2, 1, none⟩ = some (.int .i64 y6.level) := cell_of_cells hUX 1
  have k2 : U.cell? ⟨w.heap.size + 2, 2, none⟩ = some (.slice s6.ea s6.el s6.ec) := cell_of_cells hUX 2
  have k3 : U.cell? ⟨w.heap.size + 2, 3, none⟩ = some (.int .i64 y6.hb) := cell_of_cells hUX 3
  have k4 : U.cell? ⟨w.heap.size + 2, 4, none⟩ = some (.string y6.hr) := cell_of_cells hUX 4
  have k5 : U.cell? ⟨w.heap.size + 2, 5, none⟩ = some (.int .i64 y6.cr) := cell_of_cells hUX 5
  have k6 : U.cell? ⟨w.heap.size + 2, 6, none⟩ = some (.int .i64 y6.cc) := cell_of_cells hUX 6
  have k7 : U.cell? ⟨w.heap.size + 2, 7, none⟩ = some (.slice s6.ca s6.cl s6.cc) := cell_of_cells hUX 7
  have k8 : U.cell? ⟨w.heap.size + 2, 8, none⟩ = some (.int .i64 y6.gf) := cell_of_cells hUX 8
  have k9 : U.cell? ⟨w.heap.size + 2, 9, none⟩ = some (.slice s6.ga s6.gl s6.gc) := cell_of_cells hUX 9
  have HS2 : Hid (SkB U (.agg #[.int .i64 y6.kind, .int .i64 y6.level, .slice s6.ea s6.el s6.ec, .int .i64 y6.hb, .string y6.hr, .int .i64 y6.cr, .int .i64 y6.cc, .slice s6.ca s6.cl s6.cc, .int .i64 y6.gf, .slice s6.ga s6.gl s6.gc]) k L B) := SkB.apart ⟨y6, s6, hy6, rfl, hA6⟩ hR6 (fun i u => noU_zero u) hUO
  have HBU : Hid (Below w.heap.size w U) := hUB _ _ (HB5.out.trans (hb6.mono HB5.out.size)) (by omega)
  clear hR6 hUX hUO hUB hy6 hA6 hb6
  go_wp2_with fail
  exact bodyPost_ret (v := .tuple #[.agg #[.int .i64 y6.kind, .int .i64 y6.level, .slice s6.ea s6.el s6.ec, .int .i64 y6.hb, .string y6.hr, .int .i64 y6.cr, .int .i64 y6.cc, .slice s6.ca s6.cl s6.cc, .int .i64 y6.gf, .slice s6.ga s6.gl s6.gc], .int .i64 0]) (by simp [results, Tryz.f20, go_sem, k0, k1, k2, k3, k4, k5, k6, k7, k8, k9]) rfl ⟨_, rfl, HS2.out, HBU.out⟩
end Go.Proofs.YtmkefodaibmkhaaGreatDoor

/- Package ladder: a body's merge through the interface; even. Package ladder: merged. Package ladder: Merge on sketches at work. A right sketch is that of a body at work. No program in sight. Package ladder: two sketches of different kinds are not merged. Printed by gen_ob.py. Sketches as bodies, in plain data. No program in sight. -/
import Derived.Test.YtcbbenncdainfaaGreatDoorZMG
namespace Go.Proofs.YtcbbenncdainfaaGreatDoor
open Go Go.RowKit Go.Shelf
theorem m_mrg_num (x : Value) (w : World) : (method 392 144 (.agg #[x]) "aviary/ladder.merge").run Tryz.prog w = .ok (134, .agg #[x]) w := by kernel_rfl
theorem m_mrg_reg (x y : Value) (w : World) : (method 392 147 (.agg #[x, y]) "aviary/ladder.merge").run Tryz.prog w = .ok (164, .agg #[x, y]) w := by kernel_rfl
theorem m_mrg_cnt (x y z : Value) (w : World) : (method 392 148 (.agg #[x, y, z]) "aviary/ladder.merge").run Tryz.prog w = .ok (174, .agg #[x, y, z]) w := by kernel_rfl
theorem m_mrg_bkt (x y : Value) (w : World) : (method 392 150 (.agg #[x, y]) "aviary/ladder.merge").run Tryz.prog w = .ok (193, .agg #[x, y]) w := by kernel_rfl
theorem merge_at_any {w : World} {v : Value} {B : Bd} {kind level : Nat} (hb : BdAt w v B) (hok : B.Ok kind level) : ∃ T rv f, v = .iface T rv ∧ (∀ W, (method 392 T rv "aviary/ladder.merge").run Tryz.prog W = .ok (f, rv) W) ∧ (∀ args W, (callFunc f args).run Tryz.prog W = .ok (.enter f args) W) ∧
  ∀ W v2 B2, BdAt W v B → BdAt W v2 B2 → B2.Ok kind level → Calls Tryz.prog f #[rv, v2] W (BodyPost (B.merge B2) W) := by
 cases B with
 | num l =>
  obtain ⟨a, len, cap, rfl, -⟩ := hb
  obtain ⟨rfl, rfl, o3, o4, o5⟩ := hok
  refine ⟨_, _, _, rfl, fun W => m_mrg_num _ W, enters_of Tryz.func134 (by kernel_rfl) rfl, fun W v2 B2 hW hW2 hok2 => ?_⟩
  cases B2 with
  | num m =>
   obtain ⟨a', len', cap', e, hS⟩ := hW
   cases e
   obtain ⟨a2, len2, cap2, rfl, hS2⟩ := hW2
   cases he : exGather l m with
   | some z =>
    have h := mrg_num l m a len cap a2 len2 cap2 z W hS hS2 (up_right l o3 o4) (up_right m hok2.2.2.1 hok2.2.2.2.1) he
    show Calls _ _ _ _ (BodyPost ((exGather l m).map Bd.num) W)
    rw [he]
    exact h
   | none =>
    have h := mrg_full l m a len cap a2 len2 cap2 W hS hS2 (up_right l o3 o4) (up_right m hok2.2.2.1 hok2.2.2.2.1) he
    show Calls _ _ _ _ (BodyPost ((exGather l m).map Bd.num) W)
    rw [he]
    exact h
  | reg b r => exact absurd hok2.2.1 (by omega)
  | cnt c m => exact absurd hok2.1 (by omega)
  | bkt f m => exact absurd hok2.1 (by omega)
 | reg b r =>
  obtain rfl : v = _ := hb
  obtain ⟨rfl, o2, o3, o4, o5, o6⟩ := hok
  refine ⟨_, _, _, rfl, fun W => m_mrg_reg _ _ W, enters_of Tryz.func164 (by kernel_rfl) rfl, fun W v2 B2 hW hW2 hok2 => ?_⟩
  cases B2 with
  | num m => exact absurd hok2.2.1 (by omega)
  | reg b' r2 =>
   obtain rfl : v2 = _ := hW2
   obtain ⟨-, -, -, p4, p5, p6⟩ := hok2
   obtain rfl : b = b' := by omega
   exact mrg_reg b r r2 _ _ W (by omega) (by omega) o5 o6 p5 p6 rfl rfl
  | cnt c m => exact absurd hok2.1 (by omega)
  | bkt f m => exact absurd hok2.1 (by omega)
 | cnt c l =>
  obtain ⟨a, len, cap, rfl, -⟩ := hb
  obtain ⟨rfl, o2, o3, o4, o5⟩ := hok
  refine ⟨_, _, _, rfl, fun W => m_mrg_cnt _ _ _ W, enters_of Tryz.func174 (by kernel_rfl) rfl, fun W v2 B2 hW hW2 hok2 => ?_⟩
  cases B2 with
  | num m => exact absurd hok2.1 (by omega)
  | reg b r => exact absurd hok2.1 (by omega)
  | cnt c' m =>
   obtain ⟨a', len', cap', e, hS⟩ := hW
   cases e
   obtain ⟨a2, len2, cap2, rfl, hS2⟩ := hW2
   obtain ⟨-, p2, p3, p4, p5⟩ := hok2
   obtain rfl : c = c' := same_cols o3 p3
   exact mrg_cnt c l m a len cap a2 len2 cap2 W (cols_of o3 o2) hS o4 o5 hS2 p4 p5
  | bkt f m => exact absurd hok2.1 (by omega)
 | bkt f l =>
  obtain ⟨a, len, cap, rfl, -⟩ := hb
  obtain ⟨rfl, o2, o3, o4, o5, o6, o7⟩ := hok
  refine ⟨_, _, _, rfl, fun W => m_mrg_bkt _ _ W, enters_of Tryz.func193 (by kernel_rfl) rfl, fun W v2 B2 hW hW2 hok2 => ?_⟩
  cases B2 with
  | num m => exact absurd hok2.1 (by omega)
  | reg b r => exact absurd hok2.1 (by omega)
  | cnt c m => exact absurd hok2.1 (by omega)
  | bkt f' m =>
   obtain ⟨a', len', cap', e, hS⟩ := hW
   cases e
   obtain ⟨a2, len2, cap2, rfl, hS2⟩ := hW2
   obtain ⟨-, p2, p3, p4, p5, p6, p7⟩ := hok2
   obtain rfl : f = f' := by omega
   have hf : f ≤ 3 := by omega
   exact mrg_bkt f l m a len cap a2 len2 cap2 W hf hS (hiRight_of f l hf o4 o5 o7) o4 o6 (by have := bins_len f l hf o4 o7; omega) (bins_i64 f l hf o7) hS2 (hiRight_of f m hf p4 p5 p7) p6 (by have := bins_len f m hf p4 p7; omega) (bins_i64 f m hf p7)
set_option maxRecDepth 100000 in
set_option maxHeartbeats 2000000 in
theorem even_any (v1 v2 : Value) (B1 B2 : Bd) (kind L1 L2 t : Nat) (w : World) (hb1 : BdAt w v1 B1) (hb2 : BdAt w v2 B2) (hok1 : B1.Ok kind L1) (hok2 : B2.Ok kind L2) (h1 : L1 ≤ t) (h2 : L2 ≤ t) (ht : t ≤ botN kind) :
  Calls Tryz.prog 65 #[.agg #[v1, .int .i64 kind, .int .i64 L1], .agg #[v2, .int .i64 kind, .int .i64 L2], .int .i64 t] w fun e w' => ∃ u1 u2, e = .returned (.tuple #[.agg #[u1, .int .i64 kind, .int .i64 t], .agg #[u2, .int .i64 kind, .int .i64 t], .nilIface]) ∧ BdAt w' u1 (wkTo (L1, B1) t).2 ∧ BdAt w' u2 (wkTo (L2, B2) t).2 ∧ Below w.heap.size w w' := by
 obtain ⟨T1, rv1, rfl⟩ := bd_iface hb1
 obtain ⟨T2, rv2, rfl⟩ := bd_iface hb2
 have e1 : (wkTo (L1, B1) t).1 = t := (wkTo_ok t ht _ (L1, B1) rfl hok1).2.trans (by show max L1 t = t; omega)
 have e2 : (wkTo (L2, B2) t).1 = t := (wkTo_ok t ht _ (L2, B2) rfl hok2).2.trans (by show max L2 t = t; omega)
 have HT1 : Hid (∀ W, BdAt W (.iface T1 rv1) B1 → Calls Tryz.prog 40 #[.agg #[.iface T1 rv1, .int .i64 kind, .int .i64 L1], .int .i64 t] W fun e w' => ∃ v', e = .returned (.tuple #[.agg #[v', .int .i64 kind, .int .i64 t], .nilIface]) ∧ BdAt w' v' (wkTo (L1, B1) t).2 ∧ Below W.heap.size W w') := fun W h => by
  have h3 := to_any (.iface T1 rv1) B1 kind L1 t W h hok1 ht
  rw [e1] at h3
  exact h3
 have HT2 : Hid (∀ W, BdAt W (.iface T2 rv2) B2 → Calls Tryz.prog 40 #[.agg #[.iface T2 rv2, .int .i64 kind, .int .i64 L2], .int .i64 t] W fun e w' => ∃ v', e = .returned (.tuple #[.agg #[v', .int .i64 kind, .int .i64 t], .nilIface]) ∧ BdAt w' v' (wkTo (L2, B2) t).2 ∧ Below W.heap.size W w') := fun W h => by
  have h3 := to_any (.iface T2 rv2) B2 kind L2 t W h hok2 ht
  rw [e2] at h3
  exact h3
 generalize (wkTo (L1, B1) t).2 = D1 at HT1
 generalize (wkTo (L2, B2) t).2 = D2 at HT2
 obtain ⟨W0, hW0, hXa, hXb, hXr, hB0, hs0⟩ := boxes3 w #[.iface T1 rv1, .int .i64 kind, .int .i64 L1] 60 #[.iface T2 rv2, .int .i64 kind, .int .i64 L2] 60 #[.nilIface, .int .i64 0, .int .i64 0] 60
 obtain ⟨W1, hW1, hXq, hB1, hs1⟩ := boxes1 W0 #[.nilIface, .int .i64 0, .int .i64 0] 60
 rw [hs0] at hXq hs1
 have hXa1 := known hB1 (by omega) hXa
 have hXb1 := known hB1 (by omega) hXb
 have hXr1 := known hB1 (by omega) hXr
 obtain ⟨c0, c1, c2⟩ := cl3 hXa1
 have hB01 := hB0.trans (hB1.mono hB0.size)
 have HT1 := Lib.hid (HT1.out W1 (hb1.go hB01))
 have HB2 := Lib.hid (hb2.go hB01)
 have HXA := Lib.hid hXa1
 have HXB := Lib.hid hXb1
 have HXR := Lib.hid hXr1
 have HXQ := Lib.hid hXq
 have HB01 := Lib.hid hB01
 clear hXa hXb hXr hXq hXa1 hXb1 hXr1 hB0 hB1 hB01 hb1 hb2 hok1 hok2 h1 h2 ht e1 e2
 go_enter Tryz.func65, Tryz.ntmps65
 go_wp2_with fail
 refine HT1.out.mono ?_
 rintro e w2 ⟨u1, rfl, hu1, hb12⟩
 obtain ⟨S1, rs1, rfl⟩ := bd_iface hu1
 have hA2 := known hb12 (Nat.le_refl _) HXA.out
 obtain ⟨p0, p1, p2⟩ := cl3 hA2
 obtain ⟨f0, f1, f2⟩ := cz3 hA2
 obtain ⟨V1, hV1, hX1, hO1, hQ1⟩ := store3 (.iface S1 rs1) (.int .i64 kind) (.int .i64 t) hA2
 have hBV1 : Below w.heap.size w V1 := hQ1 _ _ (HB01.out.trans (hb12.mono HB01.out.size)) (Nat.le_refl _)
 have hXB1 := (hO1.2 (w.heap.size + 1) (by omega)).trans (known hb12 (Nat.le_refl _) HXB.out)
 have hXR1 := (hO1.2 (w.heap.size + 2) (by omega)).trans (known hb12 (Nat.le_refl _) HXR.out)
 have hXQ1 := (hO1.2 (w.heap.size + 2 + 1) (by omega)).trans (known hb12 (Nat.le_refl _) HXQ.out)
 have hu1' : BdAt V1 (.iface S1 rs1) D1 := BdAt.set_work hu1 hA2 (by simp) (by simp) (by simp) hO1
 have HT2 := Lib.hid (HT2.out V1 (BdAt.set_work (HB2.out.go hb12) hA2 (by simp) (by simp) (by simp) hO1))
 obtain ⟨q0, q1, q2⟩ := cl3 hXB1
 have HX1 := Lib.hid hX1
 have HXB1 := Lib.hid hXB1
 have HXR1 := Lib.hid hXR1
 have HXQ1 := Lib.hid hXQ1
 have HU1 := Lib.hid hu1'
 have HBV1 := Lib.hid hBV1
 clear hX1 hO1 hQ1 hXB1 hXR1 hXQ1 hu1 hu1' hBV1 hA2 hb12
 go_wp2_with fail
 refine HT2.out.mono ?_
 rintro e w3 ⟨u2, rfl, hu2, hb23⟩
 obtain ⟨S2, rs2, rfl⟩ := bd_iface hu2
 have hB3 := known hb23 (Nat.le_refl _) HXB1.out
 obtain ⟨r0, r1, r2⟩ := cl3 hB3
 obtain ⟨g0, g1, g2⟩ := cz3 hB3
 obtain ⟨V2, hV2, hX2, hO2, hQ2⟩ := store3 (.iface S2 rs2) (.int .i64 kind) (.int .i64 t) hB3
 have hBV2 : Below w.heap.size w V2 := hQ2 _ _ (HBV1.out.trans (hb23.mono HBV1.out.size)) (Nat.le_succ _)
 have hXA2 := (hO2.2 w.heap.size (by omega)).trans (known hb23 (Nat.le_refl _) HX1.out)
 have hXR2 := (hO2.2 (w.heap.size + 2) (by omega)).trans (known hb23 (Nat.le_refl _) HXR1.out)
 have hXQ2 := (hO2.2 (w.heap.size + 2 + 1) (by omega)).trans (known hb23 (Nat.le_refl _) HXQ1.out)
 have hu1V : BdAt V2 (.iface S1 rs1) D1 := BdAt.set_work (HU1.out.go hb23) hB3 (by simp) (by simp) (by simp) hO2
 have hu2V : BdAt V2 (.iface S2 rs2) D2 := BdAt.set_work hu2 hB3 (by simp) (by simp) (by simp) hO2
 obtain ⟨x0, x1, x2⟩ := cl3 hXA2
 obtain ⟨y0, y1, y2⟩ := cl3 hX2
 obtain ⟨z0, z1, z2⟩ := cl3 hXR2
 obtain ⟨h0, h1, h2⟩ := cz3 hXR2
 obtain ⟨V3, hV3, hX3, hO3, hQ3⟩ := store3 (b := w.heap.size + 1 + 1) (.iface S1 rs1) (.int .i64 kind) (.int .i64 t) hXR2
 have hXQ3 := (hO3.2 (w.heap.size + 2 + 1) (by omega)).trans hXQ2
 have hY3 := (hO3.2 (w.heap.size + 1) (by omega)).trans hX2
 obtain ⟨n0, n1, n2⟩ := cl3 hY3
 obtain ⟨l0, l1, l2⟩ := cl3 hXQ3
 obtain ⟨m0, m1, m2⟩ := cz3 hXQ3
 obtain ⟨V4, hV4, hX4, hO4, hQ4⟩ := store3 (b := w.heap.size + 1 + 1 + 1) (.iface S2 rs2) (.int .i64 kind) (.int .i64 t) hXQ3
 have hXR4 : V4.drew.heap[w.heap.size + 1 + 1]? = _ := (hO4.2 (w.heap.size + 1 + 1) (by omega)).trans hX3
 have hX4d : V4.drew.heap[w.heap.size + 1 + 1 + 1]? = _ := hX4
 obtain ⟨j0, j1, j2⟩ := cl3 hXR4
 obtain ⟨k0, k1, k2⟩ := cl3 hX4d
 have HE : Hid (BdAt V4.drew (.iface S1 rs1) D1 ∧ BdAt V4.drew (.iface S2 rs2) D2 ∧ Below w.heap.size w V4.drew) := by
  refine ⟨?_, ?_, (hQ4 _ _ (hQ3 _ _ hBV2 (by omega)) (by omega)).drew⟩
  ·exact (BdAt.set_work (BdAt.set_work hu1V hXR2 (by simp) (by simp) (by simp) hO3) hXQ3 (by simp) (by simp) (by simp) hO4).go (Below.refl _ _).drew
  ·exact (BdAt.set_work (BdAt.set_work hu2V hXR2 (by simp) (by simp) (by simp) hO3) hXQ3 (by simp) (by simp) (by simp) hO4).go (Below.refl _ _).drew
 clear hY3 hX2 hO2 hQ2 hXA2 hXR2 hXQ2 hu2 hu1V hu2V hBV2 hB3 hb23 hX3 hO3 hQ3 hXQ3 hX4 hO4 hQ4 hXR4 hX4d
 go_wp2_with fail
 go_region
 go_wp2_with fail
 exact bodyPost_ret (v := .tuple #[.agg #[.iface S1 rs1, .int .i64 kind, .int .i64 t], .agg #[.iface S2 rs2, .int .i64 kind, .int .i64 t], .nilIface]) (by simp [results, Tryz.f65, go_sem, j0, j1, j2, k0, k1, k2]) rfl ⟨_, _, rfl, HE.out.1, HE.out.2.1, HE.out.2.2⟩
end Go.Proofs.YtcbbenncdainfaaGreatDoor
namespace Go.Proofs.YtcbbenncdainfaaGreatDoor
open Go Go.RowKit Go.Shelf
set_option maxRecDepth 100000 in
set_option maxHeartbeats 2000000 in
theorem merged_some (v1 v2 : Value) (B1 B2 B : Bd) (kind L1 L2 u : Nat) (w : World) (hb1 : BdAt w v1 B1) (hb2 : BdAt w v2 B2) (hok1 : B1.Ok kind L1) (hok2 : B2.Ok kind L2) (hu : max L1 L2 = u) (hub : u ≤ botN kind) (he : (wkTo (L1, B1) u).2.merge (wkTo (L2, B2) u).2 = some B) :
  Calls Tryz.prog 33 #[.agg #[v1, .int .i64 kind, .int .i64 L1], .agg #[v2, .int .i64 kind, .int .i64 L2]] w fun e w' => ∃ v, e = .returned (.tuple #[.agg #[v, .int .i64 kind, .int .i64 u], .nilIface]) ∧ BdAt w' v B ∧ Below w.heap.size w w' := by
 obtain ⟨T1, rv1, rfl⟩ := bd_iface hb1
 obtain ⟨T2, rv2, rfl⟩ := bd_iface hb2
 have o1 : (wkTo (L1, B1) u).2.Ok kind u := by
  have h := wkTo_ok u hub _ (L1, B1) rfl hok1
  have e : (wkTo (L1, B1) u).1 = u := h.2.trans (by show max L1 u = u; omega)
  have h1 := h.1
  rwa [e] at h1
 have o2 : (wkTo (L2, B2) u).2.Ok kind u := by
  have h := wkTo_ok u hub _ (L2, B2) rfl hok2
  have e : (wkTo (L2, B2) u).1 = u := h.2.trans (by show max L2 u = u; omega)
  have h1 := h.1
  rwa [e] at h1
 have HEV : Hid (∀ W, BdAt W (.iface T1 rv1) B1 → BdAt W (.iface T2 rv2) B2 → Calls Tryz.prog 65 #[.agg #[.iface T1 rv1, .int .i64 kind, .int .i64 L1], .agg #[.iface T2 rv2, .int .i64 kind, .int .i64 L2], .int .i64 u] W fun e w' => ∃ u1 u2, e = .returned (.tuple #[.agg #[u1, .int .i64 kind, .int .i64 u], .agg #[u2, .int .i64 kind, .int .i64 u], .nilIface]) ∧ BdAt w' u1 (wkTo (L1, B1) u).2 ∧ BdAt w' u2 (wkTo (L2, B2) u).2 ∧ Below W.heap.size W w') := fun W h1 h2 => even_any _ _ B1 B2 kind L1 L2 u W h1 h2 hok1 hok2 (by omega) (by omega) hub
 generalize (wkTo (L1, B1) u).2 = D1 at HEV o1 he
 generalize (wkTo (L2, B2) u).2 = D2 at HEV o2 he
 obtain ⟨W0, hW0, hXa, hXb, hXr, hB0, hs0⟩ := boxes3 w #[.iface T1 rv1, .int .i64 kind, .int .i64 L1] 60 #[.iface T2 rv2, .int .i64 kind, .int .i64 L2] 60 #[.nilIface, .int .i64 0, .int .i64 0] 60
 obtain ⟨c0, c1, c2⟩ := cl3 hXa
 obtain ⟨d0, d1, d2⟩ := cl3 hXb
 have HEV := Lib.hid (HEV.out W0 (hb1.go hB0) (hb2.go hB0))
 have emx : max (L1 : Int) (L2 : Int) = (u : Int) := by omega
 have HXA := Lib.hid hXa
 have HXB := Lib.hid hXb
 have HXR := Lib.hid hXr
 have HB0 := Lib.hid hB0
 have HO : Hid (D1.Ok kind u ∧ D2.Ok kind u) := ⟨o1, o2⟩
 have HM := Lib.hid he
 clear hXa hXb hXr hB0 hb1 hb2 hok1 hok2 hu hub he o1 o2
 go_enter Tryz.func33, Tryz.ntmps33
 go_wp2_with fail
 refine HEV.out.mono ?_
 rintro e w2 ⟨u1, u2, rfl, hu1, hu2, hb02⟩
 obtain ⟨S1, rs1, f, rfl, hm, hcf, hc⟩ := merge_at_any hu1 HO.out.1
 obtain ⟨S2, rs2, rfl⟩ := bd_iface hu2
 have hA2 := known hb02 (Nat.le_refl _) HXA.out
 have hB2 := known hb02 (Nat.le_refl _) HXB.out
 have hR2 := known hb02 (Nat.le_refl _) HXR.out
 obtain ⟨p0, p1, p2⟩ := cl3 hA2
 obtain ⟨g0, g1, g2⟩ := cz3 hA2
 obtain ⟨V1, hV1, hX1, hO1, hQ1⟩ := store3 (.iface S1 rs1) (.int .i64 kind) (.int .i64 u) hA2
 have hB1 := (hO1.2 (w.heap.size + 1) (by omega)).trans hB2
 have hR1 := (hO1.2 (w.heap.size + 2) (by omega)).trans hR2
 obtain ⟨q0, q1, q2⟩ := cl3 hB1
 obtain ⟨h0, h1, h2⟩ := cz3 hB1
 obtain ⟨V2, hV2, hX2, hO2, hQ2⟩ := store3 (.iface S2 rs2) (.int .i64 kind) (.int .i64 u) hB1
 have hA3 := (hO2.2 w.heap.size (by omega)).trans hX1
 have hR3 := (hO2.2 (w.heap.size + 2) (by omega)).trans hR1
 have hBV : Below w.heap.size w V2 := hQ2 _ _ (hQ1 _ _ (HB0.out.trans (hb02.mono HB0.out.size)) (Nat.le_refl _)) (Nat.le_succ _)
 have k1 : BdAt V2 (.iface S1 rs1) D1 := BdAt.set_work (BdAt.set_work hu1 hA2 (by simp) (by simp) (by simp) hO1) hB1 (by simp) (by simp) (by simp) hO2
 have k2 : BdAt V2 (.iface S2 rs2) D2 := BdAt.set_work (BdAt.set_work hu2 hA2 (by simp) (by simp) (by simp) hO1) hB1 (by simp) (by simp) (by simp) hO2
 have hC := hc V2 (.iface S2 rs2) D2 k1 k2 HO.out.2
 rw [HM.out] at hC
 have HC := Lib.hid hC
 obtain ⟨x0, x1, x2⟩ := cl3 hA3
 obtain ⟨y0, y1, y2⟩ := cl3 hX2
 have HA3 := Lib.hid hA3
 have HR3 := Lib.hid hR3
 have HBV := Lib.hid hBV
 clear hc hC hA2 hB2 hR2 hX1 hO1 hQ1 hB1 hR1 hX2 hO2 hQ2 hA3 hR3 hBV k1 k2 hu1 hu2 hb02
 go_wp2_with fail
 refine HC.out.mono ?_
 rintro e w3 ⟨hb3, v3, rfl, hv3⟩
 obtain ⟨T3, rv3, rfl⟩ := bd_iface hv3
 have HF := Lib.hid (isFull_nil w3)
 go_wp2_with fail
 refine HF.out.mono ?_
 rintro e w4 ⟨rfl, hb4⟩
 have hb34 := hb3.trans (hb4.mono hb3.size)
 have hA4 := known hb34 (Nat.le_refl _) HA3.out
 have hR4 := known hb34 (Nat.le_refl _) HR3.out
 have hB4 := HBV.out.trans (hb34.mono HBV.out.size)
 obtain ⟨r0, r1, r2⟩ := cl3 hA4
 obtain ⟨s0, s1, s2⟩ := cz3 hA4
 obtain ⟨U, hU⟩ : ∃ U, w4.setCell ⟨w.heap.size, 0, none⟩ (.iface T3 rv3) = U := ⟨_, rfl⟩
 have hXU : U.heap[w.heap.size]? = some (.cells #[.iface T3 rv3, .int .i64 kind, .int .i64 u] 60 (0, 0)) := by rw [← hU]; exact hSk hA4 (.iface T3 rv3)
 have hOU : OnlyAt w.heap.size w4 U := by rw [← hU]; exact (OnlyAt.refl _ _).set _ _
 have hBU : Below w.heap.size w U := by rw [← hU]; exact hB4.setCell (p := ⟨w.heap.size, 0, none⟩) (Nat.le_refl _) _
 have hRU := (hOU.2 (w.heap.size + 2) (by omega)).trans hR4
 have hbU : BdAt U (.iface T3 rv3) B := BdAt.set_work (hv3.go hb4) hA4 (by simp) (by simp) (by simp) hOU
 obtain ⟨l0, l1, l2⟩ := cl3 hXU
 obtain ⟨n0, n1, n2⟩ := cl3 hRU
 obtain ⟨z0, z1, z2⟩ := cz3 hRU
 obtain ⟨V5, hV5, hX5, hO5, hQ5⟩ := store3 (b := w.heap.size + 1 + 1) (.iface T3 rv3) (.int .i64 kind) (.int .i64 u) hRU
 obtain ⟨k0, k1, k2⟩ := cl3 hX5
 have HE : Hid (BdAt V5 (.iface T3 rv3) B ∧ Below w.heap.size w V5) := ⟨BdAt.set_work hbU hRU (by simp) (by simp) (by simp) hO5, hQ5 _ _ hBU (by omega)⟩
 clear hm hcf hA4 hR4 hB4 hb34 hb3 hb4 hv3 hXU hOU hBU hRU hbU hX5 hO5 hQ5
 go_wp2_with fail
 exact bodyPost_ret (v := .tuple #[.agg #[.iface T3 rv3, .int .i64 kind, .int .i64 u], .nilIface]) (by simp [results, Tryz.f33, go_sem, k0, k1, k2]) rfl ⟨_, rfl, HE.out.1, HE.out.2⟩
set_option maxRecDepth 100000 in
set_option maxHeartbeats 2000000 in
theorem merged_none (v1 v2 : Value) (B1 B2 B : Bd) (kind L1 L2 u : Nat) (w : World) (hb1 : BdAt w v1 B1) (hb2 : BdAt w v2 B2) (hok1 : B1.Ok kind L1) (hok2 : B2.Ok kind L2) (hu : max L1 L2 = u) (hub : u ≤ botN kind) (hub1 : u < botN kind) (hg : GT w) (he : (wkTo (L1, B1) u).2.merge (wkTo (L2, B2) u).2 = none) (he2 : (wkTo (L1, B1) u).2.low.merge (wkTo (L2, B2) u).2.low = some B) :
  Calls Tryz.prog 33 #[.agg #[v1, .int .i64 kind, .int .i64 L1], .agg #[v2, .int .i64 kind, .int .i64 L2]] w fun e w' => ∃ v, e = .returned (.tuple #[.agg #[v, .int .i64 kind, .int .i64 ((u : Int) + 1)], .nilIface]) ∧ BdAt w' v B ∧ Below w.heap.size w w' := by
 obtain ⟨T1, rv1, rfl⟩ := bd_iface hb1
 obtain ⟨T2, rv2, rfl⟩ := bd_iface hb2
 have o1 : (wkTo (L1, B1) u).2.Ok kind u := by
  have h := wkTo_ok u hub _ (L1, B1) rfl hok1
  have e : (wkTo (L1, B1) u).1 = u := h.2.trans (by show max L1 u = u; omega)
  have h1 := h.1
  rwa [e] at h1
 have o2 : (wkTo (L2, B2) u).2.Ok kind u := by
  have h := wkTo_ok u hub _ (L2, B2) rfl hok2
  have e : (wkTo (L2, B2) u).1 = u := h.2.trans (by show max L2 u = u; omega)
  have h1 := h.1
  rwa [e] at h1
 have HEV : Hid (∀ W, BdAt W (.iface T1 rv1) B1 → BdAt W (.iface T2 rv2) B2 → Calls Tryz.prog 65 #[.agg #[.iface T1 rv1, .int .i64 kind, .int .i64 L1], .agg #[.iface T2 rv2, .int .i64 kind, .int .i64 L2], .int .i64 u] W fun e w' => ∃ u1 u2, e = .returned (.tuple #[.agg #[u1, .int .i64 kind, .int .i64 u], .agg #[u2, .int .i64 kind, .int .i64 u], .nilIface]) ∧ BdAt w' u1 (wkTo (L1, B1) u).2 ∧ BdAt w' u2 (wkTo (L2, B2) u).2 ∧ Below W.heap.size W w') := fun W h1 h2 => even_any _ _ B1 B2 kind L1 L2 u W h1 h2 hok1 hok2 (by omega) (by omega) hub
 generalize (wkTo (L1, B1) u).2 = D1 at HEV o1 he he2
 generalize (wkTo (L2, B2) u).2 = D2 at HEV o2 he he2
 obtain ⟨W0, hW0, hXa, hXb, hXr, hB0, hs0⟩ := boxes3 w #[.iface T1 rv1, .int .i64 kind, .int .i64 L1] 60 #[.iface T2 rv2, .int .i64 kind, .int .i64 L2] 60 #[.nilIface, .int .i64 0, .int .i64 0] 60
 obtain ⟨c0, c1, c2⟩ := cl3 hXa
 obtain ⟨d0, d1, d2⟩ := cl3 hXb
 have HEV := Lib.hid (HEV.out W0 (hb1.go hB0) (hb2.go hB0))
 have emx : max (L1 : Int) (L2 : Int) = (u : Int) := by omega
 have HXA := Lib.hid hXa
 have HXB := Lib.hid hXb
 have HXR := Lib.hid hXr
 have HB0 := Lib.hid hB0
 have HO : Hid (D1.Ok kind u ∧ D2.Ok kind u) := ⟨o1, o2⟩
 have HM := Lib.hid he
 have HM2 := Lib.hid he2
 have HGT := Lib.hid hg
 have HUB : Hid (u < botN kind) := hub1
 have hu4 : u ≤ 4 := by have : botN kind ≤ 4 := (by unfold botN; split <;> omega); omega
 clear hXa hXb hXr hB0 hb1 hb2 hok1 hok2 hu hub he he2 hg hub1 o1 o2
 go_enter Tryz.func33, Tryz.ntmps33
 go_wp2_with fail
 refine HEV.out.mono ?_
 rintro e w2 ⟨u1, u2, rfl, hu1, hu2, hb02⟩
 obtain ⟨S1, rs1, f, rfl, hm, hcf, hc⟩ := merge_at_any hu1 HO.out.1
 obtain ⟨S2, rs2, rfl⟩ := bd_iface hu2
 have hA2 := known hb02 (Nat.le_refl _) HXA.out
 have hB2 := known hb02 (Nat.le_refl _) HXB.out
 have hR2 := known hb02 (Nat.le_refl _) HXR.out
 obtain ⟨p0, p1, p2⟩ := cl3 hA2
 obtain ⟨g0, g1, g2⟩ := cz3 hA2
 obtain ⟨V1, hV1, hX1, hO1, hQ1⟩ := store3 (.iface S1 rs1) (.int .i64 kind) (.int .i64 u) hA2
 have hB1 := (hO1.2 (w.heap.size + 1) (by omega)).trans hB2
 have hR1 := (hO1.2 (w.heap.size + 2) (by omega)).trans hR2
 obtain ⟨q0, q1, q2⟩ := cl3 hB1
 obtain ⟨h0, h1, h2⟩ := cz3 hB1
 obtain ⟨V2, hV2, hX2, hO2, hQ2⟩ := store3 (.iface S2 rs2) (.int .i64 kind) (.int .i64 u) hB1
 have hA3 := (hO2.2 w.heap.size (by omega)).trans hX1
 have hR3 := (hO2.2 (w.heap.size + 2) (by omega)).trans hR1
 have hBV : Below w.heap.size w V2 := hQ2 _ _ (hQ1 _ _ (HB0.out.trans (hb02.mono HB0.out.size)) (Nat.le_refl _)) (Nat.le_succ _)
 have k1 : BdAt V2 (.iface S1 rs1) D1 := BdAt.set_work (BdAt.set_work hu1 hA2 (by simp) (by simp) (by simp) hO1) hB1 (by simp) (by simp) (by simp) hO2
 have k2 : BdAt V2 (.iface S2 rs2) D2 := BdAt.set_work (BdAt.set_work hu2 hA2 (by simp) (by simp) (by simp) hO1) hB1 (by simp) (by simp) (by simp) hO2
 have hC := hc V2 (.iface S2 rs2) D2 k1 k2 HO.out.2
 rw [HM.out] at hC
 have HC := Lib.hid hC
 obtain ⟨x0, x1, x2⟩ := cl3 hA3
 obtain ⟨y0, y1, y2⟩ := cl3 hX2
 have HA3 := Lib.hid hA3
 have HY3 := Lib.hid hX2
 have HR3 := Lib.hid hR3
 have HK1 := Lib.hid k1
 have HK2 := Lib.hid k2
 have HBV := Lib.hid hBV
 clear hc hC hA2 hB2 hR2 hX1 hO1 hQ1 hB1 hR1 hX2 hO2 hQ2 hA3 hR3 hBV k1 k2 hu1 hu2 hb02
 go_wp2_with fail
 refine HC.out.mono ?_
 rintro e w3 ⟨hb3, v3, rfl, hf3⟩
 have hF : Calls Tryz.prog 66 #[v3] w3 fun e w' => e = .returned (.bool true) ∧ Below w3.heap.size w3 w' := isFull_fault v3 60 w3 (HGT.out.go (HBV.out.trans (hb3.mono HBV.out.size))) hf3
 have HF := Lib.hid hF
 obtain ⟨bf, rfl, -⟩ := hf3
 clear hF hm hcf
 go_wp2_with fail
 refine HF.out.mono ?_
 rintro e w4 ⟨rfl, hb4⟩
 have hb34 := hb3.trans (hb4.mono hb3.size)
 have hA4 := known hb34 (Nat.le_refl _) HA3.out
 have hY4 := known hb34 (Nat.le_refl _) HY3.out
 have hR4 := known hb34 (Nat.le_refl _) HR3.out
 have hB4 := HBV.out.trans (hb34.mono HBV.out.size)
 have hE2 := even_any (.iface S1 rs1) (.iface S2 rs2) D1 D2 kind u u (u + 1) w4 (HK1.out.go hb34) (HK2.out.go hb34) HO.out.1 HO.out.2 (Nat.le_succ _) (Nat.le_succ _) HUB.out
 rw [show (wkTo (u, D1) (u + 1)).2 = D1.low by unfold wkTo; rw [show u + 1 - (u, D1).1 = 1 by show u + 1 - u = 1; omega]; rfl, show (wkTo (u, D2) (u + 1)).2 = D2.low by unfold wkTo; rw [show u + 1 - (u, D2).1 = 1 by show u + 1 - u = 1; omega]; rfl, Int.natCast_add] at hE2
 have HE2 := Lib.hid hE2
 obtain ⟨r0, r1, r2⟩ := cl3 hA4
 obtain ⟨s0, s1, s2⟩ := cl3 hY4
 have hwu1 : wrap64 ((u : Int) + 1) = (u : Int) + 1 := by unfold wrap64; omega
 have hwu2 : IntKind.i64.wrap ((u : Int) + 1) = (u : Int) + 1 := IntWalk.i64_in _ (by omega)
 have HA4 := Lib.hid hA4
 have HY4 := Lib.hid hY4
 have HR4 := Lib.hid hR4
 have HB4 := Lib.hid hB4
 clear hA4 hY4 hR4 hB4 hb34 hb3 hb4 hE2
 go_wp2_with fail
 refine HE2.out.mono ?_
 rintro e w5 ⟨u3, u4, rfl, hu3, hu5, hb45⟩
 obtain ⟨S3, rs3, f3, rfl, hm3, hcf3, hc3⟩ := merge_at_any hu3 (bd_low_ok HO.out.1 HUB.out)
 obtain ⟨S4, rs4, rfl⟩ := bd_iface hu5
 have hA5 := known hb45 (Nat.le_refl _) HA4.out
 have hY5 := known hb45 (Nat.le_refl _) HY4.out
 have hR5 := known hb45 (Nat.le_refl _) HR4.out
 obtain ⟨a0, a1, a2⟩ := cl3 hA5
 obtain ⟨b0, b1, b2⟩ := cz3 hA5
 obtain ⟨V3, hV3, hX3, hO3, hQ3⟩ := store3 (.iface S3 rs3) (.int .i64 kind) (.int .i64 ((u : Int) + 1)) hA5
 have hY6 := (hO3.2 (w.heap.size + 1) (by omega)).trans hY5
 have hR6 := (hO3.2 (w.heap.size + 2) (by omega)).trans hR5
 obtain ⟨m0, m1, m2⟩ := cl3 hY6
 obtain ⟨o0, o1, o2⟩ := cz3 hY6
 obtain ⟨V4, hV4, hX4, hO4, hQ4⟩ := store3 (.iface S4 rs4) (.int .i64 kind) (.int .i64 ((u : Int) + 1)) hY6
 have hA7 := (hO4.2 w.heap.size (by omega)).trans hX3
 have hR7 := (hO4.2 (w.heap.size + 2) (by omega)).trans hR6
 have hBV4 : Below w.heap.size w V4 := hQ4 _ _ (hQ3 _ _ (HB4.out.trans (hb45.mono HB4.out.size)) (Nat.le_refl _)) (Nat.le_succ _)
 have k3 : BdAt V4 (.iface S3 rs3) D1.low := BdAt.set_work (BdAt.set_work hu3 hA5 (by simp) (by simp) (by simp) hO3) hY6 (by simp) (by simp) (by simp) hO4
 have k4 : BdAt V4 (.iface S4 rs4) D2.low := BdAt.set_work (BdAt.set_work hu5 hA5 (by simp) (by simp) (by simp) hO3) hY6 (by simp) (by simp) (by simp) hO4
 have hC3 := hc3 V4 (.iface S4 rs4) D2.low k3 k4 (bd_low_ok HO.out.2 HUB.out)
 rw [HM2.out] at hC3
 have HC3 := Lib.hid hC3
 obtain ⟨t0, t1, t2⟩ := cl3 hA7
 obtain ⟨v0, v1, v2⟩ := cl3 hX4
 have HA7 := Lib.hid hA7
 have HR7 := Lib.hid hR7
 have HBV4 := Lib.hid hBV4
 clear hc3 hC3 hA5 hY5 hR5 hX3 hO3 hQ3 hY6 hR6 hX4 hO4 hQ4 hA7 hR7 hBV4 k3 k4 hu3 hu5 hb45
 go_wp2_with fail
 refine HC3.out.mono ?_
 rintro e w6 ⟨hb6, v6, rfl, hv6⟩
 obtain ⟨T3, rv3, rfl⟩ := bd_iface hv6
 have hA8 := known hb6 (Nat.le_refl _) HA7.out
 have hR8 := known hb6 (Nat.le_refl _) HR7.out
 have hB8 := HBV4.out.trans (hb6.mono HBV4.out.size)
 obtain ⟨i0, i1, i2⟩ := cl3 hA8
 obtain ⟨j0, j1, j2⟩ := cz3 hA8
 obtain ⟨U, hU⟩ : ∃ U, w6.setCell ⟨w.heap.size, 0, none⟩ (.iface T3 rv3) = U := ⟨_, rfl⟩
 have hXU : U.heap[w.heap.size]? = some (.cells #[.iface T3 rv3, .int .i64 kind, .int .i64 ((u : Int) + 1)] 60 (0, 0)) := by rw [← hU]; exact hSk hA8 (.iface T3 rv3)
 have hOU : OnlyAt w.heap.size w6 U := by rw [← hU]; exact (OnlyAt.refl _ _).set _ _
 have hBU : Below w.heap.size w U := by rw [← hU]; exact hB8.setCell (p := ⟨w.heap.size, 0, none⟩) (Nat.le_refl _) _
 have hRU := (hOU.2 (w.heap.size + 2) (by omega)).trans hR8
 have hbU : BdAt U (.iface T3 rv3) B := BdAt.set_work hv6 hA8 (by simp) (by simp) (by simp) hOU
 obtain ⟨l0, l1, l2⟩ := cl3 hXU
 obtain ⟨n0, n1, n2⟩ := cl3 hRU
 obtain ⟨z0, z1, z2⟩ := cz3 hRU
 obtain ⟨V5, hV5, hX5, hO5, hQ5⟩ := store3 (b := w.heap.size + 1 + 1) (.iface T3 rv3) (.int .i64 kind) (.int .i64 ((u : Int) + 1)) hRU
 obtain ⟨k0, k1, k2⟩ := cl3 hX5
 have HE : Hid (BdAt V5 (.iface T3 rv3) B ∧ Below w.heap.size w V5) := ⟨BdAt.set_work hbU hRU (by simp) (by simp) (by simp) hO5, hQ5 _ _ hBU (by omega)⟩
 clear hm3 hcf3 hA8 hR8 hB8 hb6 hv6 hXU hOU hBU hRU hbU hX5 hO5 hQ5
 go_wp2_with fail
 exact bodyPost_ret (v := .tuple #[.agg #[.iface T3 rv3, .int .i64 kind, .int .i64 ((u : Int) + 1)], .nilIface]) (by simp [results, Tryz.f33, go_sem, k0, k1, k2]) rfl ⟨_, rfl, HE.out.1, HE.out.2⟩
theorem merge_low_some {k L : Nat} {x y : Bd} (hx : x.Ok k L) (hy : y.Ok k L) (he : x.merge y = none) : L < botN k ∧ ∃ z, x.low.merge y.low = some z := by
 cases x with
 | num l =>
  cases y with
  | num m =>
   obtain ⟨rfl, rfl, -⟩ := hx
   exact ⟨by decide, _, rfl⟩
  | reg b r => exact absurd hy.2.1 (by have := hx.2.1; omega)
  | cnt c m => exact absurd hy.1 (by have := hx.1; omega)
  | bkt f m => exact absurd hy.1 (by have := hx.1; omega)
 | reg b r =>
  cases y with
  | num m => exact absurd hx.2.1 (by have := hy.2.1; omega)
  | reg b' s => cases he
  | cnt c m => exact absurd hy.1 (by have := hx.1; omega)
  | bkt f m => exact absurd hy.1 (by have := hx.1; omega)
 | cnt c l =>
  cases y with
  | num m => exact absurd hy.1 (by have := hx.1; omega)
  | reg b' s => exact absurd hy.1 (by have := hx.1; omega)
  | cnt c m => cases he
  | bkt f m => exact absurd hy.1 (by have := hx.1; omega)
 | bkt f l =>
  cases y with
  | num m => exact absurd hy.1 (by have := hx.1; omega)
  | reg b' s => exact absurd hy.1 (by have := hx.1; omega)
  | cnt c m => exact absurd hy.1 (by have := hx.1; omega)
  | bkt f m => cases he
theorem merged_any (v1 v2 : Value) (B1 B2 : Bd) (kind L1 L2 : Nat) (w : World) (hb1 : BdAt w v1 B1) (hb2 : BdAt w v2 B2) (hok1 : B1.Ok kind L1) (hok2 : B2.Ok kind L2) (hg : GT w) :
  Calls Tryz.prog 33 #[.agg #[v1, .int .i64 kind, .int .i64 L1], .agg #[v2, .int .i64 kind, .int .i64 L2]] w fun e w' => ∃ v, e = .returned (.tuple #[.agg #[v, .int .i64 kind, .int .i64 ((wkMerge (L1, B1) (L2, B2)).1 : Nat)], .nilIface]) ∧ BdAt w' v (wkMerge (L1, B1) (L2, B2)).2 ∧ Below w.heap.size w w' := by
 obtain ⟨u, hu⟩ : ∃ u, max L1 L2 = u := ⟨_, rfl⟩
 have hub : u ≤ botN kind := by have := ok_bot hok1; have := ok_bot hok2; omega
 have o1 : (wkTo (L1, B1) u).2.Ok kind u := by
  have h := wkTo_ok u hub _ (L1, B1) rfl hok1
  have e : (wkTo (L1, B1) u).1 = u := h.2.trans (by show max L1 u = u; omega)
  have h1 := h.1
  rwa [e] at h1
 have o2 : (wkTo (L2, B2) u).2.Ok kind u := by
  have h := wkTo_ok u hub _ (L2, B2) rfl hok2
  have e : (wkTo (L2, B2) u).1 = u := h.2.trans (by show max L2 u = u; omega)
  have h1 := h.1
  rwa [e] at h1
 cases he : (wkTo (L1, B1) u).2.merge (wkTo (L2, B2) u).2 with
 | some B =>
  have e : wkMerge (L1, B1) (L2, B2) = (u, B) := by
   unfold wkMerge
   simp only [hu, he]
  rw [e]
  exact merged_some v1 v2 B1 B2 B kind L1 L2 u w hb1 hb2 hok1 hok2 hu hub he
 | none =>
  obtain ⟨hlt, z, hz⟩ := merge_low_some o1 o2 he
  have e : wkMerge (L1, B1) (L2, B2) = (u + 1, z) := by
   unfold wkMerge
   simp only [hu, he, hz, Option.getD_some]
  rw [e]
  exact merged_none v1 v2 B1 B2 z kind L1 L2 u w hb1 hb2 hok1 hok2 hu hub hlt hg he hz
end Go.Proofs.YtcbbenncdainfaaGreatDoor
namespace Go.Proofs.YtcbbenncdainfaaGreatDoor
open Go Go.RowKit Go.Shelf
theorem wkMerge_ok {k : Nat} {s t : Nat × Bd} (hs : s.2.Ok k s.1) (ht : t.2.Ok k t.1) : (wkMerge s t).2.Ok k (wkMerge s t).1 := by
 have hub : max s.1 t.1 ≤ botN k := by have := ok_bot hs; have := ok_bot ht; omega
 have o1 := (wkTo_ok (max s.1 t.1) hub _ s rfl hs).1
 have o2 := (wkTo_ok (max s.1 t.1) hub _ t rfl ht).1
 rw [(wkTo_ok (max s.1 t.1) hub _ s rfl hs).2, show max s.1 (max s.1 t.1) = max s.1 t.1 by omega] at o1
 rw [(wkTo_ok (max s.1 t.1) hub _ t rfl ht).2, show max t.1 (max s.1 t.1) = max s.1 t.1 by omega] at o2
 unfold wkMerge
 cases he : (wkTo s (max s.1 t.1)).2.merge (wkTo t (max s.1 t.1)).2 with
 | some B => exact merge_ok o1 o2 he
 | none =>
  obtain ⟨hlt, z, hz⟩ := merge_low_some o1 o2 he
  simp only [hz, Option.getD_some]
  exact merge_ok (bd_low_ok o1 hlt) (bd_low_ok o2 hlt) hz
set_option maxRecDepth 100000 in
set_option maxHeartbeats 2000000 in
theorem Merge_any {k L1 L2 : Nat} {B1 B2 : Bd} {v1 v2 : Value} {w : World} (hok1 : B1.Ok k L1) (hok2 : B2.Ok k L2) (hg : GT w) (hv1 : SkB w v1 k L1 B1) (hv2 : SkB w v2 k L2 B2) :
  Calls Tryz.prog 7 #[v1, v2] w fun e w' => ∃ x, e = .returned (.tuple #[x, .int .i64 0]) ∧ SkB w' x k (wkMerge (L1, B1) (L2, B2)).1 (wkMerge (L1, B1) (L2, B2)).2 ∧ Below w.heap.size w w' := by
 have hok := wkMerge_ok (s := (L1, B1)) (t := (L2, B2)) hok1 hok2
 obtain ⟨y1, s1, hy1, rfl, hA1⟩ := hv1
 obtain ⟨y2, s2, hy2, rfl, hA2⟩ := hv2
 obtain ⟨W0, hW0, hXa, hXb, hXr, hB0, hs0⟩ := boxes3 w #[.int .i64 y1.kind, .int .i64 y1.level, .slice s1.ea s1.el s1.ec, .int .i64 y1.hb, .string y1.hr, .int .i64 y1.cr, .int .i64 y1.cc, .slice s1.ca s1.cl s1.cc, .int .i64 y1.gf, .slice s1.ga s1.gl s1.gc] 33 #[.int .i64 y2.kind, .int .i64 y2.level, .slice s2.ea s2.el s2.ec, .int .i64 y2.hb, .string y2.hr, .int .i64 y2.cr, .int .i64 y2.cc, .slice s2.ca s2.cl s2.cc, .int .i64 y2.gf, .slice s2.ga s2.gl s2.gc] 33 #[.int .i64 0, .int .i64 0, .slice none 0 0, .int .i64 0, .string ⟨#[]⟩, .int .i64 0, .int .i64 0, .slice none 0 0, .int .i64 0, .slice none 0 0] 33
 have HO1 := Lib.hid (open_sk_any (w := W0) hok1 ⟨y1, s1, hy1, rfl, hA1.go hB0⟩)
 have HO2 : Hid (∀ W, Below W0.heap.size W0 W → Calls Tryz.prog 31 #[.agg #[.int .i64 y2.kind, .int .i64 y2.level, .slice s2.ea s2.el s2.ec, .int .i64 y2.hb, .string y2.hr, .int .i64 y2.cr, .int .i64 y2.cc, .slice s2.ca s2.cl s2.cc, .int .i64 y2.gf, .slice s2.ga s2.gl s2.gc]] W fun e w' => ∃ b, e = .returned (.tuple #[.agg #[b, .int .i64 k, .int .i64 L2], .nilIface]) ∧ BdAt w' b B2 ∧ Below W.heap.size W w') := fun W hB => open_sk_any hok2 ⟨y2, s2, hy2, rfl, (hA2.go hB0).go hB⟩
 obtain ⟨L, hL⟩ : ∃ L : Nat, (wkMerge (L1, B1) (L2, B2)).1 = L := ⟨_, rfl⟩
 obtain ⟨B, hBB⟩ : ∃ B : Bd, (wkMerge (L1, B1) (L2, B2)).2 = B := ⟨_, rfl⟩
 rw [hL, hBB] at hok ⊢
 have HT : Hid (∀ b1 b2 W, BdAt W b1 B1 → BdAt W b2 B2 → GT W → Calls Tryz.prog 33 #[.agg #[b1, .int .i64 k, .int .i64 L1], .agg #[b2, .int .i64 k, .int .i64 L2]] W fun e w' => ∃ v', e = .returned (.tuple #[.agg #[v', .int .i64 k, .int .i64 L], .nilIface]) ∧ BdAt w' v' B ∧ Below W.heap.size W w') := by
  rw [← hBB, ← hL]
  exact fun b1 b2 W h1 h2 hgW => merged_any b1 b2 B1 B2 k L1 L2 W h1 h2 hok1 hok2 hgW
 have HN : Hid (∀ b W, BdAt W b B → Calls Tryz.prog 32 #[.agg #[b, .int .i64 k, .int .i64 L], .nilIface] W fun e w' => ∃ x, e = .returned (.tuple #[x, .int .i64 0]) ∧ SkB w' x k L B ∧ Below W.heap.size W w') := fun b W h => told_nil b B k L W h hok
 obtain ⟨c0, c1, c2, c3, c4, c5, c6, c7, c8, c9⟩ := cl10 hXa
 have HGT := Lib.hid (hg.go hB0)
 have HXB := Lib.hid hXb
 have HXR := Lib.hid hXr
 have HB0 := Lib.hid hB0
 clear hXa hXb hXr hB0 hA1 hA2 hy1 hy2 hok hok1 hok2 hL hBB hg
 go_enter Tryz.func7, Tryz.ntmps7
 go_wp2_with fail
 refine HO1.out.mono ?_
 rintro e w1 ⟨b1, rfl, hb1, hB1⟩
 obtain ⟨T1, rv1, rfl⟩ := bd_iface hb1
 obtain ⟨W2, hW2, hX2, hB2, hs2⟩ := boxes1 w1 #[.iface T1 rv1, .int .i64 k, .int .i64 L1] 60
 have hb02 := hB1.trans (hB2.mono hB1.size)
 have HO2 := Lib.hid (HO2.out W2 hb02)
 have hY2 := known hb02 (Nat.le_refl _) HXB.out
 have HK1 := Lib.hid (hb1.go hB2)
 have HX2 := Lib.hid hX2
 have HB02 := Lib.hid hb02
 have hsz1 := hB1.size
 obtain ⟨d0, d1, d2, d3, d4, d5, d6, d7, d8, d9⟩ := cl10 hY2
 clear hb1 hB1 hX2 hB2 hb02 hY2
 go_wp2_with fail
 refine HO2.out.mono ?_
 rintro e w3 ⟨b2, rfl, hb2, hb23⟩
 obtain ⟨T2, rv2, rfl⟩ := bd_iface hb2
 obtain ⟨W4, hW4, hX4, hB4, hs4⟩ := boxes1 w3 #[.iface T2 rv2, .int .i64 k, .int .i64 L2] 60
 have hb24 := hb23.trans (hB4.mono hb23.size)
 have hA4 := known hb24 (Nat.le_refl _) HX2.out
 have hb04 : Below W0.heap.size W0 W4 := HB02.out.trans (hb24.mono HB02.out.size)
 have HT2 := Lib.hid (HT.out _ _ W4 (HK1.out.go hb24) (hb2.go hB4) (HGT.out.go hb04))
 obtain ⟨q0, q1, q2⟩ := cl3 hA4
 obtain ⟨x0, x1, x2⟩ := cl3 hX4
 have HA4 := Lib.hid hA4
 have HB04 := Lib.hid hb04
 clear hb2 hb23 hX4 hB4 hb24 hA4 hb04
 go_wp2_with fail
 refine HT2.out.mono ?_
 rintro e w5 ⟨b5, rfl, hv5, hb5⟩
 obtain ⟨T5, rv5, rfl⟩ := bd_iface hv5
 have hX5 := known hb5 (Nat.le_refl _) HA4.out
 obtain ⟨p0, p1, p2⟩ := cl3 hX5
 obtain ⟨g0, g1, g2⟩ := cz3 hX5
 obtain ⟨V, hV, hVX, hVO, hVB⟩ := store3 (.iface T5 rv5) (.int .i64 k) (.int .i64 L) hX5
 have HN2 := Lib.hid (HN.out _ V (BdAt.set_work hv5 hX5 (by simp) (by simp) (by simp) hVO))
 have hb05 := HB04.out.trans (hb5.mono HB04.out.size)
 have HB5 : Hid (Below w.heap.size w V) := hVB _ _ (HB0.out.trans (hb05.mono HB0.out.size)) (by omega)
 have HR5 : Hid (V.heap[w.heap.size + 2]? = some (.cells #[.int .i64 0, .int .i64 0, .slice none 0 0, .int .i64 0, .string ⟨#[]⟩, .int .i64 0, .int .i64 0, .slice none 0 0, .int .i64 0, .slice none 0 0] 33 (0, 0))) := (hVO.2 _ (by omega)).trans (known hb05 (Nat.le_refl _) HXR.out)
 obtain ⟨r0, r1, r2⟩ := cl3 hVX
 clear hX5 hVX hVO hVB hv5 hb5 hb05
 go_wp2_with fail
 refine HN2.out.mono ?_
 rintro e w6 ⟨x6, rfl, ⟨y6, s6, hy6, rfl, hA6⟩, hb6⟩
 have hR6 := known hb6 (Nat.le_refl _) HR5.out
 obtain ⟨z0, z1, z2, z3, z4, z5, z6, z7, z8, z9⟩ := cl10 hR6
 obtain ⟨f0, f1, f2, f3, f4, f5, f6, f7, f8, f9⟩ := cz10 hR6
 obtain ⟨U, hU, hUX, hUO, hUB⟩ := store10 (.int .i64 y6.kind) (.int .i64 y6.level) (.slice s6.ea s6.el s6.ec) (.int .i64 y6.hb) (.string y6.hr) (.int .i64 y6.cr) (.int .i64 y6.cc) (.slice s6.ca s6.cl s6.cc) (.int .i64 y6.gf) (.slice s6.ga s6.gl s6.gc) hR6
 obtain ⟨k0, k1, k2, k3, k4, k5, k6, k7, k8, k9⟩ := cl10 hUX
 have HS2 : Hid (SkB U (.agg #[.int .i64 y6.kind, .int .i64 y6.level, .slice s6.ea s6.el s6.ec, .int .i64 y6.hb, .string y6.hr, .int .i64 y6.cr, .int .i64 y6.cc, .slice s6.ca s6.cl s6.cc, .int .i64 y6.gf, .slice s6.ga s6.gl s6.gc]) k L B) := SkB.apart ⟨y6, s6, hy6, rfl, hA6⟩ hR6 (fun i u => noU_zero u) hUO
 have HBU : Hid (Below w.heap.size w U) := hUB _ _ (HB5.out.trans (hb6.mono HB5.out.size)) (by omega)
 clear hR6 hUX hUO hUB hy6 hA6 hb6
 go_wp2_with fail
 exact bodyPost_ret (v := .tuple #[.agg #[.int .i64 y6.kind, .int .i64 y6.level, .slice s6.ea s6.el s6.ec, .int .i64 y6.hb, .string y6.hr, .int .i64 y6.cr, .int .i64 y6.cc, .slice s6.ca s6.cl s6.cc, .int .i64 y6.gf, .slice s6.ga s6.gl s6.gc], .int .i64 0]) (by simp [results, Tryz.f7, go_sem, k0, k1, k2, k3, k4, k5, k6, k7, k8, k9]) rfl ⟨_, rfl, HS2.out, HBU.out⟩
end Go.Proofs.YtcbbenncdainfaaGreatDoor
namespace Go.Proofs.YtcbbenncdainfaaGreatDoor
open Go Go.RowKit Go.Shelf
theorem sk_eq {x y : Sk} (h : skSame x y = true) : x = y := by
 simp only [skSame, Bool.and_eq_true, beq_iff_eq] at h
 obtain ⟨⟨⟨⟨⟨h1, h2⟩, h3, h4⟩, h5⟩, ⟨h6, h7⟩, h8⟩, h9, h10⟩ := h
 have h4' : x.hr = y.hr := by
  rw [Lib.toList_data, Lib.toList_data] at h4
  cases hx : x.hr with | mk a => cases hy : y.hr with | mk b =>
  rw [hx, hy] at h4
  rw [show a = b from Array.toList_inj.1 h4]
 cases x; cases y
 simp only at *
 subst h1 h2 h3 h4' h5 h6 h7 h8 h9 h10
 rfl
def strRegs (s : ByteArray) : List Nat := s.data.toList.map (·.toNat)
theorem strRegs_str (s : ByteArray) : hlStr (strRegs s) = s := by
 unfold hlStr strRegs
 have h : (strOfNums ((s.data.toList.map (·.toNat)).map fun (n : Nat) => (n : Int))).data.toList = s.data.toList := by
  rw [strOfNums_data, List.map_map, List.map_map]
  conv => rhs; rw [← List.map_id s.data.toList]
  refine List.map_congr_left (fun x _ => ?_)
  simp
 generalize strOfNums ((s.data.toList.map (·.toNat)).map fun (n : Nat) => (n : Int)) = z at h
 cases z with | mk a => cases s with | mk b =>
 have h2 : a.toList = b.toList := h
 rw [Array.toList_inj.1 h2]
theorem strRegs_len (s : ByteArray) : (strRegs s).length = s.size := by unfold strRegs; rw [List.length_map]; exact Array.length_toList
theorem strRegs_le (b : Nat) (s : ByteArray) (h : regsOk b s = true) : ∀ i, (strRegs s).getD i 0 ≤ 65 - b := fun i => by
 rw [List.getD_eq_getElem?_getD]
 cases hi : (strRegs s)[i]? with
 | none => exact Nat.zero_le _
 | some r =>
  have hm := List.mem_of_getElem? hi
  unfold strRegs at hm
  obtain ⟨c, hc, rfl⟩ := List.mem_map.1 hm
  unfold regsOk at h
  have h2 := List.all_eq_true.1 h c hc
  have h3 : ¬ (65 - (b : Int) < (c.toNat : Int)) := by simpa using h2
  show c.toNat ≤ 65 - b
  omega
theorem hist_says (f : Int) : ∀ (l : List (Int × Int)) (last : Int), (foldO (histStep f) last l).isSome = true → BinUp l ∧ (∀ b ∈ l, last < b.1) ∧ (∀ b ∈ l, b.2 ≠ 0) ∧ ∀ b ∈ l, boundsB f b.1 = true
 | [], _, _ => ⟨List.Pairwise.nil, (fun _ h => by cases h), (fun _ h => by cases h), fun _ h => by cases h⟩
 | b :: t, last, h => by
  rw [foldO_cons] at h
  cases hs : histStep f last b with
  | none => rw [hs] at h; cases h
  | some z =>
   rw [hs] at h
   have hs2 : z = b.1 ∧ b.2 ≠ 0 ∧ boundsB f b.1 = true ∧ last < b.1 := by
    unfold histStep at hs
    split at hs
    ·cases hs
    ·rename_i hc
     simp only [Bool.or_eq_true, beq_iff_eq, Bool.not_eq_true', decide_eq_true_eq, not_or, Bool.not_eq_false] at hc
     exact ⟨(Option.some.inj hs).symm, hc.1.1, hc.1.2, by omega⟩
   obtain ⟨rfl, h2, h3, h4⟩ := hs2
   obtain ⟨i1, i2, i3, i4⟩ := hist_says f t b.1 h
   refine ⟨List.pairwise_cons.2 ⟨i2, i1⟩, fun c hc => ?_, fun c hc => ?_, fun c hc => ?_⟩
   ·rcases List.mem_cons.1 hc with rfl | hc
    ·exact h4
    ·have := i2 c hc; omega
   ·rcases List.mem_cons.1 hc with rfl | hc
    ·exact h2
    ·exact i3 c hc
   ·rcases List.mem_cons.1 hc with rfl | hc
    ·exact h3
    ·exact i4 c hc
theorem sk_bd (x : Sk) (h : skOk x = true) (he : U64s x.e) (hc : U64s x.cl) (hg : BinsU x.gl) : ∃ (k L : Nat) (B : Bd), x = skOf k L B ∧ B.Ok k L := by
 simp only [skOk, Bool.and_eq_true, decide_eq_true_eq] at h
 obtain ⟨⟨⟨k1, k3⟩, l0, l1⟩, hb, hsm⟩ := h
 have hx := sk_eq hsm
 obtain ⟨L, hL⟩ : ∃ L : Nat, x.level = L := ⟨x.level.toNat, by omega⟩
 rcases (by omega : x.kind = 1 ∨ x.kind = 2 ∨ x.kind = 3) with hk | hk | hk
 ·have hbt : bottomB x.kind = 4 := by rw [hk]; rfl
  rw [hbt, hL] at l1
  by_cases h0 : L = 0
  ·subst h0
   have h1 : skCanon x = skNum 1 0 x.e := by unfold skCanon; rw [hk, hL]; rfl
   have h2 : exRight x.e = true := by unfold bodyRight at hb; rw [hk, hL] at hb; exact hb
   obtain ⟨u1, u2⟩ := exRight_up x.e h2
   exact ⟨1, 0, .num x.e, by rw [h1] at hx; exact hx, rfl, rfl, u1, u2, he⟩
  ·have hn0 : ((L : Int) == 0) = false := by simp; omega
   have h1 : skCanon x = skReg 1 L x.hb x.hr := by
    unfold skCanon
    rw [hk, hL]
    show (if ((1 : Int) == 1) then if ((L : Int) == 0) then _ else _ else _) = _
    rw [hn0]
    rfl
   have h2 : (hlRight x.hb x.hr && (x.hb == 8 - (L : Int))) = true := by
    unfold bodyRight at hb
    rw [hk, hL] at hb
    have hb2 : (if ((L : Int) == 0) then exRight x.e else hlRight x.hb x.hr && (x.hb == 8 - (L : Int))) = true := hb
    rw [hn0] at hb2
    exact hb2
   rw [Bool.and_eq_true, beq_iff_eq] at h2
   obtain ⟨h3, h4⟩ := h2
   unfold hlRight at h3
   rw [Bool.and_eq_true, Bool.and_eq_true, beq_iff_eq] at h3
   obtain ⟨⟨h5, h6⟩, h7⟩ := h3
   obtain ⟨b, hbb⟩ : ∃ b : Nat, x.hb = b := ⟨x.hb.toNat, by omega⟩
   rw [hbb] at h4 h6 h7 h1
   have hsz : x.hr.size = 2 ^ b := by
    rw [Int.toNat_natCast] at h6
    have : ((2 : Int) ^ b) = ((2 ^ b : Nat) : Int) := by simp
    omega
   refine ⟨1, L, .reg b (strRegs x.hr), ?_, rfl, by omega, by omega, by omega, by rw [strRegs_len]; exact hsz, strRegs_le b x.hr h7⟩
   show x = skReg 1 L b (hlStr (strRegs x.hr))
   rw [strRegs_str]
   exact hx.trans h1
 ·have hbt : bottomB x.kind = 3 := by rw [hk]; rfl
  rw [hbt, hL] at l1
  have h1 : skCanon x = skCnt 2 L x.cr x.cc x.cl := by unfold skCanon; rw [hk, hL]; rfl
  have h2 : (cmRight x.cr x.cc x.cl && (x.cr == 2) && (x.cc == 32 / 2 ^ L)) = true := by
   unfold bodyRight at hb
   rw [hk, hL, Int.toNat_natCast] at hb
   exact hb
  rw [Bool.and_eq_true, Bool.and_eq_true, beq_iff_eq, beq_iff_eq] at h2
  obtain ⟨⟨h3, h4⟩, h5⟩ := h2
  unfold cmRight at h3
  rw [Bool.and_eq_true, beq_iff_eq] at h3
  have h6 := h3.2
  obtain ⟨c, hcc⟩ : ∃ c : Nat, x.cc = c := ⟨32 / 2 ^ L, by rw [h5]; simp⟩
  have hc32 : c * 2 ^ L = 32 := by
   have hc2 : (c : Int) = ((32 / 2 ^ L : Nat) : Int) := by rw [← hcc, h5]; simp
   have hc3 : c = 32 / 2 ^ L := by omega
   rw [hc3]
   rcases (by omega : L = 0 ∨ L = 1 ∨ L = 2 ∨ L = 3) with rfl | rfl | rfl | rfl <;> rfl
  rw [h4, hcc] at h6 h1
  refine ⟨2, L, .cnt c x.cl, ?_, rfl, by omega, hc32, by omega, hc⟩
  exact hx.trans h1
 ·have hbt : bottomB x.kind = 3 := by rw [hk]; rfl
  rw [hbt, hL] at l1
  have h1 : skCanon x = skBkt 3 L x.gf x.gl := by unfold skCanon; rw [hk, hL]; rfl
  have h2 : (hiRight x.gf x.gl && (x.gf == 3 - (L : Int))) = true := by
   unfold bodyRight at hb
   rw [hk, hL] at hb
   exact hb
  rw [Bool.and_eq_true, beq_iff_eq] at h2
  obtain ⟨h3, h4⟩ := h2
  unfold hiRight at h3
  rw [Bool.and_eq_true] at h3
  obtain ⟨u1, u2, u3, u4⟩ := hist_says x.gf x.gl (-1) h3.2
  obtain ⟨f, hf⟩ : ∃ f : Nat, x.gf = f := ⟨x.gf.toNat, by omega⟩
  rw [hf] at u4 h4 h1
  refine ⟨3, L, .bkt f x.gl, hx.trans h1, rfl, by omega, by omega, u1, u3, hg, u4⟩
end Go.Proofs.YtcbbenncdainfaaGreatDoor
namespace Go.Proofs.YtcbbenncdainfaaGreatDoor
open Go Go.RowKit Go.Shelf
set_option maxRecDepth 100000 in
set_option maxHeartbeats 2000000 in
theorem merged_kinds (v1 v2 : Value) (B1 B2 : Bd) (k k2 L1 L2 : Nat) (w : World) (hb1 : BdAt w v1 B1) (hb2 : BdAt w v2 B2) (hkk : k ≠ k2) :
  Calls Tryz.prog 33 #[.agg #[v1, .int .i64 k, .int .i64 L1], .agg #[v2, .int .i64 k2, .int .i64 L2]] w fun e w' => ∃ f, e = .returned (.tuple #[.agg #[.nilIface, .int .i64 0, .int .i64 0], f]) ∧ FaultAt w' f 101 ∧ Below w.heap.size w w' := by
 obtain ⟨T1, rv1, rfl⟩ := bd_iface hb1
 obtain ⟨T2, rv2, rfl⟩ := bd_iface hb2
 obtain ⟨W0, hW0, hXp, hXq, hXr, hB0, hs0⟩ := boxes3 w #[.iface T1 rv1, .int .i64 k, .int .i64 L1] 60 #[.iface T2 rv2, .int .i64 k2, .int .i64 L2] 60 #[.nilIface, .int .i64 0, .int .i64 0] 60
 obtain ⟨W1, hW1, hX1, hB1, hs1⟩ := boxes1 W0 #[.int .i64 101] 99
 have hR1 := known hB1 (Nat.le_refl _) hXr
 have e0 : W1.setCell ⟨w.heap.size + 1 + 1, 0, none⟩ .nilIface = W1 := set_same hR1 rfl
 have e1 : W1.setCell ⟨w.heap.size + 1 + 1, 1, none⟩ (.int .i64 0) = W1 := set_same hR1 rfl
 have e2 : W1.setCell ⟨w.heap.size + 1 + 1, 2, none⟩ (.int .i64 0) = W1 := set_same hR1 rfl
 obtain ⟨r0, r1, r2⟩ := cl3 hR1
 obtain ⟨g0, g1, g2⟩ := cz3 hR1
 have HE : Hid (FaultAt W1 (.iface 97 (.pointer (some ⟨w.heap.size + 3, 0, none⟩))) 101 ∧ Below w.heap.size w W1) := ⟨⟨w.heap.size + 3, rfl, by rw [hs0] at hX1; exact hX1⟩, hB0.trans (hB1.mono hB0.size)⟩
 obtain ⟨c0, c1, c2⟩ := cl3 hXp
 obtain ⟨d0, d1, d2⟩ := cl3 hXq
 have hne : ((k : Int) != (k2 : Int)) = true := by simp; omega
 clear hXp hXq hXr hB0 hb1 hb2 hkk hX1 hB1 hR1
 go_enter Tryz.func33, Tryz.ntmps33
 go_wp2_with fail
 exact bodyPost_ret (v := .tuple #[.agg #[.nilIface, .int .i64 0, .int .i64 0], .iface 97 (.pointer (some ⟨w.heap.size + 3, 0, none⟩))]) (by simp [results, Tryz.f33, go_sem, r0, r1, r2]) rfl ⟨_, rfl, HE.out.1, HE.out.2⟩
set_option maxRecDepth 100000 in
set_option maxHeartbeats 4000000 in
theorem Merge_kinds {k k2 L1 L2 : Nat} {B1 B2 : Bd} {v1 v2 : Value} {w : World} (hok1 : B1.Ok k L1) (hok2 : B2.Ok k2 L2) (hkk : k ≠ k2) (hg : GT w) (hv1 : SkB w v1 k L1 B1) (hv2 : SkB w v2 k2 L2 B2) :
  Calls Tryz.prog 7 #[v1, v2] w fun e w' => e = .returned (.tuple #[.agg #[.int .i64 0, .int .i64 0, .slice none 0 0, .int .i64 0, .string ⟨#[]⟩, .int .i64 0, .int .i64 0, .slice none 0 0, .int .i64 0, .slice none 0 0], .int .i64 101]) ∧ Below w.heap.size w w' := by
 obtain ⟨y1, s1, hy1, rfl, hA1⟩ := hv1
 obtain ⟨y2, s2, hy2, rfl, hA2⟩ := hv2
 obtain ⟨W0, hW0, hXa, hXb, hXr, hB0, hs0⟩ := boxes3 w #[.int .i64 y1.kind, .int .i64 y1.level, .slice s1.ea s1.el s1.ec, .int .i64 y1.hb, .string y1.hr, .int .i64 y1.cr, .int .i64 y1.cc, .slice s1.ca s1.cl s1.cc, .int .i64 y1.gf, .slice s1.ga s1.gl s1.gc] 33 #[.int .i64 y2.kind, .int .i64 y2.level, .slice s2.ea s2.el s2.ec, .int .i64 y2.hb, .string y2.hr, .int .i64 y2.cr, .int .i64 y2.cc, .slice s2.ca s2.cl s2.cc, .int .i64 y2.gf, .slice s2.ga s2.gl s2.gc] 33 #[.int .i64 0, .int .i64 0, .slice none 0 0, .int .i64 0, .string ⟨#[]⟩, .int .i64 0, .int .i64 0, .slice none 0 0, .int .i64 0, .slice none 0 0] 33
 have HO1 := Lib.hid (open_sk_any (w := W0) hok1 ⟨y1, s1, hy1, rfl, hA1.go hB0⟩)
 have HO2 : Hid (∀ W, Below W0.heap.size W0 W → Calls Tryz.prog 31 #[.agg #[.int .i64 y2.kind, .int .i64 y2.level, .slice s2.ea s2.el s2.ec, .int .i64 y2.hb, .string y2.hr, .int .i64 y2.cr, .int .i64 y2.cc, .slice s2.ca s2.cl s2.cc, .int .i64 y2.gf, .slice s2.ga s2.gl s2.gc]] W fun e w' => ∃ b, e = .returned (.tuple #[.agg #[b, .int .i64 k2, .int .i64 L2], .nilIface]) ∧ BdAt w' b B2 ∧ Below W.heap.size W w') := fun W hB => open_sk_any hok2 ⟨y2, s2, hy2, rfl, (hA2.go hB0).go hB⟩
 have HT : Hid (∀ b1 b2 W, BdAt W b1 B1 → BdAt W b2 B2 → Calls Tryz.prog 33 #[.agg #[b1, .int .i64 k, .int .i64 L1], .agg #[b2, .int .i64 k2, .int .i64 L2]] W fun e w' => ∃ f, e = .returned (.tuple #[.agg #[.nilIface, .int .i64 0, .int .i64 0], f]) ∧ FaultAt w' f 101 ∧ Below W.heap.size W w') := fun b1 b2 W h1 h2 => merged_kinds b1 b2 B1 B2 k k2 L1 L2 W h1 h2 hkk
 obtain ⟨c0, c1, c2, c3, c4, c5, c6, c7, c8, c9⟩ := cl10 hXa
 have HGT := Lib.hid (hg.go hB0)
 have HXB := Lib.hid hXb
 have HXR := Lib.hid hXr
 have HB0 := Lib.hid hB0
 clear hXa hXb hXr hB0 hA1 hA2 hy1 hy2 hok1 hok2 hkk hg
 go_enter Tryz.func7, Tryz.ntmps7
 go_wp2_with fail
 refine HO1.out.mono ?_
 rintro e w1 ⟨b1, rfl, hb1, hB1⟩
 obtain ⟨T1, rv1, rfl⟩ := bd_iface hb1
 obtain ⟨W2, hW2, hX2, hB2, hs2⟩ := boxes1 w1 #[.iface T1 rv1, .int .i64 k, .int .i64 L1] 60
 have hb02 := hB1.trans (hB2.mono hB1.size)
 have HO2 := Lib.hid (HO2.out W2 hb02)
 have hY2 := known hb02 (Nat.le_refl _) HXB.out
 have HK1 := Lib.hid (hb1.go hB2)
 have HX2 := Lib.hid hX2
 have HB02 := Lib.hid hb02
 have hsz1 := hB1.size
 obtain ⟨d0, d1, d2, d3, d4, d5, d6, d7, d8, d9⟩ := cl10 hY2
 clear hb1 hB1 hX2 hB2 hb02 hY2
 go_wp2_with fail
 refine HO2.out.mono ?_
 rintro e w3 ⟨b2, rfl, hb2, hb23⟩
 obtain ⟨T2, rv2, rfl⟩ := bd_iface hb2
 obtain ⟨W4, hW4, hX4, hB4, hs4⟩ := boxes1 w3 #[.iface T2 rv2, .int .i64 k2, .int .i64 L2] 60
 have hb24 := hb23.trans (hB4.mono hb23.size)
 have hA4 := known hb24 (Nat.le_refl _) HX2.out
 have hb04 : Below W0.heap.size W0 W4 := HB02.out.trans (hb24.mono HB02.out.size)
 have HT2 := Lib.hid (HT.out _ _ W4 (HK1.out.go hb24) (hb2.go hB4))
 obtain ⟨q0, q1, q2⟩ := cl3 hA4
 obtain ⟨x0, x1, x2⟩ := cl3 hX4
 have HA4 := Lib.hid hA4
 have HB04 := Lib.hid hb04
 clear hb2 hb23 hX4 hB4 hb24 hA4 hb04
 go_wp2_with fail
 refine HT2.out.mono ?_
 rintro e w5 ⟨f, rfl, hf5, hb5⟩
 have hX5 := known hb5 (Nat.le_refl _) HA4.out
 obtain ⟨p0, p1, p2⟩ := cl3 hX5
 obtain ⟨g0, g1, g2⟩ := cz3 hX5
 obtain ⟨V, hV, hVX, hVO, hVB⟩ := store3 .nilIface (.int .i64 0) (.int .i64 0) hX5
 have hb05 := HB04.out.trans (hb5.mono HB04.out.size)
 have HB5 : Hid (Below w.heap.size w V) := hVB _ _ (HB0.out.trans (hb05.mono HB0.out.size)) (by omega)
 have hGV : GT V := HGT.out.go (hVB _ _ hb05 (by omega))
 have HN2 := Lib.hid (told_fault f 101 V (fault_apart hf5 hX5 hVO) hGV)
 have HR5 : Hid (V.heap[w.heap.size + 2]? = some (.cells #[.int .i64 0, .int .i64 0, .slice none 0 0, .int .i64 0, .string ⟨#[]⟩, .int .i64 0, .int .i64 0, .slice none 0 0, .int .i64 0, .slice none 0 0] 33 (0, 0))) := (hVO.2 _ (by omega)).trans (known hb05 (Nat.le_refl _) HXR.out)
 obtain ⟨q0, q1, q2⟩ := cl3 hVX
 clear hX5 hVX hVO hVB hf5 hb5 hb05 hGV
 go_wp2_with fail
 refine HN2.out.mono ?_
 rintro e w6 ⟨rfl, hb6⟩
 have hR6 := known hb6 (Nat.le_refl _) HR5.out
 obtain ⟨r0, r1, r2, r3, r4, r5, r6, r7, r8, r9⟩ := cl10 hR6
 obtain ⟨z0, z1, z2, z3, z4, z5, z6, z7, z8, z9⟩ := cz10 hR6
 have e0 : w6.setCell ⟨w.heap.size + 2, 0, none⟩ (.int .i64 0) = w6 := set_same hR6 rfl
 have e1 : w6.setCell ⟨w.heap.size + 2, 1, none⟩ (.int .i64 0) = w6 := set_same hR6 rfl
 have e2 : w6.setCell ⟨w.heap.size + 2, 2, none⟩ (.slice none 0 0) = w6 := set_same hR6 rfl
 have e3 : w6.setCell ⟨w.heap.size + 2, 3, none⟩ (.int .i64 0) = w6 := set_same hR6 rfl
 have e4 : w6.setCell ⟨w.heap.size + 2, 4, none⟩ (.string ⟨#[]⟩) = w6 := set_same hR6 rfl
 have e5 : w6.setCell ⟨w.heap.size + 2, 5, none⟩ (.int .i64 0) = w6 := set_same hR6 rfl
 have e6 : w6.setCell ⟨w.heap.size + 2, 6, none⟩ (.int .i64 0) = w6 := set_same hR6 rfl
 have e7 : w6.setCell ⟨w.heap.size + 2, 7, none⟩ (.slice none 0 0) = w6 := set_same hR6 rfl
 have e8 : w6.setCell ⟨w.heap.size + 2, 8, none⟩ (.int .i64 0) = w6 := set_same hR6 rfl
 have e9 : w6.setCell ⟨w.heap.size + 2, 9, none⟩ (.slice none 0 0) = w6 := set_same hR6 rfl
 have HBU : Hid (Below w.heap.size w w6) := HB5.out.trans (hb6.mono HB5.out.size)
 clear hR6 hb6
 go_wp2_with fail
 exact bodyPost_ret (v := .tuple #[.agg #[.int .i64 0, .int .i64 0, .slice none 0 0, .int .i64 0, .string ⟨#[]⟩, .int .i64 0, .int .i64 0, .slice none 0 0, .int .i64 0, .slice none 0 0], .int .i64 101]) (by simp [results, Tryz.f7, go_sem, r0, r1, r2, r3, r4, r5, r6, r7, r8, r9]) rfl ⟨rfl, HBU.out⟩
end Go.Proofs.YtcbbenncdainfaaGreatDoor
namespace Go.Proofs.YtcbbenncdainfaaGreatDoor
open Go Go.RowKit Go.Shelf
def bdOf (x : Sk) : Bd := if x.kind == 1 then (if x.level == 0 then .num x.e else .reg x.hb.toNat (strRegs x.hr)) else if x.kind == 2 then .cnt x.cc.toNat x.cl else .bkt x.gf.toNat x.gl
theorem regs_str (r : List Nat) (h : ∀ i, r.getD i 0 ≤ 255) : strRegs (hlStr r) = r := by
 unfold strRegs hlStr
 rw [strOfNums_data, List.map_map, List.map_map]
 conv => rhs; rw [← List.map_id r]
 refine List.map_congr_left (fun x hx => ?_)
 obtain ⟨i, hi⟩ := List.mem_iff_getElem?.1 hx
 have h1 := h i
 rw [List.getD_eq_getElem?_getD, hi, Option.getD_some] at h1
 show (UInt8.ofNat ((x : Int)).toNat).toNat = x
 rw [Int.toNat_natCast]
 simp
 omega
theorem bdOf_sk {k L : Nat} {B : Bd} (h : B.Ok k L) : bdOf (skOf k L B) = B := by
 cases B with
 | num l => obtain ⟨rfl, rfl, -⟩ := h; rfl
 | reg b r =>
  obtain ⟨rfl, h1, -, h3, -, h5⟩ := h
  have h0 : (((L : Nat) : Int) == 0) = false := by simp; omega
  show (if (((1 : Nat) : Int) == 1) then (if ((L : Int) == 0) then _ else Bd.reg ((b : Int)).toNat (strRegs (hlStr r))) else _) = _
  rw [h0, Int.toNat_natCast, regs_str r (fun i => by have := h5 i; omega)]
  rfl
 | cnt c l => obtain ⟨rfl, -⟩ := h; rfl
 | bkt f l => obtain ⟨rfl, -⟩ := h; rfl
def skLow (x : Sk) : Sk := skOf x.kind.toNat (x.level.toNat + 1) (bdOf x).low
def skTo (x : Sk) (t : Nat) : Sk := skOf x.kind.toNat (wkTo (x.level.toNat, bdOf x) t).1 (wkTo (x.level.toNat, bdOf x) t).2
theorem skLow_sk {k L : Nat} {B : Bd} (h : B.Ok k L) : skLow (skOf k L B) = skOf k (L + 1) B.low := by
 unfold skLow
 rw [bdOf_sk h, (skOf_kind k L B).1, (skOf_kind k L B).2, Int.toNat_natCast, Int.toNat_natCast]
theorem skTo_sk {k L : Nat} {B : Bd} (h : B.Ok k L) (t : Nat) : skTo (skOf k L B) t = skOf k (wkTo (L, B) t).1 (wkTo (L, B) t).2 := by
 unfold skTo
 rw [bdOf_sk h, (skOf_kind k L B).1, (skOf_kind k L B).2, Int.toNat_natCast, Int.toNat_natCast]
end Go.Proofs.YtcbbenncdainfaaGreatDoor

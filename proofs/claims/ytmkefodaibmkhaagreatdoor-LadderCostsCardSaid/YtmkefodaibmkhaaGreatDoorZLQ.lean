/- Package ladder: Lower at the bottom. -/
import Derived.Test.YtmkefodaibmkhaaGreatDoorZLG
namespace Go.Proofs.YtmkefodaibmkhaaGreatDoor
open Go Go.RowKit Go.Shelf

set_option maxRecDepth 100000 in
set_option maxHeartbeats 2000000 in
theorem lowered_bot (v : Value) (B : Bd) (kind level : Nat) (w : World) (hb : BdAt w v B) (hok : B.Ok kind level) (hlv : level = botN kind) :
    Calls Tryz.prog 44 #[.agg #[v, .int .i64 kind, .int .i64 level]] w fun e w' => ∃ f, e = .returned (.tuple #[.agg #[.nilIface, .int .i64 0, .int .i64 0], f]) ∧ FaultAt w' f 102 ∧ Below w.heap.size w w' := by
  obtain ⟨T, rv, rfl⟩ := bd_iface hb
  obtain ⟨W0, hW0, hXp, hXr, hB0, hs0⟩ := boxes2 w #[.iface T rv, .int .i64 kind, .int .i64 level] 68 #[.nilIface, .int .i64 0, .int .i64 0] 68
  have HBT : Hid (∀ w, Calls Tryz.prog 12 #[.int .i64 kind] w fun e w' => e = .returned (.int .i64 (botN kind : Nat)) ∧ w' = w) := fun w => (Bottom_any kind w).mono fun e w' ⟨h1, h2⟩ => ⟨by rw [h1, (bot_eq hok).1], h2.symm⟩
  have c0 : W0.cell? ⟨w.heap.size, 0, none⟩ = some (.iface T rv) := cell_of_cells hXp 0
  have c1 : W0.cell? ⟨w.heap.size, 1, none⟩ = some (.int .i64 kind) := cell_of_cells hXp 1
  have c2 : W0.cell? ⟨w.heap.size, 2, none⟩ = some (.int .i64 level) := cell_of_cells hXp 2
  have HXR := Lib.hid hXr
  have HB0 := Lib.hid hB0
  have t2 : botN kind ≤ level := by omega
  have hb4 : botN kind ≤ 4 := by unfold botN; split <;> omega
  clear hXp hXr hB0 hb hok hlv
  go_enter Tryz.func44, Tryz.ntmps44
  go_wp2_with fail
  go_quiet ((go_at_call 12; exact Calls.quiet_of_same (HBT.out _)))
  obtain ⟨W1, hW1, hX1, hB1, hs1⟩ := boxes1 (W0.drewN nq) #[.int .i64 102] 131
  have hb01 : Below W0.heap.size W0 W1 := (drewN_below nq).trans hB1
  have hR1 := known hb01 (Nat.le_refl _) HXR.out
  have e0 : W1.setCell ⟨w.heap.size + 1, 0, none⟩ .nilIface = W1 := set_same hR1 rfl
  have e1 : W1.setCell ⟨w.heap.size + 1, 1, none⟩ (.int .i64 0) = W1 := set_same hR1 rfl
  have e2 : W1.setCell ⟨w.heap.size + 1, 2, none⟩ (.int .i64 0) = W1 := set_same hR1 rfl
  have r0 : W1.cell? ⟨w.heap.size + 1, 0, none⟩ = some (.nilIface) := cell_of_cells hR1 0
  have r1 : W1.cell? ⟨w.heap.size + 1, 1, none⟩ = some (.int .i64 0) := cell_of_cells hR1 1
  have r2 : W1.cell? ⟨w.heap.size + 1, 2, none⟩ = some (.int .i64 0) := cell_of_cells hR1 2
  have g0 : W1.frozen? ⟨w.heap.size + 1, 0, none⟩ = false := frozen_of_cells hR1 0
  have g1 : W1.frozen? ⟨w.heap.size + 1, 1, none⟩ = false := frozen_of_cells hR1 1
  have g2 : W1.frozen? ⟨w.heap.size + 1, 2, none⟩ = false := frozen_of_cells hR1 2
  have hz : (W0.drewN nq).heap.size = w.heap.size + 2 := hs0
  have HE : Hid (FaultAt W1 (.iface 129 (.pointer (some ⟨w.heap.size + 2, 0, none⟩))) 102 ∧ Below w.heap.size w W1) := ⟨⟨w.heap.size + 2, rfl, by rw [hz] at hX1; exact hX1⟩, HB0.out.trans (hb01.mono HB0.out.size)⟩
  clear hX1 hB1 hs1 hb01 hR1
  go_wp2_with fail
  exact bodyPost_ret (v := .tuple #[.agg #[.nilIface, .int .i64 0, .int .i64 0], .iface 129 (.pointer (some ⟨w.heap.size + 2, 0, none⟩))]) (by simp [results, Tryz.f44, go_sem, r0, r1, r2]) rfl ⟨_, rfl, HE.out.1, HE.out.2⟩
set_option maxRecDepth 100000 in
set_option maxHeartbeats 1000000 in
theorem told_fault (f : Value) (no : Int) (w : World) (hf : FaultAt w f no) (hg : GT w) :
    Calls Tryz.prog 40 #[.agg #[.nilIface, .int .i64 0, .int .i64 0], f] w fun e w' => e = .returned (.tuple #[.agg #[.int .i64 0, .int .i64 0, .slice none 0 0, .int .i64 0, .string ⟨#[]⟩, .int .i64 0, .int .i64 0, .slice none 0 0, .int .i64 0, .slice none 0 0], .int .i64 no]) ∧ Below w.heap.size w w' := by
  obtain ⟨W0, hW0, hXp, hXr, hB0, hs0⟩ := boxes2 w #[.nilIface, .int .i64 0, .int .i64 0] 68 #[.int .i64 0, .int .i64 0, .slice none 0 0, .int .i64 0, .string ⟨#[]⟩, .int .i64 0, .int .i64 0, .slice none 0 0, .int .i64 0, .slice none 0 0] 36
  have hf0 : FaultAt W0 f no := by
    obtain ⟨b, e, h⟩ := hf
    exact ⟨b, e, known hB0 (Nat.le_refl _) h⟩
  have HE := Lib.hid (errno_fault f no W0 (hg.go hB0) hf0)
  obtain ⟨b, rfl, -⟩ := hf
  have c0 : W0.cell? ⟨w.heap.size, 0, none⟩ = some (.nilIface) := cell_of_cells hXp 0
  have c1 : W0.cell? ⟨w.heap.size, 1, none⟩ = some (.int .i64 0) := cell_of_cells hXp 1
  have c2 : W0.cell? ⟨w.heap.size, 2, none⟩ = some (.int .i64 0) := cell_of_cells hXp 2
  have HXR := Lib.hid hXr
  have HB0 := Lib.hid hB0
  clear hXp hXr hB0 hf0 hg
  go_enter Tryz.func40, Tryz.ntmps40
  go_wp2_with fail
  refine HE.out.mono ?_
  rintro e w1 ⟨rfl, hb1⟩
  have hR1 := known hb1 (Nat.le_refl _) HXR.out
  have r0 : w1.cell? ⟨w.heap.size + 1, 0, none⟩ = some (.int .i64 0) := cell_of_cells hR1 0
  have r1 : w1.cell? ⟨w.heap.size + 1, 1, none⟩ = some (.int .i64 0) := cell_of_cells hR1 1
  have r2 : w1.cell? ⟨w.heap.size + 1, 2, none⟩ = some (.slice none 0 0) := cell_of_cells hR1 2
  have r3 : w1.cell? ⟨w.heap.size + 1, 3, none⟩ = some (.int .i64 0) := cell_of_cells hR1 3
  have r4 : w1.cell? ⟨w.heap.size + 1, 4, none⟩ = some (.string ⟨#[]⟩) := cell_of_cells hR1 4
  have r5 : w1.cell? ⟨w.heap.size + 1, 5, none⟩ = some (.int .i64 0) := cell_of_cells hR1 5
  have r6 : w1.cell? ⟨w.heap.size + 1, 6, none⟩ = some (.int .i64 0) := cell_of_cells hR1 6
  have r7 : w1.cell? ⟨w.heap.size + 1, 7, none⟩ = some (.slice none 0 0) := cell_of_cells hR1 7
  have r8 : w1.cell? ⟨w.heap.size + 1, 8, none⟩ = some (.int .i64 0) := cell_of_cells hR1 8
  have r9 : w1.cell? ⟨w.heap.size + 1, 9, none⟩ = some (.slice none 0 0) := cell_of_cells hR1 9
  have g0 : w1.frozen? ⟨w.heap.size + 1, 0, none⟩ = false := frozen_of_cells hR1 0
  have g1 : w1.frozen? ⟨w.heap.size + 1, 1, none⟩ = false := frozen_of_cells hR1 1
  have g2 : w1.frozen? ⟨w.heap.size + 1, 2, none⟩ = false := frozen_of_cells hR1 2
  have g3 : w1.frozen? ⟨w.heap.size + 1, 3, none⟩ = false := frozen_of_cells hR1 3
  have g4 : w1.frozen? ⟨w.heap.size + 1, 4, none⟩ = false := frozen_of_cells hR1 4
  have g5 : w1.frozen? ⟨w.heap.size + 1, 5, none⟩ = false := frozen_of_cells hR1 5
  have g6 : w1.frozen? ⟨w.heap.size + 1, 6, none⟩ = false := frozen_of_cells hR1 6
  have g7 : w1.frozen? ⟨w.heap.size + 1, 7, none⟩ = false := frozen_of_cells hR1 7
  have g8 : w1.frozen? ⟨w.heap.size + 1, 8, none⟩ = false := frozen_of_cells hR1 8
  have g9 : w1.frozen? ⟨w.heap.size + 1, 9, none⟩ = false := frozen_of_cells hR1 9
  have e0 : w1.setCell ⟨w.heap.size + 1, 0, none⟩ (.int .i64 0) = w1 := set_same hR1 rfl
  have e1 : w1.setCell ⟨w.heap.size + 1, 1, none⟩ (.int .i64 0) = w1 := set_same hR1 rfl
  have e2 : w1.setCell ⟨w.heap.size + 1, 2, none⟩ (.slice none 0 0) = w1 := set_same hR1 rfl
  have e3 : w1.setCell ⟨w.heap.size + 1, 3, none⟩ (.int .i64 0) = w1 := set_same hR1 rfl
  have e4 : w1.setCell ⟨w.heap.size + 1, 4, none⟩ (.string ⟨#[]⟩) = w1 := set_same hR1 rfl
  have e5 : w1.setCell ⟨w.heap.size + 1, 5, none⟩ (.int .i64 0) = w1 := set_same hR1 rfl
  have e6 : w1.setCell ⟨w.heap.size + 1, 6, none⟩ (.int .i64 0) = w1 := set_same hR1 rfl
  have e7 : w1.setCell ⟨w.heap.size + 1, 7, none⟩ (.slice none 0 0) = w1 := set_same hR1 rfl
  have e8 : w1.setCell ⟨w.heap.size + 1, 8, none⟩ (.int .i64 0) = w1 := set_same hR1 rfl
  have e9 : w1.setCell ⟨w.heap.size + 1, 9, none⟩ (.slice none 0 0) = w1 := set_same hR1 rfl
  have HBW : Hid (Below w.heap.size w w1) := HB0.out.trans (hb1.mono HB0.out.size)
  clear hR1 hb1
  go_wp2_with fail
  exact bodyPost_ret (v := .tuple #[.agg #[.int .i64 0, .int .i64 0, .slice none 0 0, .int .i64 0, .string ⟨#[]⟩, .int .i64 0, .int .i64 0, .slice none 0 0, .int .i64 0, .slice none 0 0], .int .i64 no]) (by simp [results, Tryz.f40, go_sem, r0, r1, r2, r3, r4, r5, r6, r7, r8, r9]) rfl ⟨rfl, HBW.out⟩
theorem fault_apart {W V : World} {f : Value} {no : Int} {b : Nat} {x y z : Value} {t : TypeId} (h : FaultAt W f no) (hX : W.heap[b]? = some (.cells #[x, y, z] t (0, 0))) (hV : OnlyAt b W V) : FaultAt V f no := by
  obtain ⟨c, e, hc⟩ := h
  refine ⟨c, e, (hV.2 c (fun e2 => ?_)).trans hc⟩
  subst e2
  rw [hX] at hc
  injection hc with h1
  injection h1 with h2
  have := congrArg Array.size h2
  simp at this
set_option maxRecDepth 100000 in
set_option maxHeartbeats 2000000 in
theorem Lower_bot {k L : Nat} {B : Bd} {v : Value} {w : World} (hok : B.Ok k L) (hlv : L = botN k) (hg : GT w) (hv : SkB w v k L B) :
    Calls Tryz.prog 17 #[v] w fun e w' => e = .returned (.tuple #[.agg #[.int .i64 0, .int .i64 0, .slice none 0 0, .int .i64 0, .string ⟨#[]⟩, .int .i64 0, .int .i64 0, .slice none 0 0, .int .i64 0, .slice none 0 0], .int .i64 102]) ∧ Below w.heap.size w w' := by
  obtain ⟨y, s, hy, rfl, hA⟩ := hv
  obtain ⟨W0, hW0, hXp, hXr, hB0, hs0⟩ := boxes2 w #[.int .i64 y.kind, .int .i64 y.level, .slice s.ea s.el s.ec, .int .i64 y.hb, .string y.hr, .int .i64 y.cr, .int .i64 y.cc, .slice s.ca s.cl s.cc, .int .i64 y.gf, .slice s.ga s.gl s.gc] 36 #[.int .i64 0, .int .i64 0, .slice none 0 0, .int .i64 0, .string ⟨#[]⟩, .int .i64 0, .int .i64 0, .slice none 0 0, .int .i64 0, .slice none 0 0] 36
  have HO := Lib.hid (open_sk_any (w := W0) hok ⟨y, s, hy, rfl, hA.go hB0⟩)
  have HT : Hid (∀ b W, BdAt W b B → Calls Tryz.prog 44 #[.agg #[b, .int .i64 k, .int .i64 L]] W fun e w' => ∃ f, e = .returned (.tuple #[.agg #[.nilIface, .int .i64 0, .int .i64 0], f]) ∧ FaultAt w' f 102 ∧ Below W.heap.size W w') := fun b W h => lowered_bot b B k L W h hok hlv
  have c0 : W0.cell? ⟨w.heap.size, 0, none⟩ = some (.int .i64 y.kind) := cell_of_cells hXp 0
  have c1 : W0.cell? ⟨w.heap.size, 1, none⟩ = some (.int .i64 y.level) := cell_of_cells hXp 1
  have c2 : W0.cell? ⟨w.heap.size, 2, none⟩ = some (.slice s.ea s.el s.ec) := cell_of_cells hXp 2
  have c3 : W0.cell? ⟨w.heap.size, 3, none⟩ = some (.int .i64 y.hb) := cell_of_cells hXp 3
  have c4 : W0.cell? ⟨w.heap.size, 4, none⟩ = some (.string y.hr) := cell_of_cells hXp 4
  have c5 : W0.cell? ⟨w.heap.size, 5, none⟩ = some (.int .i64 y.cr) := cell_of_cells hXp 5
  have c6 : W0.cell? ⟨w.heap.size, 6, none⟩ = some (.int .i64 y.cc) := cell_of_cells hXp 6
  have c7 : W0.cell? ⟨w.heap.size, 7, none⟩ = some (.slice s.ca s.cl s.cc) := cell_of_cells hXp 7
  have c8 : W0.cell? ⟨w.heap.size, 8, none⟩ = some (.int .i64 y.gf) := cell_of_cells hXp 8
  have c9 : W0.cell? ⟨w.heap.size, 9, none⟩ = some (.slice s.ga s.gl s.gc) := cell_of_cells hXp 9
  have HXR := Lib.hid hXr
  have HB0 := Lib.hid hB0
  have HGT := Lib.hid (hg.go hB0)
  clear hXp hXr hB0 hA hy hok hlv hg
  go_enter Tryz.func17, Tryz.ntmps17
  go_wp2_with fail
  refine HO.out.mono ?_
  rintro e w1 ⟨b, rfl, hb, hb1⟩
  obtain ⟨T, rv, rfl⟩ := bd_iface hb
  obtain ⟨W2, hW2, hX2, hB2, hs2⟩ := boxes1 w1 #[.iface T rv, .int .i64 k, .int .i64 L] 68
  have d0 : W2.cell? ⟨w1.heap.size, 0, none⟩ = some (.iface T rv) := cell_of_cells hX2 0
  have d1 : W2.cell? ⟨w1.heap.size, 1, none⟩ = some (.int .i64 k) := cell_of_cells hX2 1
  have d2 : W2.cell? ⟨w1.heap.size, 2, none⟩ = some (.int .i64 L) := cell_of_cells hX2 2
  have HT2 := Lib.hid (HT.out _ W2 (hb.go hB2))
  have HX2 := Lib.hid hX2
  have HB2 := Lib.hid hB2
  have HB1 := Lib.hid hb1
  clear hX2 hB2 hb1 hb
  go_wp2_with fail
  refine HT2.out.mono ?_
  rintro e w3 ⟨f, rfl, hf3, hb3⟩
  have hX3 := known hb3 (Nat.le_refl _) HX2.out
  have p0 : w3.cell? ⟨w1.heap.size, 0, none⟩ = some (.iface T rv) := cell_of_cells hX3 0
  have p1 : w3.cell? ⟨w1.heap.size, 1, none⟩ = some (.int .i64 k) := cell_of_cells hX3 1
  have p2 : w3.cell? ⟨w1.heap.size, 2, none⟩ = some (.int .i64 L) := cell_of_cells hX3 2
  have g0 : w3.frozen? ⟨w1.heap.size, 0, none⟩ = false := frozen_of_cells hX3 0
  have g1 : w3.frozen? ⟨w1.heap.size, 1, none⟩ = false := frozen_of_cells hX3 1
  have g2 : w3.frozen? ⟨w1.heap.size, 2, none⟩ = false := frozen_of_cells hX3 2
  obtain ⟨V, hV, hVX, hVO, hVB⟩ := store3 .nilIface (.int .i64 0) (.int .i64 0) hX3
  have hsz := HB1.out.size
  have HB3' : Below W0.heap.size W0 w3 := HB1.out.trans ((HB2.out.trans (hb3.mono HB2.out.size)).mono HB1.out.size)
  have HB3 : Hid (Below w.heap.size w V) := hVB _ _ (HB0.out.trans (HB3'.mono HB0.out.size)) (by omega)
  have hGV : GT V := HGT.out.go (hVB _ _ HB3' (by omega))
  have HN2 := Lib.hid (told_fault f 102 V (fault_apart hf3 hX3 hVO) hGV)
  have HR3 : Hid (V.heap[w.heap.size + 1]? = some (.cells #[.int .i64 0, .int .i64 0, .slice none 0 0, .int .i64 0, .string ⟨#[]⟩, .int .i64 0, .int .i64 0, .slice none 0 0, .int .i64 0, .slice none 0 0] 36 (0, 0))) := (hVO.2 _ (by omega)).trans (known HB3' (Nat.le_refl _) HXR.out)
  have q0 : V.cell? ⟨w1.heap.size, 0, none⟩ = some (.nilIface) := cell_of_cells hVX 0
  have q1 : V.cell? ⟨w1.heap.size, 1, none⟩ = some (.int .i64 0) := cell_of_cells hVX 1
  have q2 : V.cell? ⟨w1.heap.size, 2, none⟩ = some (.int .i64 0) := cell_of_cells hVX 2
  clear hX3 hVX hVO hVB hf3 hb3 HB3' hGV
  go_wp2_with fail
  refine HN2.out.mono ?_
  rintro e w5 ⟨rfl, hb5⟩
  have hR5 := known hb5 (Nat.le_refl _) HR3.out
  have r0 : w5.cell? ⟨w.heap.size + 1, 0, none⟩ = some (.int .i64 0) := cell_of_cells hR5 0
  have r1 : w5.cell? ⟨w.heap.size + 1, 1, none⟩ = some (.int .i64 0) := cell_of_cells hR5 1
  have r2 : w5.cell? ⟨w.heap.size + 1, 2, none⟩ = some (.slice none 0 0) := cell_of_cells hR5 2
  have r3 : w5.cell? ⟨w.heap.size + 1, 3, none⟩ = some (.int .i64 0) := cell_of_cells hR5 3
  have r4 : w5.cell? ⟨w.heap.size + 1, 4, none⟩ = some (.string ⟨#[]⟩) := cell_of_cells hR5 4
  have r5 : w5.cell? ⟨w.heap.size + 1, 5, none⟩ = some (.int .i64 0) := cell_of_cells hR5 5
  have r6 : w5.cell? ⟨w.heap.size + 1, 6, none⟩ = some (.int .i64 0) := cell_of_cells hR5 6
  have r7 : w5.cell? ⟨w.heap.size + 1, 7, none⟩ = some (.slice none 0 0) := cell_of_cells hR5 7
  have r8 : w5.cell? ⟨w.heap.size + 1, 8, none⟩ = some (.int .i64 0) := cell_of_cells hR5 8
  have r9 : w5.cell? ⟨w.heap.size + 1, 9, none⟩ = some (.slice none 0 0) := cell_of_cells hR5 9
  have z0 : w5.frozen? ⟨w.heap.size + 1, 0, none⟩ = false := frozen_of_cells hR5 0
  have z1 : w5.frozen? ⟨w.heap.size + 1, 1, none⟩ = false := frozen_of_cells hR5 1
  have z2 : w5.frozen? ⟨w.heap.size + 1, 2, none⟩ = false := frozen_of_cells hR5 2
  have z3 : w5.frozen? ⟨w.heap.size + 1, 3, none⟩ = false := frozen_of_cells hR5 3
  have z4 : w5.frozen? ⟨w.heap.size + 1, 4, none⟩ = false := frozen_of_cells hR5 4
  have z5 : w5.frozen? ⟨w.heap.size + 1, 5, none⟩ = false := frozen_of_cells hR5 5
  have z6 : w5.frozen? ⟨w.heap.size + 1, 6, none⟩ = false := frozen_of_cells hR5 6
  have z7 : w5.frozen? ⟨w.heap.size + 1, 7, none⟩ = false := frozen_of_cells hR5 7
  have z8 : w5.frozen? ⟨w.heap.size + 1, 8, none⟩ = false := frozen_of_cells hR5 8
  have z9 : w5.frozen? ⟨w.heap.size + 1, 9, none⟩ = false := frozen_of_cells hR5 9
  have e0 : w5.setCell ⟨w.heap.size + 1, 0, none⟩ (.int .i64 0) = w5 := set_same hR5 rfl
  have e1 : w5.setCell ⟨w.heap.size + 1, 1, none⟩ (.int .i64 0) = w5 := set_same hR5 rfl
  have e2 : w5.setCell ⟨w.heap.size + 1, 2, none⟩ (.slice none 0 0) = w5 := set_same hR5 rfl
  have e3 : w5.setCell ⟨w.heap.size + 1, 3, none⟩ (.int .i64 0) = w5 := set_same hR5 rfl
  have e4 : w5.setCell ⟨w.heap.size + 1, 4, none⟩ (.string ⟨#[]⟩) = w5 := set_same hR5 rfl
  have e5 : w5.setCell ⟨w.heap.size + 1, 5, none⟩ (.int .i64 0) = w5 := set_same hR5 rfl
  have e6 : w5.setCell ⟨w.heap.size + 1, 6, none⟩ (.int .i64 0) = w5 := set_same hR5 rfl
  have e7 : w5.setCell ⟨w.heap.size + 1, 7, none⟩ (.slice none 0 0) = w5 := set_same hR5 rfl
  have e8 : w5.setCell ⟨w.heap.size + 1, 8, none⟩ (.int .i64 0) = w5 := set_same hR5 rfl
  have e9 : w5.setCell ⟨w.heap.size + 1, 9, none⟩ (.slice none 0 0) = w5 := set_same hR5 rfl
  have HBU : Hid (Below w.heap.size w w5) := HB3.out.trans (hb5.mono HB3.out.size)
  clear hR5 hb5
  go_wp2_with fail
  exact bodyPost_ret (v := .tuple #[.agg #[.int .i64 0, .int .i64 0, .slice none 0 0, .int .i64 0, .string ⟨#[]⟩, .int .i64 0, .int .i64 0, .slice none 0 0, .int .i64 0, .slice none 0 0], .int .i64 102]) (by simp [results, Tryz.f17, go_sem, r0, r1, r2, r3, r4, r5, r6, r7, r8, r9]) rfl ⟨rfl, HBU.out⟩
end Go.Proofs.YtmkefodaibmkhaaGreatDoor

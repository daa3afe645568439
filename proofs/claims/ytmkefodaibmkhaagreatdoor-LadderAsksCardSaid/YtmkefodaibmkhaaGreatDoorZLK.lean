/- Package ladder: with one item. -/
import Derived.Test.YtmkefodaibmkhaaGreatDoorZLG
namespace Go.Proofs.YtmkefodaibmkhaaGreatDoor
open Go Go.RowKit Go.Shelf

set_option maxRecDepth 100000 in
set_option maxHeartbeats 2000000 in
theorem with_some (v : Value) (B B1 : Bd) (kind level h g : Nat) (n : Int) (w : World) (hb : BdAt w v B) (hok : B.Ok kind level) (hI : w.heap[g]? = some (.cells #[.int .u64 h, .int .u64 n] 52 (0, 0))) (hh : h < 2 ^ 64) (hn : U64 n) (he : B.add h n = some B1) :
    Calls Tryz.prog 58 #[.agg #[v, .int .i64 kind, .int .i64 level], .slice (some ⟨g, 0, none⟩) 1 1] w fun e w' => ∃ v', e = .returned (.tuple #[.agg #[v', .int .i64 kind, .int .i64 level], .nilIface]) ∧ BdAt w' v' B1 ∧ Below w.heap.size w w' := by
  obtain ⟨T, rv, f, rfl, hm, hcf, hc⟩ := add_at hb hok
  obtain ⟨W0, hW0, hXp, hXr, hB0, hs0⟩ := boxes2 w #[.iface T rv, .int .i64 kind, .int .i64 level] 68 #[.nilIface, .int .i64 0, .int .i64 0] 68
  have hI0 := known hB0 (Nat.le_refl _) hI
  obtain ⟨W1, hW1, hXi, hB1, hs1⟩ := boxes1 W0 #[.int .u64 h, .int .u64 n] 52
  rw [hs0] at hXi hs1
  have hXp1 := known hB1 (by omega) hXp
  have hXr1 := known hB1 (by omega) hXr
  have q0 : W0.cell? ⟨g, 0, none⟩ = some (.int .u64 h) := cell_of_cells hI0 0
  have q1 : W0.cell? ⟨g, 1, none⟩ = some (.int .u64 n) := cell_of_cells hI0 1
  have c0 : W1.cell? ⟨w.heap.size, 0, none⟩ = some (.iface T rv) := cell_of_cells hXp1 0
  have c1 : W1.cell? ⟨w.heap.size, 1, none⟩ = some (.int .i64 kind) := cell_of_cells hXp1 1
  have c2 : W1.cell? ⟨w.heap.size, 2, none⟩ = some (.int .i64 level) := cell_of_cells hXp1 2
  have d0 : W1.cell? ⟨w.heap.size + 2, 0, none⟩ = some (.int .u64 h) := cell_of_cells hXi 0
  have d1 : W1.cell? ⟨w.heap.size + 2, 1, none⟩ = some (.int .u64 n) := cell_of_cells hXi 1
  have HC := Lib.hid (hc W1 h n ((hb.go hB0).go hB1) hh hn)
  rw [he] at HC
  have HB01 := Lib.hid (hB0.trans (hB1.mono hB0.size))
  have HXp := Lib.hid hXp1
  have HXr := Lib.hid hXr1
  clear hXp hXr hB0 hb hok hc hI hI0 hXi hB1 hXp1 hXr1 hh hn he
  go_enter Tryz.func58, Tryz.ntmps58
  go_wp2_with fail
  refine wp_loop_rounds 2 ?_
  rw [rounds_succ]
  go_wp2_with fail
  refine HC.out.mono ?_
  rintro e w2 ⟨hb2, v2, rfl, hv2⟩
  obtain ⟨T2, rv2, rfl⟩ := bd_iface hv2
  have HF := Lib.hid (isFull_nil w2)
  go_wp2_with fail
  refine HF.out.mono ?_
  rintro e w3 ⟨rfl, hb3⟩
  have hb13 := hb2.trans (hb3.mono hb2.size)
  have hX3 := known hb13 (Nat.le_refl _) HXp.out
  have hR3 := known hb13 (Nat.le_refl _) HXr.out
  have hB3 := HB01.out.trans (hb13.mono HB01.out.size)
  have p0 : w3.cell? ⟨w.heap.size, 0, none⟩ = some (.iface T rv) := cell_of_cells hX3 0
  have p1 : w3.cell? ⟨w.heap.size, 1, none⟩ = some (.int .i64 kind) := cell_of_cells hX3 1
  have p2 : w3.cell? ⟨w.heap.size, 2, none⟩ = some (.int .i64 level) := cell_of_cells hX3 2
  have x0 : w3.frozen? ⟨w.heap.size, 0, none⟩ = false := frozen_of_cells hX3 0
  have x1 : w3.frozen? ⟨w.heap.size, 1, none⟩ = false := frozen_of_cells hX3 1
  have x2 : w3.frozen? ⟨w.heap.size, 2, none⟩ = false := frozen_of_cells hX3 2
  obtain ⟨V, hV⟩ : ∃ V, w3.setCell ⟨w.heap.size, 0, none⟩ (.iface T2 rv2) = V := ⟨_, rfl⟩
  have hXV : V.heap[w.heap.size]? = some (.cells #[.iface T2 rv2, .int .i64 kind, .int .i64 level] 68 (0, 0)) := by rw [← hV]; exact heap_set_known hX3 (.iface T2 rv2)
  have hOV : OnlyAt w.heap.size w3 V := by rw [← hV]; exact (OnlyAt.refl _ _).set _ _
  have hBV : Below w.heap.size w V := by rw [← hV]; exact hB3.setCell (p := ⟨w.heap.size, 0, none⟩) (Nat.le_refl _) _
  have hRV := (hOV.2 (w.heap.size + 1) (by omega)).trans hR3
  have hbV : BdAt V (.iface T2 rv2) B1 := BdAt.set_work (hv2.go hb3) hX3 (by simp) (by simp) (by simp) hOV
  have u0 : V.cell? ⟨w.heap.size, 0, none⟩ = some (.iface T2 rv2) := cell_of_cells hXV 0
  have u1 : V.cell? ⟨w.heap.size, 1, none⟩ = some (.int .i64 kind) := cell_of_cells hXV 1
  have u2 : V.cell? ⟨w.heap.size, 2, none⟩ = some (.int .i64 level) := cell_of_cells hXV 2
  have r0 : V.cell? ⟨w.heap.size + 1, 0, none⟩ = some (.nilIface) := cell_of_cells hRV 0
  have r1 : V.cell? ⟨w.heap.size + 1, 1, none⟩ = some (.int .i64 0) := cell_of_cells hRV 1
  have r2 : V.cell? ⟨w.heap.size + 1, 2, none⟩ = some (.int .i64 0) := cell_of_cells hRV 2
  have z0 : V.frozen? ⟨w.heap.size + 1, 0, none⟩ = false := frozen_of_cells hRV 0
  have z1 : V.frozen? ⟨w.heap.size + 1, 1, none⟩ = false := frozen_of_cells hRV 1
  have z2 : V.frozen? ⟨w.heap.size + 1, 2, none⟩ = false := frozen_of_cells hRV 2
  obtain ⟨V2, hV2, hVX, hVO, hVB⟩ := store3 (.iface T2 rv2) (.int .i64 kind) (.int .i64 level) hRV
  have k0 : V2.cell? ⟨w.heap.size + 1, 0, none⟩ = some (.iface T2 rv2) := cell_of_cells hVX 0
  have k1 : V2.cell? ⟨w.heap.size + 1, 1, none⟩ = some (.int .i64 kind) := cell_of_cells hVX 1
  have k2 : V2.cell? ⟨w.heap.size + 1, 2, none⟩ = some (.int .i64 level) := cell_of_cells hVX 2
  have HE : Hid (BdAt V2 (.iface T2 rv2) B1 ∧ Below w.heap.size w V2) := ⟨BdAt.set_work hbV hRV (by simp) (by simp) (by simp) hVO, hVB _ _ hBV (Nat.le_succ _)⟩
  clear hX3 hR3 hB3 hb13 hb2 hb3 hv2 hXV hOV hBV hRV hbV hVX hVO hVB
  go_wp2_with fail
  rw [rounds_succ]
  go_wp2_with fail
  exact bodyPost_ret (v := .tuple #[.agg #[.iface T2 rv2, .int .i64 kind, .int .i64 level], .nilIface]) (by simp [results, Tryz.f58, go_sem, k0, k1, k2]) rfl ⟨_, rfl, HE.out.1, HE.out.2⟩
set_option maxRecDepth 100000 in
set_option maxHeartbeats 2000000 in
theorem with_none (v : Value) (B B2 : Bd) (kind level h g : Nat) (n : Int) (w : World) (hb : BdAt w v B) (hok : B.Ok kind level) (hlv : level < botN kind) (hI : w.heap[g]? = some (.cells #[.int .u64 h, .int .u64 n] 52 (0, 0))) (hh : h < 2 ^ 64) (hn : U64 n) (hg : GT w) (he : B.add h n = none) (he2 : B.low.add h n = some B2) :
    Calls Tryz.prog 58 #[.agg #[v, .int .i64 kind, .int .i64 level], .slice (some ⟨g, 0, none⟩) 1 1] w fun e w' => ∃ v', e = .returned (.tuple #[.agg #[v', .int .i64 kind, .int .i64 ((level : Int) + 1)], .nilIface]) ∧ BdAt w' v' B2 ∧ Below w.heap.size w w' := by
  obtain ⟨T, rv, f, rfl, hm, hcf, hc⟩ := add_at hb hok
  obtain ⟨W0, hW0, hXp, hXr, hB0, hs0⟩ := boxes2 w #[.iface T rv, .int .i64 kind, .int .i64 level] 68 #[.nilIface, .int .i64 0, .int .i64 0] 68
  have hI0 := known hB0 (Nat.le_refl _) hI
  obtain ⟨W1, hW1, hXi, hB1, hs1⟩ := boxes1 W0 #[.int .u64 h, .int .u64 n] 52
  rw [hs0] at hXi hs1
  have hXp1 := known hB1 (by omega) hXp
  have hXr1 := known hB1 (by omega) hXr
  have q0 : W0.cell? ⟨g, 0, none⟩ = some (.int .u64 h) := cell_of_cells hI0 0
  have q1 : W0.cell? ⟨g, 1, none⟩ = some (.int .u64 n) := cell_of_cells hI0 1
  have c0 : W1.cell? ⟨w.heap.size, 0, none⟩ = some (.iface T rv) := cell_of_cells hXp1 0
  have c1 : W1.cell? ⟨w.heap.size, 1, none⟩ = some (.int .i64 kind) := cell_of_cells hXp1 1
  have c2 : W1.cell? ⟨w.heap.size, 2, none⟩ = some (.int .i64 level) := cell_of_cells hXp1 2
  have d0 : W1.cell? ⟨w.heap.size + 2, 0, none⟩ = some (.int .u64 h) := cell_of_cells hXi 0
  have d1 : W1.cell? ⟨w.heap.size + 2, 1, none⟩ = some (.int .u64 n) := cell_of_cells hXi 1
  have HC := Lib.hid (hc W1 h n ((hb.go hB0).go hB1) hh hn)
  rw [he] at HC
  have HB01 := Lib.hid (hB0.trans (hB1.mono hB0.size))
  have HXp := Lib.hid hXp1
  have HXr := Lib.hid hXr1
  have HXi := Lib.hid hXi
  have HB := Lib.hid ((hb.go hB0).go hB1)
  have HOK : Hid (B.Ok kind level ∧ level < botN kind ∧ h < 2 ^ 64 ∧ U64 n) := ⟨hok, hlv, hh, hn⟩
  have HE2 := Lib.hid he2
  have HGT := Lib.hid hg
  clear hXp hXr hB0 hb hok hc hI hI0 hXi hB1 hXp1 hXr1 hh hn he he2 hlv hg
  go_enter Tryz.func58, Tryz.ntmps58
  go_wp2_with fail
  refine wp_loop_rounds 2 ?_
  rw [rounds_succ]
  go_wp2_with fail
  refine HC.out.mono ?_
  rintro e w2 ⟨hb2, v2, rfl, hf2⟩
  have hF : Calls Tryz.prog 86 #[v2] w2 fun e w' => e = .returned (.bool true) ∧ Below w2.heap.size w2 w' := isFull_fault v2 60 w2 (HGT.out.go (HB01.out.trans (hb2.mono HB01.out.size))) hf2
  have HF := Lib.hid hF
  obtain ⟨bf, rfl, -⟩ := hf2
  clear hF
  go_wp2_with fail
  refine HF.out.mono ?_
  rintro e w3 ⟨rfl, hb3⟩
  have hb13 := hb2.trans (hb3.mono hb2.size)
  have hX3 := known hb13 (Nat.le_refl _) HXp.out
  have p0 : w3.cell? ⟨w.heap.size, 0, none⟩ = some (.iface T rv) := cell_of_cells hX3 0
  have p1 : w3.cell? ⟨w.heap.size, 1, none⟩ = some (.int .i64 kind) := cell_of_cells hX3 1
  have p2 : w3.cell? ⟨w.heap.size, 2, none⟩ = some (.int .i64 level) := cell_of_cells hX3 2
  have HLo := Lib.hid (lowered_any (.iface T rv) B kind level w3 (HB.out.go hb13) HOK.out.1 HOK.out.2.1)
  have HB13 := Lib.hid hb13
  clear hX3 hb13 hb2 hb3
  go_wp2_with fail
  refine HLo.out.mono ?_
  rintro e w4 ⟨v4, rfl, hv4, hb4⟩
  obtain ⟨T4, rv4, f4, rfl, hm4, hcf4, hc4⟩ := add_at hv4 (bd_low_ok HOK.out.1 HOK.out.2.1)
  have hb14 := HB13.out.trans (hb4.mono HB13.out.size)
  have hX4 := known hb14 (Nat.le_refl _) HXp.out
  have hR4 := known hb14 (Nat.le_refl _) HXr.out
  have hI4 := known hb14 (Nat.le_refl _) HXi.out
  have hB4 := HB01.out.trans (hb14.mono HB01.out.size)
  have y0 : w4.cell? ⟨w.heap.size, 0, none⟩ = some (.iface T rv) := cell_of_cells hX4 0
  have y1 : w4.cell? ⟨w.heap.size, 1, none⟩ = some (.int .i64 kind) := cell_of_cells hX4 1
  have y2 : w4.cell? ⟨w.heap.size, 2, none⟩ = some (.int .i64 level) := cell_of_cells hX4 2
  have x0 : w4.frozen? ⟨w.heap.size, 0, none⟩ = false := frozen_of_cells hX4 0
  have x1 : w4.frozen? ⟨w.heap.size, 1, none⟩ = false := frozen_of_cells hX4 1
  have x2 : w4.frozen? ⟨w.heap.size, 2, none⟩ = false := frozen_of_cells hX4 2
  obtain ⟨V, hV, hXV, hOV, hVB⟩ := store3 (.iface T4 rv4) (.int .i64 kind) (.int .i64 ((level : Int) + 1)) hX4
  have hBV := hVB _ _ hB4 (Nat.le_refl _)
  have hRV := (hOV.2 (w.heap.size + 1) (by omega)).trans hR4
  have hIV := (hOV.2 (w.heap.size + 2) (by omega)).trans hI4
  have hbV : BdAt V (.iface T4 rv4) B.low := BdAt.set_work hv4 hX4 (by simp) (by simp) (by simp) hOV
  have HC4 := Lib.hid (hc4 V h n hbV HOK.out.2.2.1 HOK.out.2.2.2)
  rw [HE2.out] at HC4
  have u0 : V.cell? ⟨w.heap.size, 0, none⟩ = some (.iface T4 rv4) := cell_of_cells hXV 0
  have u1 : V.cell? ⟨w.heap.size, 1, none⟩ = some (.int .i64 kind) := cell_of_cells hXV 1
  have u2 : V.cell? ⟨w.heap.size, 2, none⟩ = some (.int .i64 ((level : Int) + 1)) := cell_of_cells hXV 2
  have j0 : V.cell? ⟨w.heap.size + 2, 0, none⟩ = some (.int .u64 h) := cell_of_cells hIV 0
  have j1 : V.cell? ⟨w.heap.size + 2, 1, none⟩ = some (.int .u64 n) := cell_of_cells hIV 1
  have HXV := Lib.hid hXV
  have HRV := Lib.hid hRV
  have HBV := Lib.hid hBV
  clear hm hcf hX4 hR4 hI4 hB4 hb14 hv4 hb4 hXV hOV hVB hBV hRV hIV hbV hc4
  go_wp2_with fail
  refine HC4.out.mono ?_
  rintro e w5 ⟨hb5, v5, rfl, hv5⟩
  obtain ⟨T5, rv5, rfl⟩ := bd_iface hv5
  have hX5 := known hb5 (Nat.le_refl _) HXV.out
  have hR5 := known hb5 (Nat.le_refl _) HRV.out
  have hB5 := HBV.out.trans (hb5.mono HBV.out.size)
  have a0 : w5.cell? ⟨w.heap.size, 0, none⟩ = some (.iface T4 rv4) := cell_of_cells hX5 0
  have a1 : w5.cell? ⟨w.heap.size, 1, none⟩ = some (.int .i64 kind) := cell_of_cells hX5 1
  have a2 : w5.cell? ⟨w.heap.size, 2, none⟩ = some (.int .i64 ((level : Int) + 1)) := cell_of_cells hX5 2
  have b0 : w5.frozen? ⟨w.heap.size, 0, none⟩ = false := frozen_of_cells hX5 0
  have b1 : w5.frozen? ⟨w.heap.size, 1, none⟩ = false := frozen_of_cells hX5 1
  have b2 : w5.frozen? ⟨w.heap.size, 2, none⟩ = false := frozen_of_cells hX5 2
  obtain ⟨U, hU⟩ : ∃ U, w5.setCell ⟨w.heap.size, 0, none⟩ (.iface T5 rv5) = U := ⟨_, rfl⟩
  have hXU : U.heap[w.heap.size]? = some (.cells #[.iface T5 rv5, .int .i64 kind, .int .i64 ((level : Int) + 1)] 68 (0, 0)) := by rw [← hU]; exact heap_set_known hX5 (.iface T5 rv5)
  have hOU : OnlyAt w.heap.size w5 U := by rw [← hU]; exact (OnlyAt.refl _ _).set _ _
  have hBU : Below w.heap.size w U := by rw [← hU]; exact hB5.setCell (p := ⟨w.heap.size, 0, none⟩) (Nat.le_refl _) _
  have hRU := (hOU.2 (w.heap.size + 1) (by omega)).trans hR5
  have hbU : BdAt U (.iface T5 rv5) B2 := BdAt.set_work hv5 hX5 (by simp) (by simp) (by simp) hOU
  have l0 : U.cell? ⟨w.heap.size, 0, none⟩ = some (.iface T5 rv5) := cell_of_cells hXU 0
  have l1 : U.cell? ⟨w.heap.size, 1, none⟩ = some (.int .i64 kind) := cell_of_cells hXU 1
  have l2 : U.cell? ⟨w.heap.size, 2, none⟩ = some (.int .i64 ((level : Int) + 1)) := cell_of_cells hXU 2
  have r0 : U.cell? ⟨w.heap.size + 1, 0, none⟩ = some (.nilIface) := cell_of_cells hRU 0
  have r1 : U.cell? ⟨w.heap.size + 1, 1, none⟩ = some (.int .i64 0) := cell_of_cells hRU 1
  have r2 : U.cell? ⟨w.heap.size + 1, 2, none⟩ = some (.int .i64 0) := cell_of_cells hRU 2
  have z0 : U.frozen? ⟨w.heap.size + 1, 0, none⟩ = false := frozen_of_cells hRU 0
  have z1 : U.frozen? ⟨w.heap.size + 1, 1, none⟩ = false := frozen_of_cells hRU 1
  have z2 : U.frozen? ⟨w.heap.size + 1, 2, none⟩ = false := frozen_of_cells hRU 2
  obtain ⟨V2, hV2, hVX, hVO, hVB⟩ := store3 (.iface T5 rv5) (.int .i64 kind) (.int .i64 ((level : Int) + 1)) hRU
  have k0 : V2.cell? ⟨w.heap.size + 1, 0, none⟩ = some (.iface T5 rv5) := cell_of_cells hVX 0
  have k1 : V2.cell? ⟨w.heap.size + 1, 1, none⟩ = some (.int .i64 kind) := cell_of_cells hVX 1
  have k2 : V2.cell? ⟨w.heap.size + 1, 2, none⟩ = some (.int .i64 ((level : Int) + 1)) := cell_of_cells hVX 2
  have HE : Hid (BdAt V2 (.iface T5 rv5) B2 ∧ Below w.heap.size w V2) := ⟨BdAt.set_work hbU hRU (by simp) (by simp) (by simp) hVO, hVB _ _ hBU (Nat.le_succ _)⟩
  clear hm4 hcf4 hX5 hR5 hB5 hb5 hv5 hXU hOU hBU hRU hbU hVX hVO hVB
  go_wp2_with fail
  rw [rounds_succ]
  go_wp2_with fail
  exact bodyPost_ret (v := .tuple #[.agg #[.iface T5 rv5, .int .i64 kind, .int .i64 ((level : Int) + 1)], .nilIface]) (by simp [results, Tryz.f58, go_sem, k0, k1, k2]) rfl ⟨_, rfl, HE.out.1, HE.out.2⟩
/-- With one item. -/
theorem with_item (v : Value) (B : Bd) (kind level h g : Nat) (n : Int) (w : World) (hb : BdAt w v B) (hok : B.Ok kind level) (hI : w.heap[g]? = some (.cells #[.int .u64 h, .int .u64 n] 52 (0, 0))) (hh : h < 2 ^ 64) (hn : U64 n) (hg : GT w) :
    Calls Tryz.prog 58 #[.agg #[v, .int .i64 kind, .int .i64 level], .slice (some ⟨g, 0, none⟩) 1 1] w fun e w' => ∃ v', e = .returned (.tuple #[.agg #[v', .int .i64 kind, .int .i64 ((wkAdd (level, B) (h, n)).1 : Int)], .nilIface]) ∧ BdAt w' v' (wkAdd (level, B) (h, n)).2 ∧ Below w.heap.size w w' := by
  cases he : B.add h n with
  | some B1 =>
    have e : wkAdd (level, B) (h, n) = (level, B1) := by unfold wkAdd; simp only [he]
    rw [e]
    exact with_some v B B1 kind level h g n w hb hok hI hh hn he
  | none =>
    obtain ⟨B2, he2, hk, hL⟩ := bd_add_low hok he
    have e : wkAdd (level, B) (h, n) = (level + 1, B2) := by unfold wkAdd; simp only [he, he2, Option.getD_some]
    rw [e]
    exact with_none v B B2 kind level h g n w hb hok (by rw [hk, hL]; decide) hI hh hn hg he he2
end Go.Proofs.YtmkefodaibmkhaaGreatDoor

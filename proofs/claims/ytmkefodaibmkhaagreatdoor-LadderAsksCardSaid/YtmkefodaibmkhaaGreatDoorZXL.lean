/- Package ladder: open whole; Right, Cost. Package ladder: Cost. -/
import Derived.Test.YtmkefodaibmkhaaGreatDoorZXJ
namespace Go.Proofs.YtmkefodaibmkhaaGreatDoor
open Go Go.RowKit

set_option maxRecDepth 100000 in
set_option maxHeartbeats 4000000 in
theorem open_lev1n (x : Sk) (s : SS) (body : Value) (w : World) (hx : s.At w.heap.size w x) (hk : x.kind = 1) (hl : x.level < 0) :
    Calls Tryz.prog 38 #[.agg #[.int .i64 x.kind, .int .i64 x.level, .slice s.ea s.el s.ec, .int .i64 x.hb, .string x.hr, .int .i64 x.cr, .int .i64 x.cc, .slice s.ca s.cl s.cc, .int .i64 x.gf, .slice s.ga s.gl s.gc]] w (OpenPost false body x w) := by
  obtain ⟨W0, hW0, hO⟩ := open_in hx
  have HO := Lib.hid hO
  have HK := Lib.hid hk
  rw [hk] at hW0 ⊢
  have t1 : decide (x.level < 0) = true := by simpa using hl
  clear hx hO hk
  go_enter Tryz.func38, Tryz.ntmps38
  go_wp2_with fail
  clear hW0
  have c0 : W0.cell? ⟨w.heap.size, 0, none⟩ = some (.int .i64 1) := by rw [← HK.out]; exact cell_of_cells HO.out.box 0
  have q0 : ∀ W, Below W0.heap.size W0 W → W.cell? ⟨w.heap.size, 0, none⟩ = some (.int .i64 1) ∧ Below W0.heap.size W0 W := fun W h => ⟨by rw [← HK.out]; exact cell_of_cells (HO.out.go h).box 0, h⟩
  have HQ := Lib.hid q0
  clear q0
  go_region_held3 (fun w' => w'.cell? ⟨w.heap.size, 0, none⟩ = some (.int .i64 1) ∧ Below W0.heap.size W0 w')
    (first
      | exact HQ.out _ (Below.refl _ _).drew
      | (go_split_ands; refine HQ.out _ ?_; first | assumption | exact Below.trans (by assumption) (Below.mono (by assumption) (Below.size (by assumption)))))
    (first
      | (go_at_call 80; refine (kinds_at _).mono ?_; rintro e w1 ⟨r, rfl, hr, hb1⟩; have hlk := look_1 hr; have hq1 : Below W0.heap.size W0 w1 := (by go_split_ands; exact Below.trans (by assumption) (Below.mono hb1 (Below.size (by assumption))))))
  have hO1 := HO.out.go hq1
  have d0 : w1.cell? ⟨w.heap.size, 0, none⟩ = some (.int .i64 1) := by rw [← HK.out]; exact cell_of_cells hO1.box 0
  have d1 : w1.cell? ⟨w.heap.size, 1, none⟩ = some (.int .i64 x.level) := cell_of_cells hO1.box 1
  clear hlk hr hb1 c0
  go_wp2_with fail
  go_quiet (fail)
  have p0 : w1.cell? ⟨w.heap.size + 1, 0, none⟩ = some (.nilIface) := cell_of_cells hO1.res 0
  have p1 : w1.cell? ⟨w.heap.size + 1, 1, none⟩ = some (.int .i64 0) := cell_of_cells hO1.res 1
  have p2 : w1.cell? ⟨w.heap.size + 1, 2, none⟩ = some (.int .i64 0) := cell_of_cells hO1.res 2
  have f0 : w1.frozen? ⟨w.heap.size + 1, 0, none⟩ = false := frozen_of_cells hO1.res 0
  have f1 : w1.frozen? ⟨w.heap.size + 1, 1, none⟩ = false := frozen_of_cells hO1.res 1
  have f2 : w1.frozen? ⟨w.heap.size + 1, 2, none⟩ = false := frozen_of_cells hO1.res 2
  go_wp2_with fail
  exact open_wrong (hO1.go (below_drewN (Below.refl _ _) _)) rfl rfl
set_option maxRecDepth 100000 in
set_option maxHeartbeats 4000000 in
theorem open_lev1p (x : Sk) (s : SS) (body : Value) (w : World) (hx : s.At w.heap.size w x) (hk : x.kind = 1) (hl : 4 < x.level) :
    Calls Tryz.prog 38 #[.agg #[.int .i64 x.kind, .int .i64 x.level, .slice s.ea s.el s.ec, .int .i64 x.hb, .string x.hr, .int .i64 x.cr, .int .i64 x.cc, .slice s.ca s.cl s.cc, .int .i64 x.gf, .slice s.ga s.gl s.gc]] w (OpenPost false body x w) := by
  obtain ⟨W0, hW0, hO⟩ := open_in hx
  have HO := Lib.hid hO
  have HK := Lib.hid hk
  rw [hk] at hW0 ⊢
  have t1 : decide (x.level < 0) = false := by simp; omega
  have t2 : decide ((4 : Int) < x.level) = true := by simpa using hl
  have hbt : ∀ w, Calls Tryz.prog 12 #[.int .i64 1] w fun e w' => e = .returned (.int .i64 4) ∧ w' = w := fun w => (Bottom_any 1 w).mono fun e w' ⟨h1, h2⟩ => ⟨h1, h2.symm⟩
  have HBT := Lib.hid hbt
  clear hbt
  clear hx hO hk
  go_enter Tryz.func38, Tryz.ntmps38
  go_wp2_with fail
  clear hW0
  have c0 : W0.cell? ⟨w.heap.size, 0, none⟩ = some (.int .i64 1) := by rw [← HK.out]; exact cell_of_cells HO.out.box 0
  have q0 : ∀ W, Below W0.heap.size W0 W → W.cell? ⟨w.heap.size, 0, none⟩ = some (.int .i64 1) ∧ Below W0.heap.size W0 W := fun W h => ⟨by rw [← HK.out]; exact cell_of_cells (HO.out.go h).box 0, h⟩
  have HQ := Lib.hid q0
  clear q0
  go_region_held3 (fun w' => w'.cell? ⟨w.heap.size, 0, none⟩ = some (.int .i64 1) ∧ Below W0.heap.size W0 w')
    (first
      | exact HQ.out _ (Below.refl _ _).drew
      | (go_split_ands; refine HQ.out _ ?_; first | assumption | exact Below.trans (by assumption) (Below.mono (by assumption) (Below.size (by assumption)))))
    (first
      | (go_at_call 80; refine (kinds_at _).mono ?_; rintro e w1 ⟨r, rfl, hr, hb1⟩; have hlk := look_1 hr; have hq1 : Below W0.heap.size W0 w1 := (by go_split_ands; exact Below.trans (by assumption) (Below.mono hb1 (Below.size (by assumption))))))
  have hO1 := HO.out.go hq1
  have d0 : w1.cell? ⟨w.heap.size, 0, none⟩ = some (.int .i64 1) := by rw [← HK.out]; exact cell_of_cells hO1.box 0
  have d1 : w1.cell? ⟨w.heap.size, 1, none⟩ = some (.int .i64 x.level) := cell_of_cells hO1.box 1
  clear hlk hr hb1 c0
  go_wp2_with fail
  go_quiet ((go_at_call 12; exact Calls.quiet_of_same (HBT.out _)))
  have p0 : w1.cell? ⟨w.heap.size + 1, 0, none⟩ = some (.nilIface) := cell_of_cells hO1.res 0
  have p1 : w1.cell? ⟨w.heap.size + 1, 1, none⟩ = some (.int .i64 0) := cell_of_cells hO1.res 1
  have p2 : w1.cell? ⟨w.heap.size + 1, 2, none⟩ = some (.int .i64 0) := cell_of_cells hO1.res 2
  have f0 : w1.frozen? ⟨w.heap.size + 1, 0, none⟩ = false := frozen_of_cells hO1.res 0
  have f1 : w1.frozen? ⟨w.heap.size + 1, 1, none⟩ = false := frozen_of_cells hO1.res 1
  have f2 : w1.frozen? ⟨w.heap.size + 1, 2, none⟩ = false := frozen_of_cells hO1.res 2
  go_wp2_with fail
  exact open_wrong (hO1.go (below_drewN (Below.refl _ _) _)) rfl rfl
set_option maxRecDepth 100000 in
set_option maxHeartbeats 4000000 in
theorem open_lev2n (x : Sk) (s : SS) (body : Value) (w : World) (hx : s.At w.heap.size w x) (hk : x.kind = 2) (hl : x.level < 0) :
    Calls Tryz.prog 38 #[.agg #[.int .i64 x.kind, .int .i64 x.level, .slice s.ea s.el s.ec, .int .i64 x.hb, .string x.hr, .int .i64 x.cr, .int .i64 x.cc, .slice s.ca s.cl s.cc, .int .i64 x.gf, .slice s.ga s.gl s.gc]] w (OpenPost false body x w) := by
  obtain ⟨W0, hW0, hO⟩ := open_in hx
  have HO := Lib.hid hO
  have HK := Lib.hid hk
  rw [hk] at hW0 ⊢
  have t1 : decide (x.level < 0) = true := by simpa using hl
  clear hx hO hk
  go_enter Tryz.func38, Tryz.ntmps38
  go_wp2_with fail
  clear hW0
  have c0 : W0.cell? ⟨w.heap.size, 0, none⟩ = some (.int .i64 2) := by rw [← HK.out]; exact cell_of_cells HO.out.box 0
  have q0 : ∀ W, Below W0.heap.size W0 W → W.cell? ⟨w.heap.size, 0, none⟩ = some (.int .i64 2) ∧ Below W0.heap.size W0 W := fun W h => ⟨by rw [← HK.out]; exact cell_of_cells (HO.out.go h).box 0, h⟩
  have HQ := Lib.hid q0
  clear q0
  go_region_held3 (fun w' => w'.cell? ⟨w.heap.size, 0, none⟩ = some (.int .i64 2) ∧ Below W0.heap.size W0 w')
    (first
      | exact HQ.out _ (Below.refl _ _).drew
      | (go_split_ands; refine HQ.out _ ?_; first | assumption | exact Below.trans (by assumption) (Below.mono (by assumption) (Below.size (by assumption)))))
    (first
      | (go_at_call 80; refine (kinds_at _).mono ?_; rintro e w1 ⟨r, rfl, hr, hb1⟩; have hlk := look_2 hr; have hq1 : Below W0.heap.size W0 w1 := (by go_split_ands; exact Below.trans (by assumption) (Below.mono hb1 (Below.size (by assumption))))))
  have hO1 := HO.out.go hq1
  have d0 : w1.cell? ⟨w.heap.size, 0, none⟩ = some (.int .i64 2) := by rw [← HK.out]; exact cell_of_cells hO1.box 0
  have d1 : w1.cell? ⟨w.heap.size, 1, none⟩ = some (.int .i64 x.level) := cell_of_cells hO1.box 1
  clear hlk hr hb1 c0
  go_wp2_with fail
  go_quiet (fail)
  have p0 : w1.cell? ⟨w.heap.size + 1, 0, none⟩ = some (.nilIface) := cell_of_cells hO1.res 0
  have p1 : w1.cell? ⟨w.heap.size + 1, 1, none⟩ = some (.int .i64 0) := cell_of_cells hO1.res 1
  have p2 : w1.cell? ⟨w.heap.size + 1, 2, none⟩ = some (.int .i64 0) := cell_of_cells hO1.res 2
  have f0 : w1.frozen? ⟨w.heap.size + 1, 0, none⟩ = false := frozen_of_cells hO1.res 0
  have f1 : w1.frozen? ⟨w.heap.size + 1, 1, none⟩ = false := frozen_of_cells hO1.res 1
  have f2 : w1.frozen? ⟨w.heap.size + 1, 2, none⟩ = false := frozen_of_cells hO1.res 2
  go_wp2_with fail
  exact open_wrong (hO1.go (below_drewN (Below.refl _ _) _)) rfl rfl
set_option maxRecDepth 100000 in
set_option maxHeartbeats 4000000 in
theorem open_lev2p (x : Sk) (s : SS) (body : Value) (w : World) (hx : s.At w.heap.size w x) (hk : x.kind = 2) (hl : 3 < x.level) :
    Calls Tryz.prog 38 #[.agg #[.int .i64 x.kind, .int .i64 x.level, .slice s.ea s.el s.ec, .int .i64 x.hb, .string x.hr, .int .i64 x.cr, .int .i64 x.cc, .slice s.ca s.cl s.cc, .int .i64 x.gf, .slice s.ga s.gl s.gc]] w (OpenPost false body x w) := by
  obtain ⟨W0, hW0, hO⟩ := open_in hx
  have HO := Lib.hid hO
  have HK := Lib.hid hk
  rw [hk] at hW0 ⊢
  have t1 : decide (x.level < 0) = false := by simp; omega
  have t2 : decide ((3 : Int) < x.level) = true := by simpa using hl
  have hbt : ∀ w, Calls Tryz.prog 12 #[.int .i64 2] w fun e w' => e = .returned (.int .i64 3) ∧ w' = w := fun w => (Bottom_any 2 w).mono fun e w' ⟨h1, h2⟩ => ⟨h1, h2.symm⟩
  have HBT := Lib.hid hbt
  clear hbt
  clear hx hO hk
  go_enter Tryz.func38, Tryz.ntmps38
  go_wp2_with fail
  clear hW0
  have c0 : W0.cell? ⟨w.heap.size, 0, none⟩ = some (.int .i64 2) := by rw [← HK.out]; exact cell_of_cells HO.out.box 0
  have q0 : ∀ W, Below W0.heap.size W0 W → W.cell? ⟨w.heap.size, 0, none⟩ = some (.int .i64 2) ∧ Below W0.heap.size W0 W := fun W h => ⟨by rw [← HK.out]; exact cell_of_cells (HO.out.go h).box 0, h⟩
  have HQ := Lib.hid q0
  clear q0
  go_region_held3 (fun w' => w'.cell? ⟨w.heap.size, 0, none⟩ = some (.int .i64 2) ∧ Below W0.heap.size W0 w')
    (first
      | exact HQ.out _ (Below.refl _ _).drew
      | (go_split_ands; refine HQ.out _ ?_; first | assumption | exact Below.trans (by assumption) (Below.mono (by assumption) (Below.size (by assumption)))))
    (first
      | (go_at_call 80; refine (kinds_at _).mono ?_; rintro e w1 ⟨r, rfl, hr, hb1⟩; have hlk := look_2 hr; have hq1 : Below W0.heap.size W0 w1 := (by go_split_ands; exact Below.trans (by assumption) (Below.mono hb1 (Below.size (by assumption))))))
  have hO1 := HO.out.go hq1
  have d0 : w1.cell? ⟨w.heap.size, 0, none⟩ = some (.int .i64 2) := by rw [← HK.out]; exact cell_of_cells hO1.box 0
  have d1 : w1.cell? ⟨w.heap.size, 1, none⟩ = some (.int .i64 x.level) := cell_of_cells hO1.box 1
  clear hlk hr hb1 c0
  go_wp2_with fail
  go_quiet ((go_at_call 12; exact Calls.quiet_of_same (HBT.out _)))
  have p0 : w1.cell? ⟨w.heap.size + 1, 0, none⟩ = some (.nilIface) := cell_of_cells hO1.res 0
  have p1 : w1.cell? ⟨w.heap.size + 1, 1, none⟩ = some (.int .i64 0) := cell_of_cells hO1.res 1
  have p2 : w1.cell? ⟨w.heap.size + 1, 2, none⟩ = some (.int .i64 0) := cell_of_cells hO1.res 2
  have f0 : w1.frozen? ⟨w.heap.size + 1, 0, none⟩ = false := frozen_of_cells hO1.res 0
  have f1 : w1.frozen? ⟨w.heap.size + 1, 1, none⟩ = false := frozen_of_cells hO1.res 1
  have f2 : w1.frozen? ⟨w.heap.size + 1, 2, none⟩ = false := frozen_of_cells hO1.res 2
  go_wp2_with fail
  exact open_wrong (hO1.go (below_drewN (Below.refl _ _) _)) rfl rfl
set_option maxRecDepth 100000 in
set_option maxHeartbeats 4000000 in
theorem open_lev3n (x : Sk) (s : SS) (body : Value) (w : World) (hx : s.At w.heap.size w x) (hk : x.kind = 3) (hl : x.level < 0) :
    Calls Tryz.prog 38 #[.agg #[.int .i64 x.kind, .int .i64 x.level, .slice s.ea s.el s.ec, .int .i64 x.hb, .string x.hr, .int .i64 x.cr, .int .i64 x.cc, .slice s.ca s.cl s.cc, .int .i64 x.gf, .slice s.ga s.gl s.gc]] w (OpenPost false body x w) := by
  obtain ⟨W0, hW0, hO⟩ := open_in hx
  have HO := Lib.hid hO
  have HK := Lib.hid hk
  rw [hk] at hW0 ⊢
  have t1 : decide (x.level < 0) = true := by simpa using hl
  clear hx hO hk
  go_enter Tryz.func38, Tryz.ntmps38
  go_wp2_with fail
  clear hW0
  have c0 : W0.cell? ⟨w.heap.size, 0, none⟩ = some (.int .i64 3) := by rw [← HK.out]; exact cell_of_cells HO.out.box 0
  have q0 : ∀ W, Below W0.heap.size W0 W → W.cell? ⟨w.heap.size, 0, none⟩ = some (.int .i64 3) ∧ Below W0.heap.size W0 W := fun W h => ⟨by rw [← HK.out]; exact cell_of_cells (HO.out.go h).box 0, h⟩
  have HQ := Lib.hid q0
  clear q0
  go_region_held3 (fun w' => w'.cell? ⟨w.heap.size, 0, none⟩ = some (.int .i64 3) ∧ Below W0.heap.size W0 w')
    (first
      | exact HQ.out _ (Below.refl _ _).drew
      | (go_split_ands; refine HQ.out _ ?_; first | assumption | exact Below.trans (by assumption) (Below.mono (by assumption) (Below.size (by assumption)))))
    (first
      | (go_at_call 80; refine (kinds_at _).mono ?_; rintro e w1 ⟨r, rfl, hr, hb1⟩; have hlk := look_3 hr; have hq1 : Below W0.heap.size W0 w1 := (by go_split_ands; exact Below.trans (by assumption) (Below.mono hb1 (Below.size (by assumption))))))
  have hO1 := HO.out.go hq1
  have d0 : w1.cell? ⟨w.heap.size, 0, none⟩ = some (.int .i64 3) := by rw [← HK.out]; exact cell_of_cells hO1.box 0
  have d1 : w1.cell? ⟨w.heap.size, 1, none⟩ = some (.int .i64 x.level) := cell_of_cells hO1.box 1
  clear hlk hr hb1 c0
  go_wp2_with fail
  go_quiet (fail)
  have p0 : w1.cell? ⟨w.heap.size + 1, 0, none⟩ = some (.nilIface) := cell_of_cells hO1.res 0
  have p1 : w1.cell? ⟨w.heap.size + 1, 1, none⟩ = some (.int .i64 0) := cell_of_cells hO1.res 1
  have p2 : w1.cell? ⟨w.heap.size + 1, 2, none⟩ = some (.int .i64 0) := cell_of_cells hO1.res 2
  have f0 : w1.frozen? ⟨w.heap.size + 1, 0, none⟩ = false := frozen_of_cells hO1.res 0
  have f1 : w1.frozen? ⟨w.heap.size + 1, 1, none⟩ = false := frozen_of_cells hO1.res 1
  have f2 : w1.frozen? ⟨w.heap.size + 1, 2, none⟩ = false := frozen_of_cells hO1.res 2
  go_wp2_with fail
  exact open_wrong (hO1.go (below_drewN (Below.refl _ _) _)) rfl rfl
set_option maxRecDepth 100000 in
set_option maxHeartbeats 4000000 in
theorem open_lev3p (x : Sk) (s : SS) (body : Value) (w : World) (hx : s.At w.heap.size w x) (hk : x.kind = 3) (hl : 3 < x.level) :
    Calls Tryz.prog 38 #[.agg #[.int .i64 x.kind, .int .i64 x.level, .slice s.ea s.el s.ec, .int .i64 x.hb, .string x.hr, .int .i64 x.cr, .int .i64 x.cc, .slice s.ca s.cl s.cc, .int .i64 x.gf, .slice s.ga s.gl s.gc]] w (OpenPost false body x w) := by
  obtain ⟨W0, hW0, hO⟩ := open_in hx
  have HO := Lib.hid hO
  have HK := Lib.hid hk
  rw [hk] at hW0 ⊢
  have t1 : decide (x.level < 0) = false := by simp; omega
  have t2 : decide ((3 : Int) < x.level) = true := by simpa using hl
  have hbt : ∀ w, Calls Tryz.prog 12 #[.int .i64 3] w fun e w' => e = .returned (.int .i64 3) ∧ w' = w := fun w => (Bottom_any 3 w).mono fun e w' ⟨h1, h2⟩ => ⟨h1, h2.symm⟩
  have HBT := Lib.hid hbt
  clear hbt
  clear hx hO hk
  go_enter Tryz.func38, Tryz.ntmps38
  go_wp2_with fail
  clear hW0
  have c0 : W0.cell? ⟨w.heap.size, 0, none⟩ = some (.int .i64 3) := by rw [← HK.out]; exact cell_of_cells HO.out.box 0
  have q0 : ∀ W, Below W0.heap.size W0 W → W.cell? ⟨w.heap.size, 0, none⟩ = some (.int .i64 3) ∧ Below W0.heap.size W0 W := fun W h => ⟨by rw [← HK.out]; exact cell_of_cells (HO.out.go h).box 0, h⟩
  have HQ := Lib.hid q0
  clear q0
  go_region_held3 (fun w' => w'.cell? ⟨w.heap.size, 0, none⟩ = some (.int .i64 3) ∧ Below W0.heap.size W0 w')
    (first
      | exact HQ.out _ (Below.refl _ _).drew
      | (go_split_ands; refine HQ.out _ ?_; first | assumption | exact Below.trans (by assumption) (Below.mono (by assumption) (Below.size (by assumption)))))
    (first
      | (go_at_call 80; refine (kinds_at _).mono ?_; rintro e w1 ⟨r, rfl, hr, hb1⟩; have hlk := look_3 hr; have hq1 : Below W0.heap.size W0 w1 := (by go_split_ands; exact Below.trans (by assumption) (Below.mono hb1 (Below.size (by assumption))))))
  have hO1 := HO.out.go hq1
  have d0 : w1.cell? ⟨w.heap.size, 0, none⟩ = some (.int .i64 3) := by rw [← HK.out]; exact cell_of_cells hO1.box 0
  have d1 : w1.cell? ⟨w.heap.size, 1, none⟩ = some (.int .i64 x.level) := cell_of_cells hO1.box 1
  clear hlk hr hb1 c0
  go_wp2_with fail
  go_quiet ((go_at_call 12; exact Calls.quiet_of_same (HBT.out _)))
  have p0 : w1.cell? ⟨w.heap.size + 1, 0, none⟩ = some (.nilIface) := cell_of_cells hO1.res 0
  have p1 : w1.cell? ⟨w.heap.size + 1, 1, none⟩ = some (.int .i64 0) := cell_of_cells hO1.res 1
  have p2 : w1.cell? ⟨w.heap.size + 1, 2, none⟩ = some (.int .i64 0) := cell_of_cells hO1.res 2
  have f0 : w1.frozen? ⟨w.heap.size + 1, 0, none⟩ = false := frozen_of_cells hO1.res 0
  have f1 : w1.frozen? ⟨w.heap.size + 1, 1, none⟩ = false := frozen_of_cells hO1.res 1
  have f2 : w1.frozen? ⟨w.heap.size + 1, 2, none⟩ = false := frozen_of_cells hO1.res 2
  go_wp2_with fail
  exact open_wrong (hO1.go (below_drewN (Below.refl _ _) _)) rfl rfl

/-- What a sketch's body comes to. -/
def skCanon (x : Sk) : Sk := if x.kind == 1 then (if x.level == 0 then skNum 1 x.level x.e else skReg 1 x.level x.hb x.hr) else if x.kind == 2 then skCnt 2 x.level x.cr x.cc x.cl else skBkt 3 x.level x.gf x.gl
def skOk (x : Sk) : Bool := decide (1 ≤ x.kind) && decide (x.kind ≤ 3) && (decide (0 ≤ x.level) && decide (x.level ≤ bottomB x.kind)) && (bodyRight x && skSame x (skCanon x))
def skBody (x : Sk) (s : SS) : Value :=
  if x.kind == 1 then (if x.level == 0 then .iface 184 (.agg #[.slice s.ea s.el s.ec]) else .iface 187 (.agg #[.int .i64 x.hb, .string x.hr]))
  else if x.kind == 2 then .iface 188 (.agg #[.int .i64 x.cr, .int .i64 x.cc, .slice s.ca s.cl s.cc]) else .iface 190 (.agg #[.int .i64 x.gf, .slice s.ga s.gl s.gc])
theorem skBody_iface (x : Sk) (s : SS) : ∃ T v, skBody x s = .iface T v := by
  unfold skBody
  split
  · split <;> exact ⟨_, _, rfl⟩
  · split <;> exact ⟨_, _, rfl⟩
/-- The lengths that the walks ask for. -/
def SS.Short (s : SS) : Prop := s.el < 2147483648 ∧ s.cl < 2147483648 ∧ s.gl < 2147483648
def Sk.fit (x : Sk) : Prop := ∀ b ∈ x.gl, b.1 ≤ 9223372036854775807
theorem open_any (x : Sk) (s : SS) (w : World) (hx : s.At w.heap.size w x) (hs : s.Short) (hf : x.fit) :
    Calls Tryz.prog 38 #[.agg #[.int .i64 x.kind, .int .i64 x.level, .slice s.ea s.el s.ec, .int .i64 x.hb, .string x.hr, .int .i64 x.cr, .int .i64 x.cc, .slice s.ca s.cl s.cc, .int .i64 x.gf, .slice s.ga s.gl s.gc]] w (OpenPost (skOk x) (skBody x s) x w) := by
  obtain ⟨hs1, hs2, hs3⟩ := hs
  by_cases k1 : x.kind = 1
  · have hb : bottomB x.kind = 4 := by rw [k1]; rfl
    by_cases l0 : x.level < 0
    · have : skOk x = false := by unfold skOk; rw [decide_eq_false (show ¬ 0 ≤ x.level by omega)]; simp
      rw [this]; exact open_lev1n x s _ w hx k1 l0
    by_cases l4 : 4 < x.level
    · have : skOk x = false := by unfold skOk; rw [hb, decide_eq_false (show ¬ x.level ≤ 4 by omega)]; simp
      rw [this]; exact open_lev1p x s _ w hx k1 l4
    have hk : (x.kind == 1) = true := beq_iff_eq.2 k1
    have hok : skOk x = (bodyRight x && skSame x (skCanon x)) := by unfold skOk; rw [hb, k1, decide_eq_true (show 0 ≤ x.level by omega), decide_eq_true (show x.level ≤ 4 by omega)]; simp
    cases h0 : (x.level == 0) with
    | true =>
      have e1 : bodyRight x = exRight x.e := by unfold bodyRight; rw [hk, h0]; rfl
      have e2 : skCanon x = skNum 1 x.level x.e := by unfold skCanon; rw [hk, h0]; rfl
      have e3 : skBody x s = .iface 184 (.agg #[.slice s.ea s.el s.ec]) := by unfold skBody; rw [hk, h0]; rfl
      rw [hok, e1, e2, e3]
      exact open_num x s w hx k1 h0 hs1
    | false =>
      have e1 : bodyRight x = (hlRight x.hb x.hr && (x.hb == 8 - x.level)) := by unfold bodyRight; rw [hk, h0]; rfl
      have e2 : skCanon x = skReg 1 x.level x.hb x.hr := by unfold skCanon; rw [hk, h0]; rfl
      have e3 : skBody x s = .iface 187 (.agg #[.int .i64 x.hb, .string x.hr]) := by unfold skBody; rw [hk, h0]; rfl
      rw [hok, e1, e2, e3]
      exact open_reg x s w hx k1 h0 (by omega) (by omega)
  by_cases k2 : x.kind = 2
  · have hb : bottomB x.kind = 3 := by rw [k2]; rfl
    by_cases l0 : x.level < 0
    · have : skOk x = false := by unfold skOk; rw [decide_eq_false (show ¬ 0 ≤ x.level by omega)]; simp
      rw [this]; exact open_lev2n x s _ w hx k2 l0
    by_cases l4 : 3 < x.level
    · have : skOk x = false := by unfold skOk; rw [hb, decide_eq_false (show ¬ x.level ≤ 3 by omega)]; simp
      rw [this]; exact open_lev2p x s _ w hx k2 l4
    have hk1 : (x.kind == 1) = false := beq_eq_false_iff_ne.2 k1
    have hk : (x.kind == 2) = true := beq_iff_eq.2 k2
    have hok : skOk x = (bodyRight x && skSame x (skCanon x)) := by unfold skOk; rw [hb, k2, decide_eq_true (show 0 ≤ x.level by omega), decide_eq_true (show x.level ≤ 3 by omega)]; simp
    have e1 : bodyRight x = (cmRight x.cr x.cc x.cl && (x.cr == 2) && (x.cc == 32 / 2 ^ x.level.toNat)) := by unfold bodyRight; rw [hk1, hk]; rfl
    have e2 : skCanon x = skCnt 2 x.level x.cr x.cc x.cl := by unfold skCanon; rw [hk1, hk]; rfl
    have e3 : skBody x s = .iface 188 (.agg #[.int .i64 x.cr, .int .i64 x.cc, .slice s.ca s.cl s.cc]) := by unfold skBody; rw [hk1, hk]; rfl
    rw [hok, e1, e2, e3]
    exact open_cnt x s w hx k2 (by omega) (by omega) hs2
  by_cases k3 : x.kind = 3
  · have hb : bottomB x.kind = 3 := by rw [k3]; rfl
    by_cases l0 : x.level < 0
    · have : skOk x = false := by unfold skOk; rw [decide_eq_false (show ¬ 0 ≤ x.level by omega)]; simp
      rw [this]; exact open_lev3n x s _ w hx k3 l0
    by_cases l4 : 3 < x.level
    · have : skOk x = false := by unfold skOk; rw [hb, decide_eq_false (show ¬ x.level ≤ 3 by omega)]; simp
      rw [this]; exact open_lev3p x s _ w hx k3 l4
    have hk1 : (x.kind == 1) = false := beq_eq_false_iff_ne.2 k1
    have hk : (x.kind == 2) = false := beq_eq_false_iff_ne.2 k2
    have hok : skOk x = (bodyRight x && skSame x (skCanon x)) := by unfold skOk; rw [hb, k3, decide_eq_true (show 0 ≤ x.level by omega), decide_eq_true (show x.level ≤ 3 by omega)]; simp
    have e1 : bodyRight x = (hiRight x.gf x.gl && (x.gf == 3 - x.level)) := by unfold bodyRight; rw [hk1, hk]; rfl
    have e2 : skCanon x = skBkt 3 x.level x.gf x.gl := by unfold skCanon; rw [hk1, hk]; rfl
    have e3 : skBody x s = .iface 190 (.agg #[.int .i64 x.gf, .slice s.ga s.gl s.gc]) := by unfold skBody; rw [hk1, hk]; rfl
    rw [hok, e1, e2, e3]
    exact open_bkt x s w hx k3 (by omega) (by omega) hs3 hf
  · have : skOk x = false := by
      unfold skOk
      have : (decide (1 ≤ x.kind) && decide (x.kind ≤ 3)) = false := by rw [Bool.and_eq_false_iff, decide_eq_false_iff_not, decide_eq_false_iff_not]; omega
      rw [this]; rfl
    rw [this]
    exact open_kind x s _ w hx (beq_eq_false_iff_ne.2 k1) (beq_eq_false_iff_ne.2 k2) (beq_eq_false_iff_ne.2 k3)

set_option maxRecDepth 100000 in
set_option maxHeartbeats 1000000 in
theorem ladder_Right_any (x : Sk) (s : SS) (w : World) (hx : s.At w.heap.size w x) (hs : s.Short) (hf : x.fit) :
    Calls Tryz.prog 29 #[.agg #[.int .i64 x.kind, .int .i64 x.level, .slice s.ea s.el s.ec, .int .i64 x.hb, .string x.hr, .int .i64 x.cr, .int .i64 x.cc, .slice s.ca s.cl s.cc, .int .i64 x.gf, .slice s.ga s.gl s.gc]] w fun e w' => e = .returned (.bool (skOk x)) ∧ Below w.heap.size w w' := by
  obtain ⟨W0, hW0, hX0, hB0, hs0⟩ := boxes1 w #[.int .i64 x.kind, .int .i64 x.level, .slice s.ea s.el s.ec, .int .i64 x.hb, .string x.hr, .int .i64 x.cr, .int .i64 x.cc, .slice s.ca s.cl s.cc, .int .i64 x.gf, .slice s.ga s.gl s.gc] 36
  have c0 : W0.cell? ⟨w.heap.size, 0, none⟩ = some (.int .i64 x.kind) := cell_of_cells hX0 0
  have c1 : W0.cell? ⟨w.heap.size, 1, none⟩ = some (.int .i64 x.level) := cell_of_cells hX0 1
  have c2 : W0.cell? ⟨w.heap.size, 2, none⟩ = some (.slice s.ea s.el s.ec) := cell_of_cells hX0 2
  have c3 : W0.cell? ⟨w.heap.size, 3, none⟩ = some (.int .i64 x.hb) := cell_of_cells hX0 3
  have c4 : W0.cell? ⟨w.heap.size, 4, none⟩ = some (.string x.hr) := cell_of_cells hX0 4
  have c5 : W0.cell? ⟨w.heap.size, 5, none⟩ = some (.int .i64 x.cr) := cell_of_cells hX0 5
  have c6 : W0.cell? ⟨w.heap.size, 6, none⟩ = some (.int .i64 x.cc) := cell_of_cells hX0 6
  have c7 : W0.cell? ⟨w.heap.size, 7, none⟩ = some (.slice s.ca s.cl s.cc) := cell_of_cells hX0 7
  have c8 : W0.cell? ⟨w.heap.size, 8, none⟩ = some (.int .i64 x.gf) := cell_of_cells hX0 8
  have c9 : W0.cell? ⟨w.heap.size, 9, none⟩ = some (.slice s.ga s.gl s.gc) := cell_of_cells hX0 9
  have hO := open_any x s W0 (hx.go hB0) hs hf
  clear hx hX0 hs0
  go_enter Tryz.func29, Tryz.ntmps29
  go_wp2_with fail
  refine hO.mono ?_
  rintro e w1 ⟨he, hb1⟩
  clear hW0 hO c0 c1 c2 c3 c4 c5 c6 c7 c8 c9
  have hB1 := hB0.trans (hb1.mono hB0.size)
  generalize hok : skOk x = ok at he
  have HOK := Lib.hid hok
  clear hok
  cases ok with
  | true =>
    obtain ⟨T, v, hbv⟩ := skBody_iface x s
    rw [hbv] at he
    clear hbv
    obtain rfl := (show e = _ from he)
    clear he
    go_wp2_with fail
    go_ret
    exact ⟨by rw [HOK.out]; rfl, hB1.alloc hB1.size _⟩
  | false =>
    obtain ⟨b, rfl, -, -⟩ := (show ∃ b, _ from he)
    go_wp2_with fail
    go_ret
    exact ⟨by rw [HOK.out]; rfl, hB1.alloc hB1.size _⟩
end Go.Proofs.YtmkefodaibmkhaaGreatDoor
namespace Go.Proofs.YtmkefodaibmkhaaGreatDoor
open Go Go.RowKit

theorem cost_num (a : Option Addr) (n c : Nat) (w : World) (hn : n < 2147483648) : Calls Tryz.prog 168 #[.agg #[.slice a n c]] w fun e w' => e = .returned (.int .i64 (8 * n)) ∧ Below w.heap.size w w' := by
  go_enter Tryz.func168, Tryz.ntmps168
  go_wp2
  go_ret
  exact ⟨rfl, (Below.refl _ w).alloc (Nat.le_refl _) _⟩
theorem cost_reg (b : Int) (r : ByteArray) (w : World) : Calls Tryz.prog 197 #[.agg #[.int .i64 b, .string r]] w fun e w' => e = .returned (.int .i64 r.size) ∧ Below w.heap.size w w' := by
  go_enter Tryz.func197, Tryz.ntmps197
  go_wp2
  go_ret
  exact ⟨rfl, (Below.refl _ w).alloc (Nat.le_refl _) _⟩
theorem cost_cnt (r k : Int) (a : Option Addr) (n c : Nat) (w : World) (hn : n < 2147483648) : Calls Tryz.prog 207 #[.agg #[.int .i64 r, .int .i64 k, .slice a n c]] w fun e w' => e = .returned (.int .i64 (8 * n)) ∧ Below w.heap.size w w' := by
  go_enter Tryz.func207, Tryz.ntmps207
  go_wp2
  go_ret
  exact ⟨rfl, (Below.refl _ w).alloc (Nat.le_refl _) _⟩
theorem cost_bkt (f : Int) (a : Option Addr) (n c : Nat) (w : World) (hn : n < 2147483648) : Calls Tryz.prog 226 #[.agg #[.int .i64 f, .slice a n c]] w fun e w' => e = .returned (.int .i64 (16 * n)) ∧ Below w.heap.size w w' := by
  go_enter Tryz.func226, Tryz.ntmps226
  go_wp2
  go_ret
  exact ⟨rfl, (Below.refl _ w).alloc (Nat.le_refl _) _⟩

theorem meth_cost_num (a : Option Addr) (n c : Nat) (w : World) : (method 441 184 (.agg #[.slice a n c]) "aviary/ladder.cost").run Tryz.prog w = .ok (168, .agg #[.slice a n c]) w := by kernel_rfl
theorem meth_cost_reg (b : Int) (r : ByteArray) (w : World) : (method 441 187 (.agg #[.int .i64 b, .string r]) "aviary/ladder.cost").run Tryz.prog w = .ok (197, .agg #[.int .i64 b, .string r]) w := by kernel_rfl
theorem meth_cost_cnt (r k : Int) (a : Option Addr) (n c : Nat) (w : World) : (method 441 188 (.agg #[.int .i64 r, .int .i64 k, .slice a n c]) "aviary/ladder.cost").run Tryz.prog w = .ok (207, .agg #[.int .i64 r, .int .i64 k, .slice a n c]) w := by kernel_rfl
theorem meth_cost_bkt (f : Int) (a : Option Addr) (n c : Nat) (w : World) : (method 441 190 (.agg #[.int .i64 f, .slice a n c]) "aviary/ladder.cost").run Tryz.prog w = .ok (226, .agg #[.int .i64 f, .slice a n c]) w := by kernel_rfl
set_option maxRecDepth 100000 in
set_option maxHeartbeats 1000000 in
theorem Cost_num (x : Sk) (s : SS) (w : World) (hx : s.At w.heap.size w x) (hs : s.Short) (hf : x.fit) (hok : skOk x = true) (hb : skBody x s = .iface 184 (.agg #[.slice s.ea s.el s.ec])) :
    Calls Tryz.prog 18 #[.agg #[.int .i64 x.kind, .int .i64 x.level, .slice s.ea s.el s.ec, .int .i64 x.hb, .string x.hr, .int .i64 x.cr, .int .i64 x.cc, .slice s.ca s.cl s.cc, .int .i64 x.gf, .slice s.ga s.gl s.gc]] w fun e w' => e = .returned (.int .i64 (8 * (s.el : Int) + 16)) ∧ Below w.heap.size w w' := by
  obtain ⟨W0, hW0, hX0, hB0, hs0⟩ := boxes1 w #[.int .i64 x.kind, .int .i64 x.level, .slice s.ea s.el s.ec, .int .i64 x.hb, .string x.hr, .int .i64 x.cr, .int .i64 x.cc, .slice s.ca s.cl s.cc, .int .i64 x.gf, .slice s.ga s.gl s.gc] 36
  have c0 : W0.cell? ⟨w.heap.size, 0, none⟩ = some (.int .i64 x.kind) := cell_of_cells hX0 0
  have c1 : W0.cell? ⟨w.heap.size, 1, none⟩ = some (.int .i64 x.level) := cell_of_cells hX0 1
  have c2 : W0.cell? ⟨w.heap.size, 2, none⟩ = some (.slice s.ea s.el s.ec) := cell_of_cells hX0 2
  have c3 : W0.cell? ⟨w.heap.size, 3, none⟩ = some (.int .i64 x.hb) := cell_of_cells hX0 3
  have c4 : W0.cell? ⟨w.heap.size, 4, none⟩ = some (.string x.hr) := cell_of_cells hX0 4
  have c5 : W0.cell? ⟨w.heap.size, 5, none⟩ = some (.int .i64 x.cr) := cell_of_cells hX0 5
  have c6 : W0.cell? ⟨w.heap.size, 6, none⟩ = some (.int .i64 x.cc) := cell_of_cells hX0 6
  have c7 : W0.cell? ⟨w.heap.size, 7, none⟩ = some (.slice s.ca s.cl s.cc) := cell_of_cells hX0 7
  have c8 : W0.cell? ⟨w.heap.size, 8, none⟩ = some (.int .i64 x.gf) := cell_of_cells hX0 8
  have c9 : W0.cell? ⟨w.heap.size, 9, none⟩ = some (.slice s.ga s.gl s.gc) := cell_of_cells hX0 9
  have hO := open_any x s W0 (hx.go hB0) hs hf
  rw [hok, hb] at hO
  obtain ⟨hs1, hs2, hs3⟩ := hs
  clear hx hX0 hs0 hok hb
  go_enter Tryz.func18, Tryz.ntmps18
  go_wp2_with fail
  refine hO.mono ?_
  rintro e w1 ⟨he, hb1⟩
  obtain rfl := (show e = _ from he)
  clear he hW0 hO c0 c1 c2 c3 c4 c5 c6 c7 c8 c9
  have hB1 := hB0.trans (hb1.mono hB0.size)
  have hm := meth_cost_num s.ea s.el s.ec
  obtain ⟨W2, hW2, -, hB2, -⟩ := boxes1 w1 #[.iface 184 (.agg #[.slice s.ea s.el s.ec]), .int .i64 x.kind, .int .i64 x.level] 68
  have HW := Lib.hid hW2
  clear hW2
  go_wp2_with fail
  rw [HW.out]
  refine (cost_num s.ea s.el s.ec W2 hs1).mono ?_
  rintro e w3 ⟨rfl, hb3⟩
  clear HW hm
  go_wp2_with fail
  go_ret
  exact ⟨rfl, hB1.trans ((hB2.trans (hb3.mono hB2.size)).mono hB1.size)⟩
set_option maxRecDepth 100000 in
set_option maxHeartbeats 1000000 in
theorem Cost_reg (x : Sk) (s : SS) (w : World) (hx : s.At w.heap.size w x) (hs : s.Short) (hf : x.fit) (hr : x.hr.size < 2147483648) (hok : skOk x = true) (hb : skBody x s = .iface 187 (.agg #[.int .i64 x.hb, .string x.hr])) :
    Calls Tryz.prog 18 #[.agg #[.int .i64 x.kind, .int .i64 x.level, .slice s.ea s.el s.ec, .int .i64 x.hb, .string x.hr, .int .i64 x.cr, .int .i64 x.cc, .slice s.ca s.cl s.cc, .int .i64 x.gf, .slice s.ga s.gl s.gc]] w fun e w' => e = .returned (.int .i64 ((x.hr.size : Int) + 16)) ∧ Below w.heap.size w w' := by
  obtain ⟨W0, hW0, hX0, hB0, hs0⟩ := boxes1 w #[.int .i64 x.kind, .int .i64 x.level, .slice s.ea s.el s.ec, .int .i64 x.hb, .string x.hr, .int .i64 x.cr, .int .i64 x.cc, .slice s.ca s.cl s.cc, .int .i64 x.gf, .slice s.ga s.gl s.gc] 36
  have c0 : W0.cell? ⟨w.heap.size, 0, none⟩ = some (.int .i64 x.kind) := cell_of_cells hX0 0
  have c1 : W0.cell? ⟨w.heap.size, 1, none⟩ = some (.int .i64 x.level) := cell_of_cells hX0 1
  have c2 : W0.cell? ⟨w.heap.size, 2, none⟩ = some (.slice s.ea s.el s.ec) := cell_of_cells hX0 2
  have c3 : W0.cell? ⟨w.heap.size, 3, none⟩ = some (.int .i64 x.hb) := cell_of_cells hX0 3
  have c4 : W0.cell? ⟨w.heap.size, 4, none⟩ = some (.string x.hr) := cell_of_cells hX0 4
  have c5 : W0.cell? ⟨w.heap.size, 5, none⟩ = some (.int .i64 x.cr) := cell_of_cells hX0 5
  have c6 : W0.cell? ⟨w.heap.size, 6, none⟩ = some (.int .i64 x.cc) := cell_of_cells hX0 6
  have c7 : W0.cell? ⟨w.heap.size, 7, none⟩ = some (.slice s.ca s.cl s.cc) := cell_of_cells hX0 7
  have c8 : W0.cell? ⟨w.heap.size, 8, none⟩ = some (.int .i64 x.gf) := cell_of_cells hX0 8
  have c9 : W0.cell? ⟨w.heap.size, 9, none⟩ = some (.slice s.ga s.gl s.gc) := cell_of_cells hX0 9
  have hO := open_any x s W0 (hx.go hB0) hs hf
  rw [hok, hb] at hO
  obtain ⟨hs1, hs2, hs3⟩ := hs
  clear hx hX0 hs0 hok hb
  go_enter Tryz.func18, Tryz.ntmps18
  go_wp2_with fail
  refine hO.mono ?_
  rintro e w1 ⟨he, hb1⟩
  obtain rfl := (show e = _ from he)
  clear he hW0 hO c0 c1 c2 c3 c4 c5 c6 c7 c8 c9
  have hB1 := hB0.trans (hb1.mono hB0.size)
  have hm := meth_cost_reg x.hb x.hr
  obtain ⟨W2, hW2, -, hB2, -⟩ := boxes1 w1 #[.iface 187 (.agg #[.int .i64 x.hb, .string x.hr]), .int .i64 x.kind, .int .i64 x.level] 68
  have HW := Lib.hid hW2
  clear hW2
  go_wp2_with fail
  rw [HW.out]
  refine (cost_reg x.hb x.hr W2).mono ?_
  rintro e w3 ⟨rfl, hb3⟩
  clear HW hm
  go_wp2_with fail
  go_ret
  exact ⟨rfl, hB1.trans ((hB2.trans (hb3.mono hB2.size)).mono hB1.size)⟩
set_option maxRecDepth 100000 in
set_option maxHeartbeats 1000000 in
theorem Cost_cnt (x : Sk) (s : SS) (w : World) (hx : s.At w.heap.size w x) (hs : s.Short) (hf : x.fit) (hok : skOk x = true) (hb : skBody x s = .iface 188 (.agg #[.int .i64 x.cr, .int .i64 x.cc, .slice s.ca s.cl s.cc])) :
    Calls Tryz.prog 18 #[.agg #[.int .i64 x.kind, .int .i64 x.level, .slice s.ea s.el s.ec, .int .i64 x.hb, .string x.hr, .int .i64 x.cr, .int .i64 x.cc, .slice s.ca s.cl s.cc, .int .i64 x.gf, .slice s.ga s.gl s.gc]] w fun e w' => e = .returned (.int .i64 (8 * (s.cl : Int) + 16)) ∧ Below w.heap.size w w' := by
  obtain ⟨W0, hW0, hX0, hB0, hs0⟩ := boxes1 w #[.int .i64 x.kind, .int .i64 x.level, .slice s.ea s.el s.ec, .int .i64 x.hb, .string x.hr, .int .i64 x.cr, .int .i64 x.cc, .slice s.ca s.cl s.cc, .int .i64 x.gf, .slice s.ga s.gl s.gc] 36
  have c0 : W0.cell? ⟨w.heap.size, 0, none⟩ = some (.int .i64 x.kind) := cell_of_cells hX0 0
  have c1 : W0.cell? ⟨w.heap.size, 1, none⟩ = some (.int .i64 x.level) := cell_of_cells hX0 1
  have c2 : W0.cell? ⟨w.heap.size, 2, none⟩ = some (.slice s.ea s.el s.ec) := cell_of_cells hX0 2
  have c3 : W0.cell? ⟨w.heap.size, 3, none⟩ = some (.int .i64 x.hb) := cell_of_cells hX0 3
  have c4 : W0.cell? ⟨w.heap.size, 4, none⟩ = some (.string x.hr) := cell_of_cells hX0 4
  have c5 : W0.cell? ⟨w.heap.size, 5, none⟩ = some (.int .i64 x.cr) := cell_of_cells hX0 5
  have c6 : W0.cell? ⟨w.heap.size, 6, none⟩ = some (.int .i64 x.cc) := cell_of_cells hX0 6
  have c7 : W0.cell? ⟨w.heap.size, 7, none⟩ = some (.slice s.ca s.cl s.cc) := cell_of_cells hX0 7
  have c8 : W0.cell? ⟨w.heap.size, 8, none⟩ = some (.int .i64 x.gf) := cell_of_cells hX0 8
  have c9 : W0.cell? ⟨w.heap.size, 9, none⟩ = some (.slice s.ga s.gl s.gc) := cell_of_cells hX0 9
  have hO := open_any x s W0 (hx.go hB0) hs hf
  rw [hok, hb] at hO
  obtain ⟨hs1, hs2, hs3⟩ := hs
  clear hx hX0 hs0 hok hb
  go_enter Tryz.func18, Tryz.ntmps18
  go_wp2_with fail
  refine hO.mono ?_
  rintro e w1 ⟨he, hb1⟩
  obtain rfl := (show e = _ from he)
  clear he hW0 hO c0 c1 c2 c3 c4 c5 c6 c7 c8 c9
  have hB1 := hB0.trans (hb1.mono hB0.size)
  have hm := meth_cost_cnt x.cr x.cc s.ca s.cl s.cc
  obtain ⟨W2, hW2, -, hB2, -⟩ := boxes1 w1 #[.iface 188 (.agg #[.int .i64 x.cr, .int .i64 x.cc, .slice s.ca s.cl s.cc]), .int .i64 x.kind, .int .i64 x.level] 68
  have HW := Lib.hid hW2
  clear hW2
  go_wp2_with fail
  rw [HW.out]
  refine (cost_cnt x.cr x.cc s.ca s.cl s.cc W2 hs2).mono ?_
  rintro e w3 ⟨rfl, hb3⟩
  clear HW hm
  go_wp2_with fail
  go_ret
  exact ⟨rfl, hB1.trans ((hB2.trans (hb3.mono hB2.size)).mono hB1.size)⟩
set_option maxRecDepth 100000 in
set_option maxHeartbeats 1000000 in
theorem Cost_bkt (x : Sk) (s : SS) (w : World) (hx : s.At w.heap.size w x) (hs : s.Short) (hf : x.fit) (hok : skOk x = true) (hb : skBody x s = .iface 190 (.agg #[.int .i64 x.gf, .slice s.ga s.gl s.gc])) :
    Calls Tryz.prog 18 #[.agg #[.int .i64 x.kind, .int .i64 x.level, .slice s.ea s.el s.ec, .int .i64 x.hb, .string x.hr, .int .i64 x.cr, .int .i64 x.cc, .slice s.ca s.cl s.cc, .int .i64 x.gf, .slice s.ga s.gl s.gc]] w fun e w' => e = .returned (.int .i64 (16 * (s.gl : Int) + 16)) ∧ Below w.heap.size w w' := by
  obtain ⟨W0, hW0, hX0, hB0, hs0⟩ := boxes1 w #[.int .i64 x.kind, .int .i64 x.level, .slice s.ea s.el s.ec, .int .i64 x.hb, .string x.hr, .int .i64 x.cr, .int .i64 x.cc, .slice s.ca s.cl s.cc, .int .i64 x.gf, .slice s.ga s.gl s.gc] 36
  have c0 : W0.cell? ⟨w.heap.size, 0, none⟩ = some (.int .i64 x.kind) := cell_of_cells hX0 0
  have c1 : W0.cell? ⟨w.heap.size, 1, none⟩ = some (.int .i64 x.level) := cell_of_cells hX0 1
  have c2 : W0.cell? ⟨w.heap.size, 2, none⟩ = some (.slice s.ea s.el s.ec) := cell_of_cells hX0 2
  have c3 : W0.cell? ⟨w.heap.size, 3, none⟩ = some (.int .i64 x.hb) := cell_of_cells hX0 3
  have c4 : W0.cell? ⟨w.heap.size, 4, none⟩ = some (.string x.hr) := cell_of_cells hX0 4
  have c5 : W0.cell? ⟨w.heap.size, 5, none⟩ = some (.int .i64 x.cr) := cell_of_cells hX0 5
  have c6 : W0.cell? ⟨w.heap.size, 6, none⟩ = some (.int .i64 x.cc) := cell_of_cells hX0 6
  have c7 : W0.cell? ⟨w.heap.size, 7, none⟩ = some (.slice s.ca s.cl s.cc) := cell_of_cells hX0 7
  have c8 : W0.cell? ⟨w.heap.size, 8, none⟩ = some (.int .i64 x.gf) := cell_of_cells hX0 8
  have c9 : W0.cell? ⟨w.heap.size, 9, none⟩ = some (.slice s.ga s.gl s.gc) := cell_of_cells hX0 9
  have hO := open_any x s W0 (hx.go hB0) hs hf
  rw [hok, hb] at hO
  obtain ⟨hs1, hs2, hs3⟩ := hs
  clear hx hX0 hs0 hok hb
  go_enter Tryz.func18, Tryz.ntmps18
  go_wp2_with fail
  refine hO.mono ?_
  rintro e w1 ⟨he, hb1⟩
  obtain rfl := (show e = _ from he)
  clear he hW0 hO c0 c1 c2 c3 c4 c5 c6 c7 c8 c9
  have hB1 := hB0.trans (hb1.mono hB0.size)
  have hm := meth_cost_bkt x.gf s.ga s.gl s.gc
  obtain ⟨W2, hW2, -, hB2, -⟩ := boxes1 w1 #[.iface 190 (.agg #[.int .i64 x.gf, .slice s.ga s.gl s.gc]), .int .i64 x.kind, .int .i64 x.level] 68
  have HW := Lib.hid hW2
  clear hW2
  go_wp2_with fail
  rw [HW.out]
  refine (cost_bkt x.gf s.ga s.gl s.gc W2 hs3).mono ?_
  rintro e w3 ⟨rfl, hb3⟩
  clear HW hm
  go_wp2_with fail
  go_ret
  exact ⟨rfl, hB1.trans ((hB2.trans (hb3.mono hB2.size)).mono hB1.size)⟩
/-- A sketch's cost. -/
def costOf (x : Sk) : Int := if skOk x then (if x.kind == 1 then (if x.level == 0 then 8 * (x.e.length : Int) else (x.hr.size : Int)) else if x.kind == 2 then 8 * (x.cl.length : Int) else 16 * (x.gl.length : Int)) + 16 else 0
set_option maxRecDepth 100000 in
set_option maxHeartbeats 1000000 in
theorem ladder_Cost_any (x : Sk) (s : SS) (w : World) (hx : s.At w.heap.size w x) (hs : s.Short) (hf : x.fit) (hr : x.hr.size < 2147483648) :
    Calls Tryz.prog 18 #[.agg #[.int .i64 x.kind, .int .i64 x.level, .slice s.ea s.el s.ec, .int .i64 x.hb, .string x.hr, .int .i64 x.cr, .int .i64 x.cc, .slice s.ca s.cl s.cc, .int .i64 x.gf, .slice s.ga s.gl s.gc]] w fun e w' => e = .returned (.int .i64 (costOf x)) ∧ Below w.heap.size w w' := by
  cases hok : skOk x with
  | true =>
    cases k1 : (x.kind == 1) with
    | true =>
      cases l0 : (x.level == 0) with
      | true =>
        have e : costOf x = 8 * (s.el : Int) + 16 := by unfold costOf; rw [hok, k1, l0, hx.e.1.1]; rfl
        rw [e]
        exact Cost_num x s w hx hs hf hok (by unfold skBody; rw [k1, l0]; rfl)
      | false =>
        have e : costOf x = (x.hr.size : Int) + 16 := by unfold costOf; rw [hok, k1, l0]; rfl
        rw [e]
        exact Cost_reg x s w hx hs hf hr hok (by unfold skBody; rw [k1, l0]; rfl)
    | false =>
      cases k2 : (x.kind == 2) with
      | true =>
        have e : costOf x = 8 * (s.cl : Int) + 16 := by unfold costOf; rw [hok, k1, k2, hx.c.1.1]; rfl
        rw [e]
        exact Cost_cnt x s w hx hs hf hok (by unfold skBody; rw [k1, k2]; rfl)
      | false =>
        have e : costOf x = 16 * (s.gl : Int) + 16 := by unfold costOf; rw [hok, k1, k2, hx.g.1.1]; rfl
        rw [e]
        exact Cost_bkt x s w hx hs hf hok (by unfold skBody; rw [k1, k2]; rfl)
  | false =>
    have HC : Hid (costOf x = 0) := by unfold Hid costOf; rw [hok]; rfl
    obtain ⟨W0, hW0, hX0, hB0, hs0⟩ := boxes1 w #[.int .i64 x.kind, .int .i64 x.level, .slice s.ea s.el s.ec, .int .i64 x.hb, .string x.hr, .int .i64 x.cr, .int .i64 x.cc, .slice s.ca s.cl s.cc, .int .i64 x.gf, .slice s.ga s.gl s.gc] 36
    have c0 : W0.cell? ⟨w.heap.size, 0, none⟩ = some (.int .i64 x.kind) := cell_of_cells hX0 0
    have c1 : W0.cell? ⟨w.heap.size, 1, none⟩ = some (.int .i64 x.level) := cell_of_cells hX0 1
    have c2 : W0.cell? ⟨w.heap.size, 2, none⟩ = some (.slice s.ea s.el s.ec) := cell_of_cells hX0 2
    have c3 : W0.cell? ⟨w.heap.size, 3, none⟩ = some (.int .i64 x.hb) := cell_of_cells hX0 3
    have c4 : W0.cell? ⟨w.heap.size, 4, none⟩ = some (.string x.hr) := cell_of_cells hX0 4
    have c5 : W0.cell? ⟨w.heap.size, 5, none⟩ = some (.int .i64 x.cr) := cell_of_cells hX0 5
    have c6 : W0.cell? ⟨w.heap.size, 6, none⟩ = some (.int .i64 x.cc) := cell_of_cells hX0 6
    have c7 : W0.cell? ⟨w.heap.size, 7, none⟩ = some (.slice s.ca s.cl s.cc) := cell_of_cells hX0 7
    have c8 : W0.cell? ⟨w.heap.size, 8, none⟩ = some (.int .i64 x.gf) := cell_of_cells hX0 8
    have c9 : W0.cell? ⟨w.heap.size, 9, none⟩ = some (.slice s.ga s.gl s.gc) := cell_of_cells hX0 9
    have hO := open_any x s W0 (hx.go hB0) hs hf
    rw [hok] at hO
    clear hx hX0 hs0 hok
    go_enter Tryz.func18, Tryz.ntmps18
    go_wp2_with fail
    refine hO.mono ?_
    rintro e w1 ⟨he, hb1⟩
    obtain ⟨b, rfl, -, -⟩ := (show ∃ b, _ from he)
    clear hW0 hO c0 c1 c2 c3 c4 c5 c6 c7 c8 c9
    have hB1 := hB0.trans (hb1.mono hB0.size)
    go_wp2_with fail
    go_ret
    exact ⟨by rw [HC.out]; rfl, hB1.alloc hB1.size _⟩
end Go.Proofs.YtmkefodaibmkhaaGreatDoor

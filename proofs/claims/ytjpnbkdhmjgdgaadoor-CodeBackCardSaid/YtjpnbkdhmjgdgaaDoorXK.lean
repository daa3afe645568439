/- Package ladder: open whole; Right, Cost. -/
import Derived.Test.YtjpnbkdhmjgdgaaDoorXJ
namespace Go.Proofs.YtjpnbkdhmjgdgaaDoor
open Go Go.RowKit

set_option maxRecDepth 100000 in
set_option maxHeartbeats 4000000 in
theorem open_lev1n (x : Sk) (s : SS) (body : Value) (w : World) (hx : s.At w.heap.size w x) (hk : x.kind = 1) (hl : x.level < 0) :
    Calls Tryd.prog 29 #[.agg #[.int .i64 x.kind, .int .i64 x.level, .slice s.ea s.el s.ec, .int .i64 x.hb, .string x.hr, .int .i64 x.cr, .int .i64 x.cc, .slice s.ca s.cl s.cc, .int .i64 x.gf, .slice s.ga s.gl s.gc]] w (OpenPost false body x w) := by
  obtain ⟨W0, hW0, hO⟩ := open_in hx
  have HO := Lib.hid hO
  have HK := Lib.hid hk
  rw [hk] at hW0 ⊢
  have t1 : decide (x.level < 0) = true := by simpa using hl
  clear hx hO hk
  go_enter Tryd.func29, Tryd.ntmps29
  go_wp2_with fail
  clear hW0
  have c0 : W0.cell? ⟨w.heap.size, 0, none⟩ = some (.int .i64 1) := by rw [← HK.out]; exact cell_of_cells HO.out.box 0
  have q0 : ∀ W, Below W0.heap.size W0 W → W.cell? ⟨w.heap.size, 0, none⟩ = some (.int .i64 1) ∧ Below W0.heap.size W0 W := fun W h => ⟨by rw [← HK.out]; exact cell_of_cells (HO.out.go h).box 0, h⟩
  have HQ := Lib.hid q0
  clear q0
  go_region_held3 (fun w' => w'.cell? ⟨w.heap.size, 0, none⟩ = some (.int .i64 1) ∧ Below W0.heap.size W0 w')
    (first
      | exact HQ.out _ (Below.refl _ _).drew
      | (go_split_ands; refine HQ.out _ ?_; first | assumption | exact Below.trans (by assumption) (Below.mono (by assumption) (Below.size (by assumption)))))
    (first
      | (go_at_call 41; refine (kinds_at _).mono ?_; rintro e w1 ⟨r, rfl, hr, hb1⟩; have hlk := look_1 hr; have hq1 : Below W0.heap.size W0 w1 := (by go_split_ands; exact Below.trans (by assumption) (Below.mono hb1 (Below.size (by assumption))))))
  have hO1 := HO.out.go hq1
  have d0 : w1.cell? ⟨w.heap.size, 0, none⟩ = some (.int .i64 1) := by rw [← HK.out]; exact cell_of_cells hO1.box 0
  have d1 : w1.cell? ⟨w.heap.size, 1, none⟩ = some (.int .i64 x.level) := cell_of_cells hO1.box 1
  clear hlk hr hb1 c0
  go_wp2_with fail
  go_quiet (fail)
  have p0 : w1.cell? ⟨w.heap.size + 1, 0, none⟩ = some (.nilIface) := cell_of_cells hO1.res 0
  have p1 : w1.cell? ⟨w.heap.size + 1, 1, none⟩ = some (.int .i64 0) := cell_of_cells hO1.res 1
  have p2 : w1.cell? ⟨w.heap.size + 1, 2, none⟩ = some (.int .i64 0) := cell_of_cells hO1.res 2
  have f0 : w1.frozen? ⟨w.heap.size + 1, 0, none⟩ = false := frozen_of_cells hO1.res 0
  have f1 : w1.frozen? ⟨w.heap.size + 1, 1, none⟩ = false := frozen_of_cells hO1.res 1
  have f2 : w1.frozen? ⟨w.heap.size + 1, 2, none⟩ = false := frozen_of_cells hO1.res 2
  go_wp2_with fail
  exact open_wrong (hO1.go (below_drewN (Below.refl _ _) _)) rfl rfl
set_option maxRecDepth 100000 in
set_option maxHeartbeats 4000000 in
theorem open_lev1p (x : Sk) (s : SS) (body : Value) (w : World) (hx : s.At w.heap.size w x) (hk : x.kind = 1) (hl : 4 < x.level) :
    Calls Tryd.prog 29 #[.agg #[.int .i64 x.kind, .int .i64 x.level, .slice s.ea s.el s.ec, .int .i64 x.hb, .string x.hr, .int .i64 x.cr, .int .i64 x.cc, .slice s.ca s.cl s.cc, .int .i64 x.gf, .slice s.ga s.gl s.gc]] w (OpenPost false body x w) := by
  obtain ⟨W0, hW0, hO⟩ := open_in hx
  have HO := Lib.hid hO
  have HK := Lib.hid hk
  rw [hk] at hW0 ⊢
  have t1 : decide (x.level < 0) = false := by simp; omega
  have t2 : decide ((4 : Int) < x.level) = true := by simpa using hl
  have hbt : ∀ w, Calls Tryd.prog 34 #[.int .i64 1] w fun e w' => e = .returned (.int .i64 4) ∧ w' = w := fun w => (Bottom_any 1 w).mono fun e w' ⟨h1, h2⟩ => ⟨h1, h2.symm⟩
  have HBT := Lib.hid hbt
  clear hbt
  clear hx hO hk
  go_enter Tryd.func29, Tryd.ntmps29
  go_wp2_with fail
  clear hW0
  have c0 : W0.cell? ⟨w.heap.size, 0, none⟩ = some (.int .i64 1) := by rw [← HK.out]; exact cell_of_cells HO.out.box 0
  have q0 : ∀ W, Below W0.heap.size W0 W → W.cell? ⟨w.heap.size, 0, none⟩ = some (.int .i64 1) ∧ Below W0.heap.size W0 W := fun W h => ⟨by rw [← HK.out]; exact cell_of_cells (HO.out.go h).box 0, h⟩
  have HQ := Lib.hid q0
  clear q0
  go_region_held3 (fun w' => w'.cell? ⟨w.heap.size, 0, none⟩ = some (.int .i64 1) ∧ Below W0.heap.size W0 w')
    (first
      | exact HQ.out _ (Below.refl _ _).drew
      | (go_split_ands; refine HQ.out _ ?_; first | assumption | exact Below.trans (by assumption) (Below.mono (by assumption) (Below.size (by assumption)))))
    (first
      | (go_at_call 41; refine (kinds_at _).mono ?_; rintro e w1 ⟨r, rfl, hr, hb1⟩; have hlk := look_1 hr; have hq1 : Below W0.heap.size W0 w1 := (by go_split_ands; exact Below.trans (by assumption) (Below.mono hb1 (Below.size (by assumption))))))
  have hO1 := HO.out.go hq1
  have d0 : w1.cell? ⟨w.heap.size, 0, none⟩ = some (.int .i64 1) := by rw [← HK.out]; exact cell_of_cells hO1.box 0
  have d1 : w1.cell? ⟨w.heap.size, 1, none⟩ = some (.int .i64 x.level) := cell_of_cells hO1.box 1
  clear hlk hr hb1 c0
  go_wp2_with fail
  go_quiet ((go_at_call 34; exact Calls.quiet_of_same (HBT.out _)))
  have p0 : w1.cell? ⟨w.heap.size + 1, 0, none⟩ = some (.nilIface) := cell_of_cells hO1.res 0
  have p1 : w1.cell? ⟨w.heap.size + 1, 1, none⟩ = some (.int .i64 0) := cell_of_cells hO1.res 1
  have p2 : w1.cell? ⟨w.heap.size + 1, 2, none⟩ = some (.int .i64 0) := cell_of_cells hO1.res 2
  have f0 : w1.frozen? ⟨w.heap.size + 1, 0, none⟩ = false := frozen_of_cells hO1.res 0
  have f1 : w1.frozen? ⟨w.heap.size + 1, 1, none⟩ = false := frozen_of_cells hO1.res 1
  have f2 : w1.frozen? ⟨w.heap.size + 1, 2, none⟩ = false := frozen_of_cells hO1.res 2
  go_wp2_with fail
  exact open_wrong (hO1.go (below_drewN (Below.refl _ _) _)) rfl rfl
set_option maxRecDepth 100000 in
set_option maxHeartbeats 4000000 in
theorem open_lev2n (x : Sk) (s : SS) (body : Value) (w : World) (hx : s.At w.heap.size w x) (hk : x.kind = 2) (hl : x.level < 0) :
    Calls Tryd.prog 29 #[.agg #[.int .i64 x.kind, .int .i64 x.level, .slice s.ea s.el s.ec, .int .i64 x.hb, .string x.hr, .int .i64 x.cr, .int .i64 x.cc, .slice s.ca s.cl s.cc, .int .i64 x.gf, .slice s.ga s.gl s.gc]] w (OpenPost false body x w) := by
  obtain ⟨W0, hW0, hO⟩ := open_in hx
  have HO := Lib.hid hO
  have HK := Lib.hid hk
  rw [hk] at hW0 ⊢
  have t1 : decide (x.level < 0) = true := by simpa using hl
  clear hx hO hk
  go_enter Tryd.func29, Tryd.ntmps29
  go_wp2_with fail
  clear hW0
  have c0 : W0.cell? ⟨w.heap.size, 0, none⟩ = some (.int .i64 2) := by rw [← HK.out]; exact cell_of_cells HO.out.box 0
  have q0 : ∀ W, Below W0.heap.size W0 W → W.cell? ⟨w.heap.size, 0, none⟩ = some (.int .i64 2) ∧ Below W0.heap.size W0 W := fun W h => ⟨by rw [← HK.out]; exact cell_of_cells (HO.out.go h).box 0, h⟩
  have HQ := Lib.hid q0
  clear q0
  go_region_held3 (fun w' => w'.cell? ⟨w.heap.size, 0, none⟩ = some (.int .i64 2) ∧ Below W0.heap.size W0 w')
    (first
      | exact HQ.out _ (Below.refl _ _).drew
      | (go_split_ands; refine HQ.out _ ?_; first | assumption | exact Below.trans (by assumption) (Below.mono (by assumption) (Below.size (by assumption)))))
    (first
      | (go_at_call 41; refine (kinds_at _).mono ?_; rintro e w1 ⟨r, rfl, hr, hb1⟩; have hlk := look_2 hr; have hq1 : Below W0.heap.size W0 w1 := (by go_split_ands; exact Below.trans (by assumption) (Below.mono hb1 (Below.size (by assumption))))))
  have hO1 := HO.out.go hq1
  have d0 : w1.cell? ⟨w.heap.size, 0, none⟩ = some (.int .i64 2) := by rw [← HK.out]; exact cell_of_cells hO1.box 0
  have d1 : w1.cell? ⟨w.heap.size, 1, none⟩ = some (.int .i64 x.level) := cell_of_cells hO1.box 1
  clear hlk hr hb1 c0
  go_wp2_with fail
  go_quiet (fail)
  have p0 : w1.cell? ⟨w.heap.size + 1, 0, none⟩ = some (.nilIface) := cell_of_cells hO1.res 0
  have p1 : w1.cell? ⟨w.heap.size + 1, 1, none⟩ = some (.int .i64 0) := cell_of_cells hO1.res 1
  have p2 : w1.cell? ⟨w.heap.size + 1, 2, none⟩ = some (.int .i64 0) := cell_of_cells hO1.res 2
  have f0 : w1.frozen? ⟨w.heap.size + 1, 0, none⟩ = false := frozen_of_cells hO1.res 0
  have f1 : w1.frozen? ⟨w.heap.size + 1, 1, none⟩ = false := frozen_of_cells hO1.res 1
  have f2 : w1.frozen? ⟨w.heap.size + 1, 2, none⟩ = false := frozen_of_cells hO1.res 2
  go_wp2_with fail
  exact open_wrong (hO1.go (below_drewN (Below.refl _ _) _)) rfl rfl
set_option maxRecDepth 100000 in
set_option maxHeartbeats 4000000 in
theorem open_lev2p (x : Sk) (s : SS) (body : Value) (w : World) (hx : s.At w.heap.size w x) (hk : x.kind = 2) (hl : 3 < x.level) :
    Calls Tryd.prog 29 #[.agg #[.int .i64 x.kind, .int .i64 x.level, .slice s.ea s.el s.ec, .int .i64 x.hb, .string x.hr, .int .i64 x.cr, .int .i64 x.cc, .slice s.ca s.cl s.cc, .int .i64 x.gf, .slice s.ga s.gl s.gc]] w (OpenPost false body x w) := by
  obtain ⟨W0, hW0, hO⟩ := open_in hx
  have HO := Lib.hid hO
  have HK := Lib.hid hk
  rw [hk] at hW0 ⊢
  have t1 : decide (x.level < 0) = false := by simp; omega
  have t2 : decide ((3 : Int) < x.level) = true := by simpa using hl
  have hbt : ∀ w, Calls Tryd.prog 34 #[.int .i64 2] w fun e w' => e = .returned (.int .i64 3) ∧ w' = w := fun w => (Bottom_any 2 w).mono fun e w' ⟨h1, h2⟩ => ⟨h1, h2.symm⟩
  have HBT := Lib.hid hbt
  clear hbt
  clear hx hO hk
  go_enter Tryd.func29, Tryd.ntmps29
  go_wp2_with fail
  clear hW0
  have c0 : W0.cell? ⟨w.heap.size, 0, none⟩ = some (.int .i64 2) := by rw [← HK.out]; exact cell_of_cells HO.out.box 0
  have q0 : ∀ W, Below W0.heap.size W0 W → W.cell? ⟨w.heap.size, 0, none⟩ = some (.int .i64 2) ∧ Below W0.heap.size W0 W := fun W h => ⟨by rw [← HK.out]; exact cell_of_cells (HO.out.go h).box 0, h⟩
  have HQ := Lib.hid q0
  clear q0
  go_region_held3 (fun w' => w'.cell? ⟨w.heap.size, 0, none⟩ = some (.int .i64 2) ∧ Below W0.heap.size W0 w')
    (first
      | exact HQ.out _ (Below.refl _ _).drew
      | (go_split_ands; refine HQ.out _ ?_; first | assumption | exact Below.trans (by assumption) (Below.mono (by assumption) (Below.size (by assumption)))))
    (first
      | (go_at_call 41; refine (kinds_at _).mono ?_; rintro e w1 ⟨r, rfl, hr, hb1⟩; have hlk := look_2 hr; have hq1 : Below W0.heap.size W0 w1 := (by go_split_ands; exact Below.trans (by assumption) (Below.mono hb1 (Below.size (by assumption))))))
  have hO1 := HO.out.go hq1
  have d0 : w1.cell? ⟨w.heap.size, 0, none⟩ = some (.int .i64 2) := by rw [← HK.out]; exact cell_of_cells hO1.box 0
  have d1 : w1.cell? ⟨w.heap.size, 1, none⟩ = some (.int .i64 x.level) := cell_of_cells hO1.box 1
  clear hlk hr hb1 c0
  go_wp2_with fail
  go_quiet ((go_at_call 34; exact Calls.quiet_of_same (HBT.out _)))
  have p0 : w1.cell? ⟨w.heap.size + 1, 0, none⟩ = some (.nilIface) := cell_of_cells hO1.res 0
  have p1 : w1.cell? ⟨w.heap.size + 1, 1, none⟩ = some (.int .i64 0) := cell_of_cells hO1.res 1
  have p2 : w1.cell? ⟨w.heap.size + 1, 2, none⟩ = some (.int .i64 0) := cell_of_cells hO1.res 2
  have f0 : w1.frozen? ⟨w.heap.size + 1, 0, none⟩ = false := frozen_of_cells hO1.res 0
  have f1 : w1.frozen? ⟨w.heap.size + 1, 1, none⟩ = false := frozen_of_cells hO1.res 1
  have f2 : w1.frozen? ⟨w.heap.size + 1, 2, none⟩ = false := frozen_of_cells hO1.res 2
  go_wp2_with fail
  exact open_wrong (hO1.go (below_drewN (Below.refl _ _) _)) rfl rfl
set_option maxRecDepth 100000 in
set_option maxHeartbeats 4000000 in
theorem open_lev3n (x : Sk) (s : SS) (body : Value) (w : World) (hx : s.At w.heap.size w x) (hk : x.kind = 3) (hl : x.level < 0) :
    Calls Tryd.prog 29 #[.agg #[.int .i64 x.kind, .int .i64 x.level, .slice s.ea s.el s.ec, .int .i64 x.hb, .string x.hr, .int .i64 x.cr, .int .i64 x.cc, .slice s.ca s.cl s.cc, .int .i64 x.gf, .slice s.ga s.gl s.gc]] w (OpenPost false body x w) := by
  obtain ⟨W0, hW0, hO⟩ := open_in hx
  have HO := Lib.hid hO
  have HK := Lib.hid hk
  rw [hk] at hW0 ⊢
  have t1 : decide (x.level < 0) = true := by simpa using hl
  clear hx hO hk
  go_enter Tryd.func29, Tryd.ntmps29
  go_wp2_with fail
  clear hW0
  have c0 : W0.cell? ⟨w.heap.size, 0, none⟩ = some (.int .i64 3) := by rw [← HK.out]; exact cell_of_cells HO.out.box 0
  have q0 : ∀ W, Below W0.heap.size W0 W → W.cell? ⟨w.heap.size, 0, none⟩ = some (.int .i64 3) ∧ Below W0.heap.size W0 W := fun W h => ⟨by rw [← HK.out]; exact cell_of_cells (HO.out.go h).box 0, h⟩
  have HQ := Lib.hid q0
  clear q0
  go_region_held3 (fun w' => w'.cell? ⟨w.heap.size, 0, none⟩ = some (.int .i64 3) ∧ Below W0.heap.size W0 w')
    (first
      | exact HQ.out _ (Below.refl _ _).drew
      | (go_split_ands; refine HQ.out _ ?_; first | assumption | exact Below.trans (by assumption) (Below.mono (by assumption) (Below.size (by assumption)))))
    (first
      | (go_at_call 41; refine (kinds_at _).mono ?_; rintro e w1 ⟨r, rfl, hr, hb1⟩; have hlk := look_3 hr; have hq1 : Below W0.heap.size W0 w1 := (by go_split_ands; exact Below.trans (by assumption) (Below.mono hb1 (Below.size (by assumption))))))
  have hO1 := HO.out.go hq1
  have d0 : w1.cell? ⟨w.heap.size, 0, none⟩ = some (.int .i64 3) := by rw [← HK.out]; exact cell_of_cells hO1.box 0
  have d1 : w1.cell? ⟨w.heap.size, 1, none⟩ = some (.int .i64 x.level) := cell_of_cells hO1.box 1
  clear hlk hr hb1 c0
  go_wp2_with fail
  go_quiet (fail)
  have p0 : w1.cell? ⟨w.heap.size + 1, 0, none⟩ = some (.nilIface) := cell_of_cells hO1.res 0
  have p1 : w1.cell? ⟨w.heap.size + 1, 1, none⟩ = some (.int .i64 0) := cell_of_cells hO1.res 1
  have p2 : w1.cell? ⟨w.heap.size + 1, 2, none⟩ = some (.int .i64 0) := cell_of_cells hO1.res 2
  have f0 : w1.frozen? ⟨w.heap.size + 1, 0, none⟩ = false := frozen_of_cells hO1.res 0
  have f1 : w1.frozen? ⟨w.heap.size + 1, 1, none⟩ = false := frozen_of_cells hO1.res 1
  have f2 : w1.frozen? ⟨w.heap.size + 1, 2, none⟩ = false := frozen_of_cells hO1.res 2
  go_wp2_with fail
  exact open_wrong (hO1.go (below_drewN (Below.refl _ _) _)) rfl rfl
set_option maxRecDepth 100000 in
set_option maxHeartbeats 4000000 in
theorem open_lev3p (x : Sk) (s : SS) (body : Value) (w : World) (hx : s.At w.heap.size w x) (hk : x.kind = 3) (hl : 3 < x.level) :
    Calls Tryd.prog 29 #[.agg #[.int .i64 x.kind, .int .i64 x.level, .slice s.ea s.el s.ec, .int .i64 x.hb, .string x.hr, .int .i64 x.cr, .int .i64 x.cc, .slice s.ca s.cl s.cc, .int .i64 x.gf, .slice s.ga s.gl s.gc]] w (OpenPost false body x w) := by
  obtain ⟨W0, hW0, hO⟩ := open_in hx
  have HO := Lib.hid hO
  have HK := Lib.hid hk
  rw [hk] at hW0 ⊢
  have t1 : decide (x.level < 0) = false := by simp; omega
  have t2 : decide ((3 : Int) < x.level) = true := by simpa using hl
  have hbt : ∀ w, Calls Tryd.prog 34 #[.int .i64 3] w fun e w' => e = .returned (.int .i64 3) ∧ w' = w := fun w => (Bottom_any 3 w).mono fun e w' ⟨h1, h2⟩ => ⟨h1, h2.symm⟩
  have HBT := Lib.hid hbt
  clear hbt
  clear hx hO hk
  go_enter Tryd.func29, Tryd.ntmps29
  go_wp2_with fail
  clear hW0
  have c0 : W0.cell? ⟨w.heap.size, 0, none⟩ = some (.int .i64 3) := by rw [← HK.out]; exact cell_of_cells HO.out.box 0
  have q0 : ∀ W, Below W0.heap.size W0 W → W.cell? ⟨w.heap.size, 0, none⟩ = some (.int .i64 3) ∧ Below W0.heap.size W0 W := fun W h => ⟨by rw [← HK.out]; exact cell_of_cells (HO.out.go h).box 0, h⟩
  have HQ := Lib.hid q0
  clear q0
  go_region_held3 (fun w' => w'.cell? ⟨w.heap.size, 0, none⟩ = some (.int .i64 3) ∧ Below W0.heap.size W0 w')
    (first
      | exact HQ.out _ (Below.refl _ _).drew
      | (go_split_ands; refine HQ.out _ ?_; first | assumption | exact Below.trans (by assumption) (Below.mono (by assumption) (Below.size (by assumption)))))
    (first
      | (go_at_call 41; refine (kinds_at _).mono ?_; rintro e w1 ⟨r, rfl, hr, hb1⟩; have hlk := look_3 hr; have hq1 : Below W0.heap.size W0 w1 := (by go_split_ands; exact Below.trans (by assumption) (Below.mono hb1 (Below.size (by assumption))))))
  have hO1 := HO.out.go hq1
  have d0 : w1.cell? ⟨w.heap.size, 0, none⟩ = some (.int .i64 3) := by rw [← HK.out]; exact cell_of_cells hO1.box 0
  have d1 : w1.cell? ⟨w.heap.size, 1, none⟩ = some (.int .i64 x.level) := cell_of_cells hO1.box 1
  clear hlk hr hb1 c0
  go_wp2_with fail
  go_quiet ((go_at_call 34; exact Calls.quiet_of_same (HBT.out _)))
  have p0 : w1.cell? ⟨w.heap.size + 1, 0, none⟩ = some (.nilIface) := cell_of_cells hO1.res 0
  have p1 : w1.cell? ⟨w.heap.size + 1, 1, none⟩ = some (.int .i64 0) := cell_of_cells hO1.res 1
  have p2 : w1.cell? ⟨w.heap.size + 1, 2, none⟩ = some (.int .i64 0) := cell_of_cells hO1.res 2
  have f0 : w1.frozen? ⟨w.heap.size + 1, 0, none⟩ = false := frozen_of_cells hO1.res 0
  have f1 : w1.frozen? ⟨w.heap.size + 1, 1, none⟩ = false := frozen_of_cells hO1.res 1
  have f2 : w1.frozen? ⟨w.heap.size + 1, 2, none⟩ = false := frozen_of_cells hO1.res 2
  go_wp2_with fail
  exact open_wrong (hO1.go (below_drewN (Below.refl _ _) _)) rfl rfl

/-- What a sketch's body comes to. -/
def skCanon (x : Sk) : Sk := if x.kind == 1 then (if x.level == 0 then skNum 1 x.level x.e else skReg 1 x.level x.hb x.hr) else if x.kind == 2 then skCnt 2 x.level x.cr x.cc x.cl else skBkt 3 x.level x.gf x.gl
def skOk (x : Sk) : Bool := decide (1 ≤ x.kind) && decide (x.kind ≤ 3) && (decide (0 ≤ x.level) && decide (x.level ≤ bottomB x.kind)) && (bodyRight x && skSame x (skCanon x))
def skBody (x : Sk) (s : SS) : Value :=
  if x.kind == 1 then (if x.level == 0 then .iface 127 (.agg #[.slice s.ea s.el s.ec]) else .iface 130 (.agg #[.int .i64 x.hb, .string x.hr]))
  else if x.kind == 2 then .iface 132 (.agg #[.int .i64 x.cr, .int .i64 x.cc, .slice s.ca s.cl s.cc]) else .iface 134 (.agg #[.int .i64 x.gf, .slice s.ga s.gl s.gc])
theorem skBody_iface (x : Sk) (s : SS) : ∃ T v, skBody x s = .iface T v := by
  unfold skBody
  split
  · split <;> exact ⟨_, _, rfl⟩
  · split <;> exact ⟨_, _, rfl⟩
/-- The lengths that the walks ask for. -/
def SS.Short (s : SS) : Prop := s.el < 2147483648 ∧ s.cl < 2147483648 ∧ s.gl < 2147483648
def Sk.fit (x : Sk) : Prop := ∀ b ∈ x.gl, b.1 ≤ 9223372036854775807
theorem open_any (x : Sk) (s : SS) (w : World) (hx : s.At w.heap.size w x) (hs : s.Short) (hf : x.fit) :
    Calls Tryd.prog 29 #[.agg #[.int .i64 x.kind, .int .i64 x.level, .slice s.ea s.el s.ec, .int .i64 x.hb, .string x.hr, .int .i64 x.cr, .int .i64 x.cc, .slice s.ca s.cl s.cc, .int .i64 x.gf, .slice s.ga s.gl s.gc]] w (OpenPost (skOk x) (skBody x s) x w) := by
  obtain ⟨hs1, hs2, hs3⟩ := hs
  by_cases k1 : x.kind = 1
  · have hb : bottomB x.kind = 4 := by rw [k1]; rfl
    by_cases l0 : x.level < 0
    · have : skOk x = false := by unfold skOk; rw [decide_eq_false (show ¬ 0 ≤ x.level by omega)]; simp
      rw [this]; exact open_lev1n x s _ w hx k1 l0
    by_cases l4 : 4 < x.level
    · have : skOk x = false := by unfold skOk; rw [hb, decide_eq_false (show ¬ x.level ≤ 4 by omega)]; simp
      rw [this]; exact open_lev1p x s _ w hx k1 l4
    have hk : (x.kind == 1) = true := beq_iff_eq.2 k1
    have hok : skOk x = (bodyRight x && skSame x (skCanon x)) := by unfold skOk; rw [hb, k1, decide_eq_true (show 0 ≤ x.level by omega), decide_eq_true (show x.level ≤ 4 by omega)]; simp
    cases h0 : (x.level == 0) with
    | true =>
      have e1 : bodyRight x = exRight x.e := by unfold bodyRight; rw [hk, h0]; rfl
      have e2 : skCanon x = skNum 1 x.level x.e := by unfold skCanon; rw [hk, h0]; rfl
      have e3 : skBody x s = .iface 127 (.agg #[.slice s.ea s.el s.ec]) := by unfold skBody; rw [hk, h0]; rfl
      rw [hok, e1, e2, e3]
      exact open_num x s w hx k1 h0 hs1
    | false =>
      have e1 : bodyRight x = (hlRight x.hb x.hr && (x.hb == 8 - x.level)) := by unfold bodyRight; rw [hk, h0]; rfl
      have e2 : skCanon x = skReg 1 x.level x.hb x.hr := by unfold skCanon; rw [hk, h0]; rfl
      have e3 : skBody x s = .iface 130 (.agg #[.int .i64 x.hb, .string x.hr]) := by unfold skBody; rw [hk, h0]; rfl
      rw [hok, e1, e2, e3]
      exact open_reg x s w hx k1 h0 (by omega) (by omega)
  by_cases k2 : x.kind = 2
  · have hb : bottomB x.kind = 3 := by rw [k2]; rfl
    by_cases l0 : x.level < 0
    · have : skOk x = false := by unfold skOk; rw [decide_eq_false (show ¬ 0 ≤ x.level by omega)]; simp
      rw [this]; exact open_lev2n x s _ w hx k2 l0
    by_cases l4 : 3 < x.level
    · have : skOk x = false := by unfold skOk; rw [hb, decide_eq_false (show ¬ x.level ≤ 3 by omega)]; simp
      rw [this]; exact open_lev2p x s _ w hx k2 l4
    have hk1 : (x.kind == 1) = false := beq_eq_false_iff_ne.2 k1
    have hk : (x.kind == 2) = true := beq_iff_eq.2 k2
    have hok : skOk x = (bodyRight x && skSame x (skCanon x)) := by unfold skOk; rw [hb, k2, decide_eq_true (show 0 ≤ x.level by omega), decide_eq_true (show x.level ≤ 3 by omega)]; simp
    have e1 : bodyRight x = (cmRight x.cr x.cc x.cl && (x.cr == 2) && (x.cc == 32 / 2 ^ x.level.toNat)) := by unfold bodyRight; rw [hk1, hk]; rfl
    have e2 : skCanon x = skCnt 2 x.level x.cr x.cc x.cl := by unfold skCanon; rw [hk1, hk]; rfl
    have e3 : skBody x s = .iface 132 (.agg #[.int .i64 x.cr, .int .i64 x.cc, .slice s.ca s.cl s.cc]) := by unfold skBody; rw [hk1, hk]; rfl
    rw [hok, e1, e2, e3]
    exact open_cnt x s w hx k2 (by omega) (by omega) hs2
  by_cases k3 : x.kind = 3
  · have hb : bottomB x.kind = 3 := by rw [k3]; rfl
    by_cases l0 : x.level < 0
    · have : skOk x = false := by unfold skOk; rw [decide_eq_false (show ¬ 0 ≤ x.level by omega)]; simp
      rw [this]; exact open_lev3n x s _ w hx k3 l0
    by_cases l4 : 3 < x.level
    · have : skOk x = false := by unfold skOk; rw [hb, decide_eq_false (show ¬ x.level ≤ 3 by omega)]; simp
      rw [this]; exact open_lev3p x s _ w hx k3 l4
    have hk1 : (x.kind == 1) = false := beq_eq_false_iff_ne.2 k1
    have hk : (x.kind == 2) = false := beq_eq_false_iff_ne.2 k2
    have hok : skOk x = (bodyRight x && skSame x (skCanon x)) := by unfold skOk; rw [hb, k3, decide_eq_true (show 0 ≤ x.level by omega), decide_eq_true (show x.level ≤ 3 by omega)]; simp
    have e1 : bodyRight x = (hiRight x.gf x.gl && (x.gf == 3 - x.level)) := by unfold bodyRight; rw [hk1, hk]; rfl
    have e2 : skCanon x = skBkt 3 x.level x.gf x.gl := by unfold skCanon; rw [hk1, hk]; rfl
    have e3 : skBody x s = .iface 134 (.agg #[.int .i64 x.gf, .slice s.ga s.gl s.gc]) := by unfold skBody; rw [hk1, hk]; rfl
    rw [hok, e1, e2, e3]
    exact open_bkt x s w hx k3 (by omega) (by omega) hs3 hf
  · have : skOk x = false := by
      unfold skOk
      have : (decide (1 ≤ x.kind) && decide (x.kind ≤ 3)) = false := by rw [Bool.and_eq_false_iff, decide_eq_false_iff_not, decide_eq_false_iff_not]; omega
      rw [this]; rfl
    rw [this]
    exact open_kind x s _ w hx (beq_eq_false_iff_ne.2 k1) (beq_eq_false_iff_ne.2 k2) (beq_eq_false_iff_ne.2 k3)

set_option maxRecDepth 100000 in
set_option maxHeartbeats 1000000 in
theorem ladder_Right_any (x : Sk) (s : SS) (w : World) (hx : s.At w.heap.size w x) (hs : s.Short) (hf : x.fit) :
    Calls Tryd.prog 12 #[.agg #[.int .i64 x.kind, .int .i64 x.level, .slice s.ea s.el s.ec, .int .i64 x.hb, .string x.hr, .int .i64 x.cr, .int .i64 x.cc, .slice s.ca s.cl s.cc, .int .i64 x.gf, .slice s.ga s.gl s.gc]] w fun e w' => e = .returned (.bool (skOk x)) ∧ Below w.heap.size w w' := by
  obtain ⟨W0, hW0, hX0, hB0, hs0⟩ := boxes1 w #[.int .i64 x.kind, .int .i64 x.level, .slice s.ea s.el s.ec, .int .i64 x.hb, .string x.hr, .int .i64 x.cr, .int .i64 x.cc, .slice s.ca s.cl s.cc, .int .i64 x.gf, .slice s.ga s.gl s.gc] 33
  have c0 : W0.cell? ⟨w.heap.size, 0, none⟩ = some (.int .i64 x.kind) := cell_of_cells hX0 0
  have c1 : W0.cell? ⟨w.heap.size, 1, none⟩ = some (.int .i64 x.level) := cell_of_cells hX0 1
  have c2 : W0.cell? ⟨w.heap.size, 2, none⟩ = some (.slice s.ea s.el s.ec) := cell_of_cells hX0 2
  have c3 : W0.cell? ⟨w.heap.size, 3, none⟩ = some (.int .i64 x.hb) := cell_of_cells hX0 3
  have c4 : W0.cell? ⟨w.heap.size, 4, none⟩ = some (.string x.hr) := cell_of_cells hX0 4
  have c5 : W0.cell? ⟨w.heap.size, 5, none⟩ = some (.int .i64 x.cr) := cell_of_cells hX0 5
  have c6 : W0.cell? ⟨w.heap.size, 6, none⟩ = some (.int .i64 x.cc) := cell_of_cells hX0 6
  have c7 : W0.cell? ⟨w.heap.size, 7, none⟩ = some (.slice s.ca s.cl s.cc) := cell_of_cells hX0 7
  have c8 : W0.cell? ⟨w.heap.size, 8, none⟩ = some (.int .i64 x.gf) := cell_of_cells hX0 8
  have c9 : W0.cell? ⟨w.heap.size, 9, none⟩ = some (.slice s.ga s.gl s.gc) := cell_of_cells hX0 9
  have hO := open_any x s W0 (hx.go hB0) hs hf
  clear hx hX0 hs0
  go_enter Tryd.func12, Tryd.ntmps12
  go_wp2_with fail
  refine hO.mono ?_
  rintro e w1 ⟨he, hb1⟩
  clear hW0 hO c0 c1 c2 c3 c4 c5 c6 c7 c8 c9
  have hB1 := hB0.trans (hb1.mono hB0.size)
  generalize hok : skOk x = ok at he
  have HOK := Lib.hid hok
  clear hok
  cases ok with
  | true =>
    obtain ⟨T, v, hbv⟩ := skBody_iface x s
    rw [hbv] at he
    clear hbv
    obtain rfl := (show e = _ from he)
    clear he
    go_wp2_with fail
    go_ret
    exact ⟨by rw [HOK.out]; rfl, hB1.alloc hB1.size _⟩
  | false =>
    obtain ⟨b, rfl, -, -⟩ := (show ∃ b, _ from he)
    go_wp2_with fail
    go_ret
    exact ⟨by rw [HOK.out]; rfl, hB1.alloc hB1.size _⟩
end Go.Proofs.YtjpnbkdhmjgdgaaDoor

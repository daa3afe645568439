/- Package ladder: open. Package ladder: open at a kind that is none. Package ladder: open, the other kinds. -/
import Derived.Test.YtmkefodaibmkhaaGreatDoorZXG
import Derived.Deep.RegionHeld3
import Derived.Deep.Cut
import Derived.Deep.CutRange
import Derived.Deep.DeepCutAuto
namespace Go.Proofs.YtmkefodaibmkhaaGreatDoor
open Go Go.RowKit

/-- What open knows once its first blocks are laid. -/
structure OpenIn (x : Sk) (s : SS) (w W : World) : Prop where
  box : W.heap[w.heap.size]? = some (.cells #[.int .i64 x.kind, .int .i64 x.level, .slice s.ea s.el s.ec, .int .i64 x.hb, .string x.hr, .int .i64 x.cr, .int .i64 x.cc, .slice s.ca s.cl s.cc, .int .i64 x.gf, .slice s.ga s.gl s.gc] 36 (0, 0))
  res : W.heap[w.heap.size + 1]? = some (.cells #[.nilIface, .int .i64 0, .int .i64 0] 68 (0, 0))
  flt : W.heap[w.heap.size + 1 + 1]? = some (.cells #[.int .i64 100] 131 (0, 0))
  lists : s.At W.heap.size W x
  below : Below w.heap.size w W
theorem OpenIn.go {x : Sk} {s : SS} {w W W' : World} (h : OpenIn x s w W) (hb : Below W.heap.size W W') : OpenIn x s w W' := ⟨known hb (Nat.le_refl _) h.box, known hb (Nat.le_refl _) h.res, known hb (Nat.le_refl _) h.flt, h.lists.go hb, h.below.trans (hb.mono h.below.size)⟩
/-- What open hands back. -/
def OpenPost (ok : Bool) (body : Value) (x : Sk) (w : World) (e : Ending) (w' : World) : Prop :=
  (if ok then e = .returned (.tuple #[.agg #[body, .int .i64 x.kind, .int .i64 x.level], .nilIface])
   else ∃ b, e = .returned (.tuple #[.agg #[.nilIface, .int .i64 0, .int .i64 0], .iface 129 (.pointer (some ⟨b, 0, none⟩))]) ∧ w'.cell? ⟨b, 0, none⟩ = some (.int .i64 100) ∧ w.heap.size ≤ b) ∧ Below w.heap.size w w'
theorem open_wrong {x : Sk} {s : SS} {w W : World} {body : Value} {tm : Array Value} (h : OpenIn x s w W) (t2 : tm[2]?.getD undef = .pointer (some ⟨w.heap.size + 1, 0, none⟩)) (t3 : tm[3]?.getD undef = .iface 129 (.pointer (some ⟨w.heap.size + 1 + 1, 0, none⟩))) :
    bodyPost Tryz.prog Tryz.f38 (OpenPost false body x w) Exit.ret { tmps := tm, defers := [] } (((W.setCell ⟨w.heap.size + 1, 0, none⟩ .nilIface).setCell ⟨w.heap.size + 1, 1, none⟩ (.int .i64 0)).setCell ⟨w.heap.size + 1, 2, none⟩ (.int .i64 0)) := by
  have h1 : (W.setCell ⟨w.heap.size + 1, 0, none⟩ .nilIface).heap[w.heap.size + 1]? = some (.cells #[.nilIface, .int .i64 0, .int .i64 0] 68 (0, 0)) := heap_set_known h.res .nilIface
  have g1 := (heap_set_other (W := W) (p := ⟨w.heap.size + 1, 0, none⟩) (b := w.heap.size + 1 + 1) (by show w.heap.size + 1 ≠ _; omega) .nilIface).trans h.flt
  have b1 := h.below.setCell (p := ⟨w.heap.size + 1, 0, none⟩) (Nat.le_succ _) .nilIface
  generalize W.setCell ⟨w.heap.size + 1, 0, none⟩ .nilIface = W at h1 g1 b1 ⊢
  have h2 : (W.setCell ⟨w.heap.size + 1, 1, none⟩ (.int .i64 0)).heap[w.heap.size + 1]? = some (.cells #[.nilIface, .int .i64 0, .int .i64 0] 68 (0, 0)) := heap_set_known h1 (.int .i64 0)
  have g2 := (heap_set_other (W := W) (p := ⟨w.heap.size + 1, 1, none⟩) (b := w.heap.size + 1 + 1) (by show w.heap.size + 1 ≠ _; omega) (.int .i64 0)).trans g1
  have b2 := b1.setCell (p := ⟨w.heap.size + 1, 1, none⟩) (Nat.le_succ _) (.int .i64 0)
  generalize W.setCell ⟨w.heap.size + 1, 1, none⟩ (.int .i64 0) = W at h2 g2 b2 ⊢
  have h3 : (W.setCell ⟨w.heap.size + 1, 2, none⟩ (.int .i64 0)).heap[w.heap.size + 1]? = some (.cells #[.nilIface, .int .i64 0, .int .i64 0] 68 (0, 0)) := heap_set_known h2 (.int .i64 0)
  have g3 := (heap_set_other (W := W) (p := ⟨w.heap.size + 1, 2, none⟩) (b := w.heap.size + 1 + 1) (by show w.heap.size + 1 ≠ _; omega) (.int .i64 0)).trans g2
  have b3 := b2.setCell (p := ⟨w.heap.size + 1, 2, none⟩) (Nat.le_succ _) (.int .i64 0)
  generalize W.setCell ⟨w.heap.size + 1, 2, none⟩ (.int .i64 0) = W at h3 g3 b3 ⊢
  have k0 : W.cell? ⟨w.heap.size + 1, 0, none⟩ = some (.nilIface) := cell_of_cells h3 0
  have k1 : W.cell? ⟨w.heap.size + 1, 1, none⟩ = some (.int .i64 0) := cell_of_cells h3 1
  have k2 : W.cell? ⟨w.heap.size + 1, 2, none⟩ = some (.int .i64 0) := cell_of_cells h3 2
  refine bodyPost_ret (v := .tuple #[.agg #[.nilIface, .int .i64 0, .int .i64 0], .iface 129 (.pointer (some ⟨w.heap.size + 1 + 1, 0, none⟩))]) (by simp [results, Tryz.f38, go_sem, t2, t3, k0, k1, k2]) rfl ⟨?_, b3⟩
  exact ⟨_, rfl, cell_of_cells g3 0, by omega⟩

theorem kinds_at (w : World) : Calls Tryz.prog 80 #[] w fun e w' => ∃ r, e = .returned (.map (some r)) ∧ w'.heap[r]? = some (.map kindsMap 3) ∧ Below w.heap.size w w' :=
  (kinds_any w).mono fun e w' ⟨h1, h2⟩ => ⟨_, h1, by rw [h2]; exact World.alloc_heap_new _ _, by rw [h2]; exact (Below.refl _ w).alloc (Nat.le_refl _) _⟩
theorem zero_fn (w : World) : (zeroValue 132).run Tryz.prog w = .ok .nilFunc w := by kernel_rfl
theorem look_bad {w : World} {r : Nat} (k : Int) (h : w.heap[r]? = some (.map kindsMap 3)) (h1 : (k == 1) = false) (h2 : (k == 2) = false) (h3 : (k == 3) = false) : (Instr.lookup 134 (.map (some r)) (.int .i64 k) true).run Tryz.prog w = .ok (.tuple #[.nilFunc, .bool false]) w :=
  look_int_none und_kinds Tryz.underlying3 h (zero_fn w) (by simp [kindsMap, Instr.findNow, Instr.sameNow, h1, h2, h3])
theorem look_1 {w : World} {r : Nat} (h : w.heap[r]? = some (.map kindsMap 3)) : (Instr.lookup 134 (.map (some r)) (.int .i64 1) true).run Tryz.prog w = .ok (.tuple #[.func (.func 111) #[] #[], .bool true]) w := (look_int und_kinds Tryz.underlying3 h rfl).1
theorem look_2 {w : World} {r : Nat} (h : w.heap[r]? = some (.map kindsMap 3)) : (Instr.lookup 134 (.map (some r)) (.int .i64 2) true).run Tryz.prog w = .ok (.tuple #[.func (.func 112) #[] #[], .bool true]) w := (look_int und_kinds Tryz.underlying3 h rfl).1
theorem look_3 {w : World} {r : Nat} (h : w.heap[r]? = some (.map kindsMap 3)) : (Instr.lookup 134 (.map (some r)) (.int .i64 3) true).run Tryz.prog w = .ok (.tuple #[.func (.func 113) #[] #[], .bool true]) w := (look_int und_kinds Tryz.underlying3 h rfl).1
end Go.Proofs.YtmkefodaibmkhaaGreatDoor
namespace Go.Proofs.YtmkefodaibmkhaaGreatDoor
open Go Go.RowKit

theorem open_in {x : Sk} {s : SS} {w : World} (hx : s.At w.heap.size w x) : ∃ W0, ((w.alloc (.cells #[.int .i64 x.kind, .int .i64 x.level, .slice s.ea s.el s.ec, .int .i64 x.hb, .string x.hr, .int .i64 x.cr, .int .i64 x.cc, .slice s.ca s.cl s.cc, .int .i64 x.gf, .slice s.ga s.gl s.gc] 36)).alloc (.cells #[.nilIface, .int .i64 0, .int .i64 0] 68)).alloc (.cells #[.int .i64 100] 131) = W0 ∧ OpenIn x s w W0 := by
  obtain ⟨W0, hW0, hX0, hX1, hX2, hB0, hs0⟩ := boxes3 w #[.int .i64 x.kind, .int .i64 x.level, .slice s.ea s.el s.ec, .int .i64 x.hb, .string x.hr, .int .i64 x.cr, .int .i64 x.cc, .slice s.ca s.cl s.cc, .int .i64 x.gf, .slice s.ga s.gl s.gc] 36 #[.nilIface, .int .i64 0, .int .i64 0] 68 #[.int .i64 100] 131
  exact ⟨W0, hW0, hX0, hX1, hX2, hx.go hB0, hB0⟩

set_option maxRecDepth 100000 in
set_option maxHeartbeats 4000000 in
theorem open_kind (x : Sk) (s : SS) (body : Value) (w : World) (hx : s.At w.heap.size w x) (h1 : (x.kind == 1) = false) (h2 : (x.kind == 2) = false) (h3 : (x.kind == 3) = false) :
    Calls Tryz.prog 38 #[.agg #[.int .i64 x.kind, .int .i64 x.level, .slice s.ea s.el s.ec, .int .i64 x.hb, .string x.hr, .int .i64 x.cr, .int .i64 x.cc, .slice s.ca s.cl s.cc, .int .i64 x.gf, .slice s.ga s.gl s.gc]] w (OpenPost false body x w) := by
  obtain ⟨W0, hW0, hO⟩ := open_in hx
  have HO := Lib.hid hO
  have HH : Hid ((x.kind == 1) = false ∧ (x.kind == 2) = false ∧ (x.kind == 3) = false) := ⟨h1, h2, h3⟩
  clear hx h1 h2 h3 hO
  go_enter Tryz.func38, Tryz.ntmps38
  go_wp2_with fail
  clear hW0
  have c0 : W0.cell? ⟨w.heap.size, 0, none⟩ = some (.int .i64 x.kind) := cell_of_cells HO.out.box 0
  have q0 : ∀ W, Below W0.heap.size W0 W → W.cell? ⟨w.heap.size, 0, none⟩ = some (.int .i64 x.kind) ∧ Below W0.heap.size W0 W := fun W h => ⟨cell_of_cells (HO.out.go h).box 0, h⟩
  have HQ := Lib.hid q0
  clear q0
  go_region_held3 (fun w' => w'.cell? ⟨w.heap.size, 0, none⟩ = some (.int .i64 x.kind) ∧ Below W0.heap.size W0 w')
    (first
      | exact HQ.out _ (Below.refl _ _).drew
      | (go_split_ands; refine HQ.out _ ?_; first | assumption | exact Below.trans (by assumption) (Below.mono (by assumption) (Below.size (by assumption)))))
    (first
      | (go_at_call 80; refine (kinds_at _).mono ?_; rintro e w1 ⟨r, rfl, hr, hb1⟩; have hlk := look_bad x.kind hr HH.out.1 HH.out.2.1 HH.out.2.2; have hq1 : Below W0.heap.size W0 w1 := (by go_split_ands; exact Below.trans (by assumption) (Below.mono hb1 (Below.size (by assumption))))))
  have hO1 := HO.out.go hq1
  clear hlk hr hb1
  go_wp2_with fail
  go_quiet (fail)
  have p0 : w1.cell? ⟨w.heap.size + 1, 0, none⟩ = some (.nilIface) := cell_of_cells hO1.res 0
  have p1 : w1.cell? ⟨w.heap.size + 1, 1, none⟩ = some (.int .i64 0) := cell_of_cells hO1.res 1
  have p2 : w1.cell? ⟨w.heap.size + 1, 2, none⟩ = some (.int .i64 0) := cell_of_cells hO1.res 2
  have f0 : w1.frozen? ⟨w.heap.size + 1, 0, none⟩ = false := frozen_of_cells hO1.res 0
  have f1 : w1.frozen? ⟨w.heap.size + 1, 1, none⟩ = false := frozen_of_cells hO1.res 1
  have f2 : w1.frozen? ⟨w.heap.size + 1, 2, none⟩ = false := frozen_of_cells hO1.res 2
  go_wp2_with fail
  exact open_wrong (hO1.go (below_drewN (Below.refl _ _) _)) rfl rfl
/-- The way out of open with a work. -/
theorem open_okay {x : Sk} {s : SS} {w W : World} {body : Value} {tm : Array Value} (h : OpenIn x s w W) (t2 : tm[2]?.getD undef = .pointer (some ⟨w.heap.size + 1, 0, none⟩)) (t3 : tm[3]?.getD undef = .nilIface) :
    bodyPost Tryz.prog Tryz.f38 (OpenPost true body x w) Exit.ret { tmps := tm, defers := [] } (((W.setCell ⟨w.heap.size + 1, 0, none⟩ body).setCell ⟨w.heap.size + 1, 1, none⟩ (.int .i64 x.kind)).setCell ⟨w.heap.size + 1, 2, none⟩ (.int .i64 x.level)) := by
  have h1 : (W.setCell ⟨w.heap.size + 1, 0, none⟩ body).heap[w.heap.size + 1]? = some (.cells #[body, .int .i64 0, .int .i64 0] 68 (0, 0)) := heap_set_known h.res body
  have b1 := h.below.setCell (p := ⟨w.heap.size + 1, 0, none⟩) (Nat.le_succ _) body
  generalize W.setCell ⟨w.heap.size + 1, 0, none⟩ body = W at h1 b1 ⊢
  have h2 : (W.setCell ⟨w.heap.size + 1, 1, none⟩ (.int .i64 x.kind)).heap[w.heap.size + 1]? = some (.cells #[body, .int .i64 x.kind, .int .i64 0] 68 (0, 0)) := heap_set_known h1 (.int .i64 x.kind)
  have b2 := b1.setCell (p := ⟨w.heap.size + 1, 1, none⟩) (Nat.le_succ _) (.int .i64 x.kind)
  generalize W.setCell ⟨w.heap.size + 1, 1, none⟩ (.int .i64 x.kind) = W at h2 b2 ⊢
  have h3 : (W.setCell ⟨w.heap.size + 1, 2, none⟩ (.int .i64 x.level)).heap[w.heap.size + 1]? = some (.cells #[body, .int .i64 x.kind, .int .i64 x.level] 68 (0, 0)) := heap_set_known h2 (.int .i64 x.level)
  have b3 := b2.setCell (p := ⟨w.heap.size + 1, 2, none⟩) (Nat.le_succ _) (.int .i64 x.level)
  generalize W.setCell ⟨w.heap.size + 1, 2, none⟩ (.int .i64 x.level) = W at h3 b3 ⊢
  have k0 : W.cell? ⟨w.heap.size + 1, 0, none⟩ = some (body) := cell_of_cells h3 0
  have k1 : W.cell? ⟨w.heap.size + 1, 1, none⟩ = some (.int .i64 x.kind) := cell_of_cells h3 1
  have k2 : W.cell? ⟨w.heap.size + 1, 2, none⟩ = some (.int .i64 x.level) := cell_of_cells h3 2
  exact bodyPost_ret (v := .tuple #[.agg #[body, .int .i64 x.kind, .int .i64 x.level], .nilIface]) (by simp [results, Tryz.f38, go_sem, t2, t3, k0, k1, k2]) rfl ⟨rfl, b3⟩

set_option maxRecDepth 100000 in
set_option maxHeartbeats 8000000 in
theorem open_num (x : Sk) (s : SS) (w : World) (hx : s.At w.heap.size w x) (hk : x.kind = 1) (h0 : (x.level == 0) = true) (hll : s.el < 2147483648) :
    Calls Tryz.prog 38 #[.agg #[.int .i64 x.kind, .int .i64 x.level, .slice s.ea s.el s.ec, .int .i64 x.hb, .string x.hr, .int .i64 x.cr, .int .i64 x.cc, .slice s.ca s.cl s.cc, .int .i64 x.gf, .slice s.ga s.gl s.gc]] w (OpenPost (exRight x.e && skSame x (skNum 1 x.level x.e)) (.iface 184 (.agg #[.slice s.ea s.el s.ec])) x w) := by
  obtain ⟨W0, hW0, hO⟩ := open_in hx
  have HO := Lib.hid hO
  have HK := Lib.hid hk
  rw [hk] at hW0 ⊢
  have t1 : decide (x.level < 0) = false := by have := beq_iff_eq.1 h0; simp [this]
  have t2 : decide ((4 : Int) < x.level) = false := by have := beq_iff_eq.1 h0; simp [this]
  have hbt : ∀ w, Calls Tryz.prog 12 #[.int .i64 1] w fun e w' => e = .returned (.int .i64 4) ∧ w' = w := fun w => (Bottom_any 1 w).mono fun e w' ⟨h1, h2⟩ => ⟨h1, h2.symm⟩
  have HBT := Lib.hid hbt
  clear hx hO hbt hk
  go_enter Tryz.func38, Tryz.ntmps38
  go_wp2_with fail
  clear hW0
  have c0 : W0.cell? ⟨w.heap.size, 0, none⟩ = some (.int .i64 1) := by rw [← HK.out]; exact cell_of_cells HO.out.box 0
  have q0 : ∀ W, Below W0.heap.size W0 W → W.cell? ⟨w.heap.size, 0, none⟩ = some (.int .i64 1) ∧ Below W0.heap.size W0 W := fun W h => ⟨by rw [← HK.out]; exact cell_of_cells (HO.out.go h).box 0, h⟩
  have HQ := Lib.hid q0
  clear q0
  go_region_held3 (fun w' => w'.cell? ⟨w.heap.size, 0, none⟩ = some (.int .i64 1) ∧ Below W0.heap.size W0 w')
    (first
      | exact HQ.out _ (Below.refl _ _).drew
      | (go_split_ands; refine HQ.out _ ?_; first | assumption | exact Below.trans (by assumption) (Below.mono (by assumption) (Below.size (by assumption)))))
    (first
      | (go_at_call 80; refine (kinds_at _).mono ?_; rintro e w1 ⟨r, rfl, hr, hb1⟩; have hlk := look_1 hr; have hq1 : Below W0.heap.size W0 w1 := (by go_split_ands; exact Below.trans (by assumption) (Below.mono hb1 (Below.size (by assumption))))))
  have hO1 := HO.out.go hq1
  have hbx := hO1.box
  rw [HK.out] at hbx
  have d0 : w1.cell? ⟨w.heap.size, 0, none⟩ = some (.int .i64 1) := cell_of_cells hbx 0
  have d1 : w1.cell? ⟨w.heap.size, 1, none⟩ = some (.int .i64 x.level) := cell_of_cells hbx 1
  have d2 : w1.cell? ⟨w.heap.size, 2, none⟩ = some (.slice s.ea s.el s.ec) := cell_of_cells hbx 2
  have d3 : w1.cell? ⟨w.heap.size, 3, none⟩ = some (.int .i64 x.hb) := cell_of_cells hbx 3
  have d4 : w1.cell? ⟨w.heap.size, 4, none⟩ = some (.string x.hr) := cell_of_cells hbx 4
  have d5 : w1.cell? ⟨w.heap.size, 5, none⟩ = some (.int .i64 x.cr) := cell_of_cells hbx 5
  have d6 : w1.cell? ⟨w.heap.size, 6, none⟩ = some (.int .i64 x.cc) := cell_of_cells hbx 6
  have d7 : w1.cell? ⟨w.heap.size, 7, none⟩ = some (.slice s.ca s.cl s.cc) := cell_of_cells hbx 7
  have d8 : w1.cell? ⟨w.heap.size, 8, none⟩ = some (.int .i64 x.gf) := cell_of_cells hbx 8
  have d9 : w1.cell? ⟨w.heap.size, 9, none⟩ = some (.slice s.ga s.gl s.gc) := cell_of_cells hbx 9
  clear hlk hr hb1 c0
  go_wp2_with fail
  go_quiet ((go_at_call 12; exact Calls.quiet_of_same (HBT.out _)))
  go_wp2_with fail
  have hO2 := hO1.go (below_drewN (Below.refl _ _) nq)
  have hD := distinct0_any x s (w1.drewN nq) hO2.lists h0
  rw [HK.out] at hD
  generalize hbr : exRight x.e = br at hD
  have HBR := Lib.hid hbr
  clear hbr
  refine hD.mono ?_
  rintro e w3 ⟨rfl, hb3⟩
  have hO3 := hO2.go hb3
  have hbx3 := hO3.box
  rw [HK.out] at hbx3
  clear hD hO2 hb3 hO1 hbx d0 d1 d2 d3 d4 d5 d6 d7 d8 d9 HQ HBT HO hq1
  have d0 : w3.cell? ⟨w.heap.size, 0, none⟩ = some (.int .i64 1) := cell_of_cells hbx3 0
  have d1 : w3.cell? ⟨w.heap.size, 1, none⟩ = some (.int .i64 x.level) := cell_of_cells hbx3 1
  have d2 : w3.cell? ⟨w.heap.size, 2, none⟩ = some (.slice s.ea s.el s.ec) := cell_of_cells hbx3 2
  have d3 : w3.cell? ⟨w.heap.size, 3, none⟩ = some (.int .i64 x.hb) := cell_of_cells hbx3 3
  have d4 : w3.cell? ⟨w.heap.size, 4, none⟩ = some (.string x.hr) := cell_of_cells hbx3 4
  have d5 : w3.cell? ⟨w.heap.size, 5, none⟩ = some (.int .i64 x.cr) := cell_of_cells hbx3 5
  have d6 : w3.cell? ⟨w.heap.size, 6, none⟩ = some (.int .i64 x.cc) := cell_of_cells hbx3 6
  have d7 : w3.cell? ⟨w.heap.size, 7, none⟩ = some (.slice s.ca s.cl s.cc) := cell_of_cells hbx3 7
  have d8 : w3.cell? ⟨w.heap.size, 8, none⟩ = some (.int .i64 x.gf) := cell_of_cells hbx3 8
  have d9 : w3.cell? ⟨w.heap.size, 9, none⟩ = some (.slice s.ga s.gl s.gc) := cell_of_cells hbx3 9
  have p0 : w3.cell? ⟨w.heap.size + 1, 0, none⟩ = some (.nilIface) := cell_of_cells hO3.res 0
  have p1 : w3.cell? ⟨w.heap.size + 1, 1, none⟩ = some (.int .i64 0) := cell_of_cells hO3.res 1
  have p2 : w3.cell? ⟨w.heap.size + 1, 2, none⟩ = some (.int .i64 0) := cell_of_cells hO3.res 2
  have f0 : w3.frozen? ⟨w.heap.size + 1, 0, none⟩ = false := frozen_of_cells hO3.res 0
  have f1 : w3.frozen? ⟨w.heap.size + 1, 1, none⟩ = false := frozen_of_cells hO3.res 1
  have f2 : w3.frozen? ⟨w.heap.size + 1, 2, none⟩ = false := frozen_of_cells hO3.res 2
  cases br with
  | false =>
    go_wp2_with fail
    rw [HBR.out, Bool.false_and]
    exact open_wrong hO3 rfl rfl
  | true =>
    obtain ⟨W4, hW4, hX4, hB4, hs4⟩ := boxes1 w3 #[.iface 184 (.agg #[.slice s.ea s.el s.ec]), .int .i64 1, .int .i64 x.level] 68
    have HW4 := Lib.hid hW4
    have HO4 := Lib.hid (hO3.go hB4)
    have HX4 := Lib.hid hX4
    clear hW4 hX4 hB4 hs4 hO3 p0 p1 p2 f0 f1 f2 hbx3
    go_wp2_with fail
    rw [HW4.out]
    clear HW4 d0 d1 d2 d3 d4 d5 d6 d7 d8 d9
    have q4 : ∀ w', Below W4.heap.size W4 w' → w'.cell? ⟨w.heap.size, 0, none⟩ = some (.int .i64 1) ∧ w'.cell? ⟨w.heap.size, 1, none⟩ = some (.int .i64 x.level) ∧ w'.cell? ⟨w.heap.size, 2, none⟩ = some (.slice s.ea s.el s.ec) ∧ w'.cell? ⟨w.heap.size, 3, none⟩ = some (.int .i64 x.hb) ∧ w'.cell? ⟨w.heap.size, 4, none⟩ = some (.string x.hr) ∧ w'.cell? ⟨w.heap.size, 5, none⟩ = some (.int .i64 x.cr) ∧ w'.cell? ⟨w.heap.size, 6, none⟩ = some (.int .i64 x.cc) ∧ w'.cell? ⟨w.heap.size, 7, none⟩ = some (.slice s.ca s.cl s.cc) ∧ w'.cell? ⟨w.heap.size, 8, none⟩ = some (.int .i64 x.gf) ∧ w'.cell? ⟨w.heap.size, 9, none⟩ = some (.slice s.ga s.gl s.gc) ∧ w'.cell? ⟨w3.heap.size, 0, none⟩ = some (.iface 184 (.agg #[.slice s.ea s.el s.ec])) ∧ w'.cell? ⟨w3.heap.size, 1, none⟩ = some (.int .i64 1) ∧ w'.cell? ⟨w3.heap.size, 2, none⟩ = some (.int .i64 x.level) ∧ Below W4.heap.size W4 w' := fun w' h => by
      have hb := (HO4.out.go h).box
      rw [HK.out] at hb
      have hc := known h (Nat.le_refl _) HX4.out
      exact ⟨cell_of_cells hb 0, cell_of_cells hb 1, cell_of_cells hb 2, cell_of_cells hb 3, cell_of_cells hb 4, cell_of_cells hb 5, cell_of_cells hb 6, cell_of_cells hb 7, cell_of_cells hb 8, cell_of_cells hb 9, cell_of_cells hc 0, cell_of_cells hc 1, cell_of_cells hc 2, h⟩
    have HQ4 := Lib.hid q4
    clear q4
    obtain ⟨sm, hsm⟩ : ∃ sm, skSame x (skNum 1 x.level x.e) = sm := ⟨_, rfl⟩
    have HSM := Lib.hid hsm
    clear hsm
    have HSK : Hid (∀ W, Below W4.heap.size W4 W → Calls Tryz.prog 81 #[.agg #[.iface 184 (.agg #[.slice s.ea s.el s.ec]), .int .i64 1, .int .i64 x.level]] W (SkPost (skNum 1 x.level x.e) W)) := fun W h => sketch_num 1 x.level x.e s.ea s.el s.ec W (HO4.out.go h).lists.e.1 hll
    have HSA : Hid (∀ W (s' : SS), Below W4.heap.size W4 W → s'.At W.heap.size W (skNum 1 x.level x.e) → Calls Tryz.prog 16 #[.agg #[.int .i64 1, .int .i64 x.level, .slice s.ea s.el s.ec, .int .i64 x.hb, .string x.hr, .int .i64 x.cr, .int .i64 x.cc, .slice s.ca s.cl s.cc, .int .i64 x.gf, .slice s.ga s.gl s.gc], .agg #[.int .i64 (skNum 1 x.level x.e).kind, .int .i64 (skNum 1 x.level x.e).level, .slice s'.ea s'.el s'.ec, .int .i64 (skNum 1 x.level x.e).hb, .string (skNum 1 x.level x.e).hr, .int .i64 (skNum 1 x.level x.e).cr, .int .i64 (skNum 1 x.level x.e).cc, .slice s'.ca s'.cl s'.cc, .int .i64 (skNum 1 x.level x.e).gf, .slice s'.ga s'.gl s'.gc]] W fun e w' => e = .returned (.bool sm) ∧ Below W.heap.size W w') := fun W s' h hs' => by
      have := ladder_Same_any x (skNum 1 x.level x.e) s s' W (HO4.out.go h).lists hs'
      rw [HSM.out, HK.out] at this
      exact this
    go_region_held3 (fun w' => w'.cell? ⟨w.heap.size, 0, none⟩ = some (.int .i64 1) ∧ w'.cell? ⟨w.heap.size, 1, none⟩ = some (.int .i64 x.level) ∧ w'.cell? ⟨w.heap.size, 2, none⟩ = some (.slice s.ea s.el s.ec) ∧ w'.cell? ⟨w.heap.size, 3, none⟩ = some (.int .i64 x.hb) ∧ w'.cell? ⟨w.heap.size, 4, none⟩ = some (.string x.hr) ∧ w'.cell? ⟨w.heap.size, 5, none⟩ = some (.int .i64 x.cr) ∧ w'.cell? ⟨w.heap.size, 6, none⟩ = some (.int .i64 x.cc) ∧ w'.cell? ⟨w.heap.size, 7, none⟩ = some (.slice s.ca s.cl s.cc) ∧ w'.cell? ⟨w.heap.size, 8, none⟩ = some (.int .i64 x.gf) ∧ w'.cell? ⟨w.heap.size, 9, none⟩ = some (.slice s.ga s.gl s.gc) ∧ w'.cell? ⟨w3.heap.size, 0, none⟩ = some (.iface 184 (.agg #[.slice s.ea s.el s.ec])) ∧ w'.cell? ⟨w3.heap.size, 1, none⟩ = some (.int .i64 1) ∧ w'.cell? ⟨w3.heap.size, 2, none⟩ = some (.int .i64 x.level) ∧ Below W4.heap.size W4 w')
      (first
        | exact HQ4.out _ (Below.refl _ _).drew
        | (go_split_ands; refine HQ4.out _ ?_; first | assumption | exact Below.trans (by assumption) (Below.mono (by assumption) (Below.size (by assumption)))))
      (first
        | (go_at_call 81; refine (HSK.out _ (by go_split_ands; assumption)).mono ?_; rintro e w5 ⟨s5, rfl, hA5, -, -, -, hb5⟩; have hq5 : Below W4.heap.size W4 w5 := (by go_split_ands; exact Below.trans (by assumption) (Below.mono hb5 (Below.size (by assumption)))))
        | (go_at_call 16; refine (HSA.out _ s5 hq5 hA5).mono ?_; rintro e w6 ⟨rfl, hb6⟩; have hq6 : Below W4.heap.size W4 w6 := hq5.trans (hb6.mono hq5.size)))
    have hO6 := HO4.out.go hq6
    have hX6 := known hq6 (Nat.le_refl _) HX4.out
    have u0 : w6.cell? ⟨w3.heap.size, 0, none⟩ = some (.iface 184 (.agg #[.slice s.ea s.el s.ec])) := cell_of_cells hX6 0
    have u1 : w6.cell? ⟨w3.heap.size, 1, none⟩ = some (.int .i64 1) := cell_of_cells hX6 1
    have u2 : w6.cell? ⟨w3.heap.size, 2, none⟩ = some (.int .i64 x.level) := cell_of_cells hX6 2
    have p0 : w6.cell? ⟨w.heap.size + 1, 0, none⟩ = some (.nilIface) := cell_of_cells hO6.res 0
    have p1 : w6.cell? ⟨w.heap.size + 1, 1, none⟩ = some (.int .i64 0) := cell_of_cells hO6.res 1
    have p2 : w6.cell? ⟨w.heap.size + 1, 2, none⟩ = some (.int .i64 0) := cell_of_cells hO6.res 2
    have f0 : w6.frozen? ⟨w.heap.size + 1, 0, none⟩ = false := frozen_of_cells hO6.res 0
    have f1 : w6.frozen? ⟨w.heap.size + 1, 1, none⟩ = false := frozen_of_cells hO6.res 1
    have f2 : w6.frozen? ⟨w.heap.size + 1, 2, none⟩ = false := frozen_of_cells hO6.res 2
    clear HQ4 HSK HSA hX6 hb6 hb5 hA5 hq5 hq6 HO4 HX4
    cases sm with
    | false =>
      go_wp2_with fail
      rw [HBR.out, HSM.out, Bool.true_and]
      exact open_wrong hO6 rfl rfl
    | true =>
      go_wp2_with fail
      have h9 := fun tm => open_okay (body := .iface 184 (.agg #[.slice s.ea s.el s.ec])) (tm := tm) hO6
      rw [HK.out] at h9
      rw [HBR.out, HSM.out, Bool.true_and]
      exact h9 _ rfl rfl
end Go.Proofs.YtmkefodaibmkhaaGreatDoor
namespace Go.Proofs.YtmkefodaibmkhaaGreatDoor
open Go Go.RowKit

set_option maxRecDepth 100000 in
set_option maxHeartbeats 8000000 in
theorem open_reg (x : Sk) (s : SS) (w : World) (hx : s.At w.heap.size w x) (hk : x.kind = 1) (h0 : (x.level == 0) = false) (h1 : 0 ≤ x.level) (h2 : x.level ≤ 4) :
    Calls Tryz.prog 38 #[.agg #[.int .i64 x.kind, .int .i64 x.level, .slice s.ea s.el s.ec, .int .i64 x.hb, .string x.hr, .int .i64 x.cr, .int .i64 x.cc, .slice s.ca s.cl s.cc, .int .i64 x.gf, .slice s.ga s.gl s.gc]] w (OpenPost ((hlRight x.hb x.hr && (x.hb == 8 - x.level)) && skSame x (skReg 1 x.level x.hb x.hr)) (.iface 187 (.agg #[.int .i64 x.hb, .string x.hr])) x w) := by
  obtain ⟨W0, hW0, hO⟩ := open_in hx
  have HO := Lib.hid hO
  have HK := Lib.hid hk
  rw [hk] at hW0 ⊢
  have t1 : decide (x.level < 0) = false := by simp; omega
  have t2 : decide ((4 : Int) < x.level) = false := by simp; omega
  have hbt : ∀ w, Calls Tryz.prog 12 #[.int .i64 1] w fun e w' => e = .returned (.int .i64 4) ∧ w' = w := fun w => (Bottom_any 1 w).mono fun e w' ⟨h1, h2⟩ => ⟨h1, h2.symm⟩
  have HBT := Lib.hid hbt
  clear hx hO hbt hk
  go_enter Tryz.func38, Tryz.ntmps38
  go_wp2_with fail
  clear hW0
  have c0 : W0.cell? ⟨w.heap.size, 0, none⟩ = some (.int .i64 1) := by rw [← HK.out]; exact cell_of_cells HO.out.box 0
  have q0 : ∀ W, Below W0.heap.size W0 W → W.cell? ⟨w.heap.size, 0, none⟩ = some (.int .i64 1) ∧ Below W0.heap.size W0 W := fun W h => ⟨by rw [← HK.out]; exact cell_of_cells (HO.out.go h).box 0, h⟩
  have HQ := Lib.hid q0
  clear q0
  go_region_held3 (fun w' => w'.cell? ⟨w.heap.size, 0, none⟩ = some (.int .i64 1) ∧ Below W0.heap.size W0 w')
    (first
      | exact HQ.out _ (Below.refl _ _).drew
      | (go_split_ands; refine HQ.out _ ?_; first | assumption | exact Below.trans (by assumption) (Below.mono (by assumption) (Below.size (by assumption)))))
    (first
      | (go_at_call 80; refine (kinds_at _).mono ?_; rintro e w1 ⟨r, rfl, hr, hb1⟩; have hlk := look_1 hr; have hq1 : Below W0.heap.size W0 w1 := (by go_split_ands; exact Below.trans (by assumption) (Below.mono hb1 (Below.size (by assumption))))))
  have hO1 := HO.out.go hq1
  have hbx := hO1.box
  rw [HK.out] at hbx
  have d0 : w1.cell? ⟨w.heap.size, 0, none⟩ = some (.int .i64 1) := cell_of_cells hbx 0
  have d1 : w1.cell? ⟨w.heap.size, 1, none⟩ = some (.int .i64 x.level) := cell_of_cells hbx 1
  have d2 : w1.cell? ⟨w.heap.size, 2, none⟩ = some (.slice s.ea s.el s.ec) := cell_of_cells hbx 2
  have d3 : w1.cell? ⟨w.heap.size, 3, none⟩ = some (.int .i64 x.hb) := cell_of_cells hbx 3
  have d4 : w1.cell? ⟨w.heap.size, 4, none⟩ = some (.string x.hr) := cell_of_cells hbx 4
  have d5 : w1.cell? ⟨w.heap.size, 5, none⟩ = some (.int .i64 x.cr) := cell_of_cells hbx 5
  have d6 : w1.cell? ⟨w.heap.size, 6, none⟩ = some (.int .i64 x.cc) := cell_of_cells hbx 6
  have d7 : w1.cell? ⟨w.heap.size, 7, none⟩ = some (.slice s.ca s.cl s.cc) := cell_of_cells hbx 7
  have d8 : w1.cell? ⟨w.heap.size, 8, none⟩ = some (.int .i64 x.gf) := cell_of_cells hbx 8
  have d9 : w1.cell? ⟨w.heap.size, 9, none⟩ = some (.slice s.ga s.gl s.gc) := cell_of_cells hbx 9
  clear hlk hr hb1 c0
  go_wp2_with fail
  go_quiet ((go_at_call 12; exact Calls.quiet_of_same (HBT.out _)))
  go_wp2_with fail
  have hO2 := hO1.go (below_drewN (Below.refl _ _) nq)
  have hD := distinct1_any x s (w1.drewN nq) hO2.lists h0 h1 h2
  rw [HK.out] at hD
  generalize hbr : (hlRight x.hb x.hr && (x.hb == 8 - x.level)) = br at hD
  have HBR := Lib.hid hbr
  clear hbr
  refine hD.mono ?_
  rintro e w3 ⟨rfl, hb3⟩
  have hO3 := hO2.go hb3
  have hbx3 := hO3.box
  rw [HK.out] at hbx3
  clear hD hO2 hb3 hO1 hbx d0 d1 d2 d3 d4 d5 d6 d7 d8 d9 HQ HBT HO hq1
  have d0 : w3.cell? ⟨w.heap.size, 0, none⟩ = some (.int .i64 1) := cell_of_cells hbx3 0
  have d1 : w3.cell? ⟨w.heap.size, 1, none⟩ = some (.int .i64 x.level) := cell_of_cells hbx3 1
  have d2 : w3.cell? ⟨w.heap.size, 2, none⟩ = some (.slice s.ea s.el s.ec) := cell_of_cells hbx3 2
  have d3 : w3.cell? ⟨w.heap.size, 3, none⟩ = some (.int .i64 x.hb) := cell_of_cells hbx3 3
  have d4 : w3.cell? ⟨w.heap.size, 4, none⟩ = some (.string x.hr) := cell_of_cells hbx3 4
  have d5 : w3.cell? ⟨w.heap.size, 5, none⟩ = some (.int .i64 x.cr) := cell_of_cells hbx3 5
  have d6 : w3.cell? ⟨w.heap.size, 6, none⟩ = some (.int .i64 x.cc) := cell_of_cells hbx3 6
  have d7 : w3.cell? ⟨w.heap.size, 7, none⟩ = some (.slice s.ca s.cl s.cc) := cell_of_cells hbx3 7
  have d8 : w3.cell? ⟨w.heap.size, 8, none⟩ = some (.int .i64 x.gf) := cell_of_cells hbx3 8
  have d9 : w3.cell? ⟨w.heap.size, 9, none⟩ = some (.slice s.ga s.gl s.gc) := cell_of_cells hbx3 9
  have p0 : w3.cell? ⟨w.heap.size + 1, 0, none⟩ = some (.nilIface) := cell_of_cells hO3.res 0
  have p1 : w3.cell? ⟨w.heap.size + 1, 1, none⟩ = some (.int .i64 0) := cell_of_cells hO3.res 1
  have p2 : w3.cell? ⟨w.heap.size + 1, 2, none⟩ = some (.int .i64 0) := cell_of_cells hO3.res 2
  have f0 : w3.frozen? ⟨w.heap.size + 1, 0, none⟩ = false := frozen_of_cells hO3.res 0
  have f1 : w3.frozen? ⟨w.heap.size + 1, 1, none⟩ = false := frozen_of_cells hO3.res 1
  have f2 : w3.frozen? ⟨w.heap.size + 1, 2, none⟩ = false := frozen_of_cells hO3.res 2
  cases br with
  | false =>
    go_wp2_with fail
    rw [HBR.out, Bool.false_and]
    exact open_wrong hO3 rfl rfl
  | true =>
    obtain ⟨W4, hW4, hX4, hB4, hs4⟩ := boxes1 w3 #[.iface 187 (.agg #[.int .i64 x.hb, .string x.hr]), .int .i64 1, .int .i64 x.level] 68
    have HW4 := Lib.hid hW4
    have HO4 := Lib.hid (hO3.go hB4)
    have HX4 := Lib.hid hX4
    clear hW4 hX4 hB4 hs4 hO3 p0 p1 p2 f0 f1 f2 hbx3
    go_wp2_with fail
    rw [HW4.out]
    clear HW4 d0 d1 d2 d3 d4 d5 d6 d7 d8 d9
    have q4 : ∀ w', Below W4.heap.size W4 w' → w'.cell? ⟨w.heap.size, 0, none⟩ = some (.int .i64 1) ∧ w'.cell? ⟨w.heap.size, 1, none⟩ = some (.int .i64 x.level) ∧ w'.cell? ⟨w.heap.size, 2, none⟩ = some (.slice s.ea s.el s.ec) ∧ w'.cell? ⟨w.heap.size, 3, none⟩ = some (.int .i64 x.hb) ∧ w'.cell? ⟨w.heap.size, 4, none⟩ = some (.string x.hr) ∧ w'.cell? ⟨w.heap.size, 5, none⟩ = some (.int .i64 x.cr) ∧ w'.cell? ⟨w.heap.size, 6, none⟩ = some (.int .i64 x.cc) ∧ w'.cell? ⟨w.heap.size, 7, none⟩ = some (.slice s.ca s.cl s.cc) ∧ w'.cell? ⟨w.heap.size, 8, none⟩ = some (.int .i64 x.gf) ∧ w'.cell? ⟨w.heap.size, 9, none⟩ = some (.slice s.ga s.gl s.gc) ∧ w'.cell? ⟨w3.heap.size, 0, none⟩ = some (.iface 187 (.agg #[.int .i64 x.hb, .string x.hr])) ∧ w'.cell? ⟨w3.heap.size, 1, none⟩ = some (.int .i64 1) ∧ w'.cell? ⟨w3.heap.size, 2, none⟩ = some (.int .i64 x.level) ∧ Below W4.heap.size W4 w' := fun w' h => by
      have hb := (HO4.out.go h).box
      rw [HK.out] at hb
      have hc := known h (Nat.le_refl _) HX4.out
      exact ⟨cell_of_cells hb 0, cell_of_cells hb 1, cell_of_cells hb 2, cell_of_cells hb 3, cell_of_cells hb 4, cell_of_cells hb 5, cell_of_cells hb 6, cell_of_cells hb 7, cell_of_cells hb 8, cell_of_cells hb 9, cell_of_cells hc 0, cell_of_cells hc 1, cell_of_cells hc 2, h⟩
    have HQ4 := Lib.hid q4
    clear q4
    obtain ⟨sm, hsm⟩ : ∃ sm, skSame x (skReg 1 x.level x.hb x.hr) = sm := ⟨_, rfl⟩
    have HSM := Lib.hid hsm
    clear hsm
    have HSK : Hid (∀ W, Below W4.heap.size W4 W → Calls Tryz.prog 81 #[.agg #[.iface 187 (.agg #[.int .i64 x.hb, .string x.hr]), .int .i64 1, .int .i64 x.level]] W (SkPost (skReg 1 x.level x.hb x.hr) W)) := fun W h => sketch_reg 1 x.level x.hb x.hr W
    have HSA : Hid (∀ W (s' : SS), Below W4.heap.size W4 W → s'.At W.heap.size W (skReg 1 x.level x.hb x.hr) → Calls Tryz.prog 16 #[.agg #[.int .i64 1, .int .i64 x.level, .slice s.ea s.el s.ec, .int .i64 x.hb, .string x.hr, .int .i64 x.cr, .int .i64 x.cc, .slice s.ca s.cl s.cc, .int .i64 x.gf, .slice s.ga s.gl s.gc], .agg #[.int .i64 (skReg 1 x.level x.hb x.hr).kind, .int .i64 (skReg 1 x.level x.hb x.hr).level, .slice s'.ea s'.el s'.ec, .int .i64 (skReg 1 x.level x.hb x.hr).hb, .string (skReg 1 x.level x.hb x.hr).hr, .int .i64 (skReg 1 x.level x.hb x.hr).cr, .int .i64 (skReg 1 x.level x.hb x.hr).cc, .slice s'.ca s'.cl s'.cc, .int .i64 (skReg 1 x.level x.hb x.hr).gf, .slice s'.ga s'.gl s'.gc]] W fun e w' => e = .returned (.bool sm) ∧ Below W.heap.size W w') := fun W s' h hs' => by
      have := ladder_Same_any x (skReg 1 x.level x.hb x.hr) s s' W (HO4.out.go h).lists hs'
      rw [HSM.out, HK.out] at this
      exact this
    go_region_held3 (fun w' => w'.cell? ⟨w.heap.size, 0, none⟩ = some (.int .i64 1) ∧ w'.cell? ⟨w.heap.size, 1, none⟩ = some (.int .i64 x.level) ∧ w'.cell? ⟨w.heap.size, 2, none⟩ = some (.slice s.ea s.el s.ec) ∧ w'.cell? ⟨w.heap.size, 3, none⟩ = some (.int .i64 x.hb) ∧ w'.cell? ⟨w.heap.size, 4, none⟩ = some (.string x.hr) ∧ w'.cell? ⟨w.heap.size, 5, none⟩ = some (.int .i64 x.cr) ∧ w'.cell? ⟨w.heap.size, 6, none⟩ = some (.int .i64 x.cc) ∧ w'.cell? ⟨w.heap.size, 7, none⟩ = some (.slice s.ca s.cl s.cc) ∧ w'.cell? ⟨w.heap.size, 8, none⟩ = some (.int .i64 x.gf) ∧ w'.cell? ⟨w.heap.size, 9, none⟩ = some (.slice s.ga s.gl s.gc) ∧ w'.cell? ⟨w3.heap.size, 0, none⟩ = some (.iface 187 (.agg #[.int .i64 x.hb, .string x.hr])) ∧ w'.cell? ⟨w3.heap.size, 1, none⟩ = some (.int .i64 1) ∧ w'.cell? ⟨w3.heap.size, 2, none⟩ = some (.int .i64 x.level) ∧ Below W4.heap.size W4 w')
      (first
        | exact HQ4.out _ (Below.refl _ _).drew
        | (go_split_ands; refine HQ4.out _ ?_; first | assumption | exact Below.trans (by assumption) (Below.mono (by assumption) (Below.size (by assumption)))))
      (first
        | (go_at_call 81; refine (HSK.out _ (by go_split_ands; assumption)).mono ?_; rintro e w5 ⟨s5, rfl, hA5, -, -, -, hb5⟩; have hq5 : Below W4.heap.size W4 w5 := (by go_split_ands; exact Below.trans (by assumption) (Below.mono hb5 (Below.size (by assumption)))))
        | (go_at_call 16; refine (HSA.out _ s5 hq5 hA5).mono ?_; rintro e w6 ⟨rfl, hb6⟩; have hq6 : Below W4.heap.size W4 w6 := hq5.trans (hb6.mono hq5.size)))
    have hO6 := HO4.out.go hq6
    have hX6 := known hq6 (Nat.le_refl _) HX4.out
    have u0 : w6.cell? ⟨w3.heap.size, 0, none⟩ = some (.iface 187 (.agg #[.int .i64 x.hb, .string x.hr])) := cell_of_cells hX6 0
    have u1 : w6.cell? ⟨w3.heap.size, 1, none⟩ = some (.int .i64 1) := cell_of_cells hX6 1
    have u2 : w6.cell? ⟨w3.heap.size, 2, none⟩ = some (.int .i64 x.level) := cell_of_cells hX6 2
    have p0 : w6.cell? ⟨w.heap.size + 1, 0, none⟩ = some (.nilIface) := cell_of_cells hO6.res 0
    have p1 : w6.cell? ⟨w.heap.size + 1, 1, none⟩ = some (.int .i64 0) := cell_of_cells hO6.res 1
    have p2 : w6.cell? ⟨w.heap.size + 1, 2, none⟩ = some (.int .i64 0) := cell_of_cells hO6.res 2
    have f0 : w6.frozen? ⟨w.heap.size + 1, 0, none⟩ = false := frozen_of_cells hO6.res 0
    have f1 : w6.frozen? ⟨w.heap.size + 1, 1, none⟩ = false := frozen_of_cells hO6.res 1
    have f2 : w6.frozen? ⟨w.heap.size + 1, 2, none⟩ = false := frozen_of_cells hO6.res 2
    clear HQ4 HSK HSA hX6 hb6 hb5 hA5 hq5 hq6 HO4 HX4
    cases sm with
    | false =>
      go_wp2_with fail
      rw [HBR.out, HSM.out, Bool.true_and]
      exact open_wrong hO6 rfl rfl
    | true =>
      go_wp2_with fail
      have h9 := fun tm => open_okay (body := .iface 187 (.agg #[.int .i64 x.hb, .string x.hr])) (tm := tm) hO6
      rw [HK.out] at h9
      rw [HBR.out, HSM.out, Bool.true_and]
      exact h9 _ rfl rfl
set_option maxRecDepth 100000 in
set_option maxHeartbeats 8000000 in
theorem open_cnt (x : Sk) (s : SS) (w : World) (hx : s.At w.heap.size w x) (hk : x.kind = 2) (h1 : 0 ≤ x.level) (h2 : x.level ≤ 3) (hll : s.cl < 2147483648) :
    Calls Tryz.prog 38 #[.agg #[.int .i64 x.kind, .int .i64 x.level, .slice s.ea s.el s.ec, .int .i64 x.hb, .string x.hr, .int .i64 x.cr, .int .i64 x.cc, .slice s.ca s.cl s.cc, .int .i64 x.gf, .slice s.ga s.gl s.gc]] w (OpenPost ((cmRight x.cr x.cc x.cl && (x.cr == 2) && (x.cc == 32 / 2 ^ x.level.toNat)) && skSame x (skCnt 2 x.level x.cr x.cc x.cl)) (.iface 188 (.agg #[.int .i64 x.cr, .int .i64 x.cc, .slice s.ca s.cl s.cc])) x w) := by
  obtain ⟨W0, hW0, hO⟩ := open_in hx
  have HO := Lib.hid hO
  have HK := Lib.hid hk
  rw [hk] at hW0 ⊢
  have t1 : decide (x.level < 0) = false := by simp; omega
  have t2 : decide ((3 : Int) < x.level) = false := by simp; omega
  have hbt : ∀ w, Calls Tryz.prog 12 #[.int .i64 2] w fun e w' => e = .returned (.int .i64 3) ∧ w' = w := fun w => (Bottom_any 2 w).mono fun e w' ⟨h1, h2⟩ => ⟨h1, h2.symm⟩
  have HBT := Lib.hid hbt
  clear hx hO hbt hk
  go_enter Tryz.func38, Tryz.ntmps38
  go_wp2_with fail
  clear hW0
  have c0 : W0.cell? ⟨w.heap.size, 0, none⟩ = some (.int .i64 2) := by rw [← HK.out]; exact cell_of_cells HO.out.box 0
  have q0 : ∀ W, Below W0.heap.size W0 W → W.cell? ⟨w.heap.size, 0, none⟩ = some (.int .i64 2) ∧ Below W0.heap.size W0 W := fun W h => ⟨by rw [← HK.out]; exact cell_of_cells (HO.out.go h).box 0, h⟩
  have HQ := Lib.hid q0
  clear q0
  go_region_held3 (fun w' => w'.cell? ⟨w.heap.size, 0, none⟩ = some (.int .i64 2) ∧ Below W0.heap.size W0 w')
    (first
      | exact HQ.out _ (Below.refl _ _).drew
      | (go_split_ands; refine HQ.out _ ?_; first | assumption | exact Below.trans (by assumption) (Below.mono (by assumption) (Below.size (by assumption)))))
    (first
      | (go_at_call 80; refine (kinds_at _).mono ?_; rintro e w1 ⟨r, rfl, hr, hb1⟩; have hlk := look_2 hr; have hq1 : Below W0.heap.size W0 w1 := (by go_split_ands; exact Below.trans (by assumption) (Below.mono hb1 (Below.size (by assumption))))))
  have hO1 := HO.out.go hq1
  have hbx := hO1.box
  rw [HK.out] at hbx
  have d0 : w1.cell? ⟨w.heap.size, 0, none⟩ = some (.int .i64 2) := cell_of_cells hbx 0
  have d1 : w1.cell? ⟨w.heap.size, 1, none⟩ = some (.int .i64 x.level) := cell_of_cells hbx 1
  have d2 : w1.cell? ⟨w.heap.size, 2, none⟩ = some (.slice s.ea s.el s.ec) := cell_of_cells hbx 2
  have d3 : w1.cell? ⟨w.heap.size, 3, none⟩ = some (.int .i64 x.hb) := cell_of_cells hbx 3
  have d4 : w1.cell? ⟨w.heap.size, 4, none⟩ = some (.string x.hr) := cell_of_cells hbx 4
  have d5 : w1.cell? ⟨w.heap.size, 5, none⟩ = some (.int .i64 x.cr) := cell_of_cells hbx 5
  have d6 : w1.cell? ⟨w.heap.size, 6, none⟩ = some (.int .i64 x.cc) := cell_of_cells hbx 6
  have d7 : w1.cell? ⟨w.heap.size, 7, none⟩ = some (.slice s.ca s.cl s.cc) := cell_of_cells hbx 7
  have d8 : w1.cell? ⟨w.heap.size, 8, none⟩ = some (.int .i64 x.gf) := cell_of_cells hbx 8
  have d9 : w1.cell? ⟨w.heap.size, 9, none⟩ = some (.slice s.ga s.gl s.gc) := cell_of_cells hbx 9
  clear hlk hr hb1 c0
  go_wp2_with fail
  go_quiet ((go_at_call 12; exact Calls.quiet_of_same (HBT.out _)))
  go_wp2_with fail
  have hO2 := hO1.go (below_drewN (Below.refl _ _) nq)
  have hD := count_any x s (w1.drewN nq) hO2.lists h1 h2
  rw [HK.out] at hD
  generalize hbr : (cmRight x.cr x.cc x.cl && (x.cr == 2) && (x.cc == 32 / 2 ^ x.level.toNat)) = br at hD
  have HBR := Lib.hid hbr
  clear hbr
  refine hD.mono ?_
  rintro e w3 ⟨rfl, hb3⟩
  have hO3 := hO2.go hb3
  have hbx3 := hO3.box
  rw [HK.out] at hbx3
  clear hD hO2 hb3 hO1 hbx d0 d1 d2 d3 d4 d5 d6 d7 d8 d9 HQ HBT HO hq1
  have d0 : w3.cell? ⟨w.heap.size, 0, none⟩ = some (.int .i64 2) := cell_of_cells hbx3 0
  have d1 : w3.cell? ⟨w.heap.size, 1, none⟩ = some (.int .i64 x.level) := cell_of_cells hbx3 1
  have d2 : w3.cell? ⟨w.heap.size, 2, none⟩ = some (.slice s.ea s.el s.ec) := cell_of_cells hbx3 2
  have d3 : w3.cell? ⟨w.heap.size, 3, none⟩ = some (.int .i64 x.hb) := cell_of_cells hbx3 3
  have d4 : w3.cell? ⟨w.heap.size, 4, none⟩ = some (.string x.hr) := cell_of_cells hbx3 4
  have d5 : w3.cell? ⟨w.heap.size, 5, none⟩ = some (.int .i64 x.cr) := cell_of_cells hbx3 5
  have d6 : w3.cell? ⟨w.heap.size, 6, none⟩ = some (.int .i64 x.cc) := cell_of_cells hbx3 6
  have d7 : w3.cell? ⟨w.heap.size, 7, none⟩ = some (.slice s.ca s.cl s.cc) := cell_of_cells hbx3 7
  have d8 : w3.cell? ⟨w.heap.size, 8, none⟩ = some (.int .i64 x.gf) := cell_of_cells hbx3 8
  have d9 : w3.cell? ⟨w.heap.size, 9, none⟩ = some (.slice s.ga s.gl s.gc) := cell_of_cells hbx3 9
  have p0 : w3.cell? ⟨w.heap.size + 1, 0, none⟩ = some (.nilIface) := cell_of_cells hO3.res 0
  have p1 : w3.cell? ⟨w.heap.size + 1, 1, none⟩ = some (.int .i64 0) := cell_of_cells hO3.res 1
  have p2 : w3.cell? ⟨w.heap.size + 1, 2, none⟩ = some (.int .i64 0) := cell_of_cells hO3.res 2
  have f0 : w3.frozen? ⟨w.heap.size + 1, 0, none⟩ = false := frozen_of_cells hO3.res 0
  have f1 : w3.frozen? ⟨w.heap.size + 1, 1, none⟩ = false := frozen_of_cells hO3.res 1
  have f2 : w3.frozen? ⟨w.heap.size + 1, 2, none⟩ = false := frozen_of_cells hO3.res 2
  cases br with
  | false =>
    go_wp2_with fail
    rw [HBR.out, Bool.false_and]
    exact open_wrong hO3 rfl rfl
  | true =>
    obtain ⟨W4, hW4, hX4, hB4, hs4⟩ := boxes1 w3 #[.iface 188 (.agg #[.int .i64 x.cr, .int .i64 x.cc, .slice s.ca s.cl s.cc]), .int .i64 2, .int .i64 x.level] 68
    have HW4 := Lib.hid hW4
    have HO4 := Lib.hid (hO3.go hB4)
    have HX4 := Lib.hid hX4
    clear hW4 hX4 hB4 hs4 hO3 p0 p1 p2 f0 f1 f2 hbx3
    go_wp2_with fail
    rw [HW4.out]
    clear HW4 d0 d1 d2 d3 d4 d5 d6 d7 d8 d9
    have q4 : ∀ w', Below W4.heap.size W4 w' → w'.cell? ⟨w.heap.size, 0, none⟩ = some (.int .i64 2) ∧ w'.cell? ⟨w.heap.size, 1, none⟩ = some (.int .i64 x.level) ∧ w'.cell? ⟨w.heap.size, 2, none⟩ = some (.slice s.ea s.el s.ec) ∧ w'.cell? ⟨w.heap.size, 3, none⟩ = some (.int .i64 x.hb) ∧ w'.cell? ⟨w.heap.size, 4, none⟩ = some (.string x.hr) ∧ w'.cell? ⟨w.heap.size, 5, none⟩ = some (.int .i64 x.cr) ∧ w'.cell? ⟨w.heap.size, 6, none⟩ = some (.int .i64 x.cc) ∧ w'.cell? ⟨w.heap.size, 7, none⟩ = some (.slice s.ca s.cl s.cc) ∧ w'.cell? ⟨w.heap.size, 8, none⟩ = some (.int .i64 x.gf) ∧ w'.cell? ⟨w.heap.size, 9, none⟩ = some (.slice s.ga s.gl s.gc) ∧ w'.cell? ⟨w3.heap.size, 0, none⟩ = some (.iface 188 (.agg #[.int .i64 x.cr, .int .i64 x.cc, .slice s.ca s.cl s.cc])) ∧ w'.cell? ⟨w3.heap.size, 1, none⟩ = some (.int .i64 2) ∧ w'.cell? ⟨w3.heap.size, 2, none⟩ = some (.int .i64 x.level) ∧ Below W4.heap.size W4 w' := fun w' h => by
      have hb := (HO4.out.go h).box
      rw [HK.out] at hb
      have hc := known h (Nat.le_refl _) HX4.out
      exact ⟨cell_of_cells hb 0, cell_of_cells hb 1, cell_of_cells hb 2, cell_of_cells hb 3, cell_of_cells hb 4, cell_of_cells hb 5, cell_of_cells hb 6, cell_of_cells hb 7, cell_of_cells hb 8, cell_of_cells hb 9, cell_of_cells hc 0, cell_of_cells hc 1, cell_of_cells hc 2, h⟩
    have HQ4 := Lib.hid q4
    clear q4
    obtain ⟨sm, hsm⟩ : ∃ sm, skSame x (skCnt 2 x.level x.cr x.cc x.cl) = sm := ⟨_, rfl⟩
    have HSM := Lib.hid hsm
    clear hsm
    have HSK : Hid (∀ W, Below W4.heap.size W4 W → Calls Tryz.prog 81 #[.agg #[.iface 188 (.agg #[.int .i64 x.cr, .int .i64 x.cc, .slice s.ca s.cl s.cc]), .int .i64 2, .int .i64 x.level]] W (SkPost (skCnt 2 x.level x.cr x.cc x.cl) W)) := fun W h => sketch_cnt 2 x.level x.cr x.cc x.cl s.ca s.cl s.cc W (HO4.out.go h).lists.c.1 hll
    have HSA : Hid (∀ W (s' : SS), Below W4.heap.size W4 W → s'.At W.heap.size W (skCnt 2 x.level x.cr x.cc x.cl) → Calls Tryz.prog 16 #[.agg #[.int .i64 2, .int .i64 x.level, .slice s.ea s.el s.ec, .int .i64 x.hb, .string x.hr, .int .i64 x.cr, .int .i64 x.cc, .slice s.ca s.cl s.cc, .int .i64 x.gf, .slice s.ga s.gl s.gc], .agg #[.int .i64 (skCnt 2 x.level x.cr x.cc x.cl).kind, .int .i64 (skCnt 2 x.level x.cr x.cc x.cl).level, .slice s'.ea s'.el s'.ec, .int .i64 (skCnt 2 x.level x.cr x.cc x.cl).hb, .string (skCnt 2 x.level x.cr x.cc x.cl).hr, .int .i64 (skCnt 2 x.level x.cr x.cc x.cl).cr, .int .i64 (skCnt 2 x.level x.cr x.cc x.cl).cc, .slice s'.ca s'.cl s'.cc, .int .i64 (skCnt 2 x.level x.cr x.cc x.cl).gf, .slice s'.ga s'.gl s'.gc]] W fun e w' => e = .returned (.bool sm) ∧ Below W.heap.size W w') := fun W s' h hs' => by
      have := ladder_Same_any x (skCnt 2 x.level x.cr x.cc x.cl) s s' W (HO4.out.go h).lists hs'
      rw [HSM.out, HK.out] at this
      exact this
    go_region_held3 (fun w' => w'.cell? ⟨w.heap.size, 0, none⟩ = some (.int .i64 2) ∧ w'.cell? ⟨w.heap.size, 1, none⟩ = some (.int .i64 x.level) ∧ w'.cell? ⟨w.heap.size, 2, none⟩ = some (.slice s.ea s.el s.ec) ∧ w'.cell? ⟨w.heap.size, 3, none⟩ = some (.int .i64 x.hb) ∧ w'.cell? ⟨w.heap.size, 4, none⟩ = some (.string x.hr) ∧ w'.cell? ⟨w.heap.size, 5, none⟩ = some (.int .i64 x.cr) ∧ w'.cell? ⟨w.heap.size, 6, none⟩ = some (.int .i64 x.cc) ∧ w'.cell? ⟨w.heap.size, 7, none⟩ = some (.slice s.ca s.cl s.cc) ∧ w'.cell? ⟨w.heap.size, 8, none⟩ = some (.int .i64 x.gf) ∧ w'.cell? ⟨w.heap.size, 9, none⟩ = some (.slice s.ga s.gl s.gc) ∧ w'.cell? ⟨w3.heap.size, 0, none⟩ = some (.iface 188 (.agg #[.int .i64 x.cr, .int .i64 x.cc, .slice s.ca s.cl s.cc])) ∧ w'.cell? ⟨w3.heap.size, 1, none⟩ = some (.int .i64 2) ∧ w'.cell? ⟨w3.heap.size, 2, none⟩ = some (.int .i64 x.level) ∧ Below W4.heap.size W4 w')
      (first
        | exact HQ4.out _ (Below.refl _ _).drew
        | (go_split_ands; refine HQ4.out _ ?_; first | assumption | exact Below.trans (by assumption) (Below.mono (by assumption) (Below.size (by assumption)))))
      (first
        | (go_at_call 81; refine (HSK.out _ (by go_split_ands; assumption)).mono ?_; rintro e w5 ⟨s5, rfl, hA5, -, -, -, hb5⟩; have hq5 : Below W4.heap.size W4 w5 := (by go_split_ands; exact Below.trans (by assumption) (Below.mono hb5 (Below.size (by assumption)))))
        | (go_at_call 16; refine (HSA.out _ s5 hq5 hA5).mono ?_; rintro e w6 ⟨rfl, hb6⟩; have hq6 : Below W4.heap.size W4 w6 := hq5.trans (hb6.mono hq5.size)))
    have hO6 := HO4.out.go hq6
    have hX6 := known hq6 (Nat.le_refl _) HX4.out
    have u0 : w6.cell? ⟨w3.heap.size, 0, none⟩ = some (.iface 188 (.agg #[.int .i64 x.cr, .int .i64 x.cc, .slice s.ca s.cl s.cc])) := cell_of_cells hX6 0
    have u1 : w6.cell? ⟨w3.heap.size, 1, none⟩ = some (.int .i64 2) := cell_of_cells hX6 1
    have u2 : w6.cell? ⟨w3.heap.size, 2, none⟩ = some (.int .i64 x.level) := cell_of_cells hX6 2
    have p0 : w6.cell? ⟨w.heap.size + 1, 0, none⟩ = some (.nilIface) := cell_of_cells hO6.res 0
    have p1 : w6.cell? ⟨w.heap.size + 1, 1, none⟩ = some (.int .i64 0) := cell_of_cells hO6.res 1
    have p2 : w6.cell? ⟨w.heap.size + 1, 2, none⟩ = some (.int .i64 0) := cell_of_cells hO6.res 2
    have f0 : w6.frozen? ⟨w.heap.size + 1, 0, none⟩ = false := frozen_of_cells hO6.res 0
    have f1 : w6.frozen? ⟨w.heap.size + 1, 1, none⟩ = false := frozen_of_cells hO6.res 1
    have f2 : w6.frozen? ⟨w.heap.size + 1, 2, none⟩ = false := frozen_of_cells hO6.res 2
    clear HQ4 HSK HSA hX6 hb6 hb5 hA5 hq5 hq6 HO4 HX4
    cases sm with
    | false =>
      go_wp2_with fail
      rw [HBR.out, HSM.out, Bool.true_and]
      exact open_wrong hO6 rfl rfl
    | true =>
      go_wp2_with fail
      have h9 := fun tm => open_okay (body := .iface 188 (.agg #[.int .i64 x.cr, .int .i64 x.cc, .slice s.ca s.cl s.cc])) (tm := tm) hO6
      rw [HK.out] at h9
      rw [HBR.out, HSM.out, Bool.true_and]
      exact h9 _ rfl rfl
set_option maxRecDepth 100000 in
set_option maxHeartbeats 8000000 in
theorem open_bkt (x : Sk) (s : SS) (w : World) (hx : s.At w.heap.size w x) (hk : x.kind = 3) (h1 : 0 ≤ x.level) (h2 : x.level ≤ 3) (hll : s.gl < 2147483648) (hb : ∀ b ∈ x.gl, b.1 ≤ 9223372036854775807) :
    Calls Tryz.prog 38 #[.agg #[.int .i64 x.kind, .int .i64 x.level, .slice s.ea s.el s.ec, .int .i64 x.hb, .string x.hr, .int .i64 x.cr, .int .i64 x.cc, .slice s.ca s.cl s.cc, .int .i64 x.gf, .slice s.ga s.gl s.gc]] w (OpenPost ((hiRight x.gf x.gl && (x.gf == 3 - x.level)) && skSame x (skBkt 3 x.level x.gf x.gl)) (.iface 190 (.agg #[.int .i64 x.gf, .slice s.ga s.gl s.gc])) x w) := by
  obtain ⟨W0, hW0, hO⟩ := open_in hx
  have HO := Lib.hid hO
  have HK := Lib.hid hk
  rw [hk] at hW0 ⊢
  have t1 : decide (x.level < 0) = false := by simp; omega
  have t2 : decide ((3 : Int) < x.level) = false := by simp; omega
  have hbt : ∀ w, Calls Tryz.prog 12 #[.int .i64 3] w fun e w' => e = .returned (.int .i64 3) ∧ w' = w := fun w => (Bottom_any 3 w).mono fun e w' ⟨h1, h2⟩ => ⟨h1, h2.symm⟩
  have HBT := Lib.hid hbt
  clear hx hO hbt hk
  go_enter Tryz.func38, Tryz.ntmps38
  go_wp2_with fail
  clear hW0
  have c0 : W0.cell? ⟨w.heap.size, 0, none⟩ = some (.int .i64 3) := by rw [← HK.out]; exact cell_of_cells HO.out.box 0
  have q0 : ∀ W, Below W0.heap.size W0 W → W.cell? ⟨w.heap.size, 0, none⟩ = some (.int .i64 3) ∧ Below W0.heap.size W0 W := fun W h => ⟨by rw [← HK.out]; exact cell_of_cells (HO.out.go h).box 0, h⟩
  have HQ := Lib.hid q0
  clear q0
  go_region_held3 (fun w' => w'.cell? ⟨w.heap.size, 0, none⟩ = some (.int .i64 3) ∧ Below W0.heap.size W0 w')
    (first
      | exact HQ.out _ (Below.refl _ _).drew
      | (go_split_ands; refine HQ.out _ ?_; first | assumption | exact Below.trans (by assumption) (Below.mono (by assumption) (Below.size (by assumption)))))
    (first
      | (go_at_call 80; refine (kinds_at _).mono ?_; rintro e w1 ⟨r, rfl, hr, hb1⟩; have hlk := look_3 hr; have hq1 : Below W0.heap.size W0 w1 := (by go_split_ands; exact Below.trans (by assumption) (Below.mono hb1 (Below.size (by assumption))))))
  have hO1 := HO.out.go hq1
  have hbx := hO1.box
  rw [HK.out] at hbx
  have d0 : w1.cell? ⟨w.heap.size, 0, none⟩ = some (.int .i64 3) := cell_of_cells hbx 0
  have d1 : w1.cell? ⟨w.heap.size, 1, none⟩ = some (.int .i64 x.level) := cell_of_cells hbx 1
  have d2 : w1.cell? ⟨w.heap.size, 2, none⟩ = some (.slice s.ea s.el s.ec) := cell_of_cells hbx 2
  have d3 : w1.cell? ⟨w.heap.size, 3, none⟩ = some (.int .i64 x.hb) := cell_of_cells hbx 3
  have d4 : w1.cell? ⟨w.heap.size, 4, none⟩ = some (.string x.hr) := cell_of_cells hbx 4
  have d5 : w1.cell? ⟨w.heap.size, 5, none⟩ = some (.int .i64 x.cr) := cell_of_cells hbx 5
  have d6 : w1.cell? ⟨w.heap.size, 6, none⟩ = some (.int .i64 x.cc) := cell_of_cells hbx 6
  have d7 : w1.cell? ⟨w.heap.size, 7, none⟩ = some (.slice s.ca s.cl s.cc) := cell_of_cells hbx 7
  have d8 : w1.cell? ⟨w.heap.size, 8, none⟩ = some (.int .i64 x.gf) := cell_of_cells hbx 8
  have d9 : w1.cell? ⟨w.heap.size, 9, none⟩ = some (.slice s.ga s.gl s.gc) := cell_of_cells hbx 9
  clear hlk hr hb1 c0
  go_wp2_with fail
  go_quiet ((go_at_call 12; exact Calls.quiet_of_same (HBT.out _)))
  go_wp2_with fail
  have hO2 := hO1.go (below_drewN (Below.refl _ _) nq)
  have hD := lie_any x s (w1.drewN nq) hO2.lists h1 h2 hb
  rw [HK.out] at hD
  generalize hbr : (hiRight x.gf x.gl && (x.gf == 3 - x.level)) = br at hD
  have HBR := Lib.hid hbr
  clear hbr
  refine hD.mono ?_
  rintro e w3 ⟨rfl, hb3⟩
  have hO3 := hO2.go hb3
  have hbx3 := hO3.box
  rw [HK.out] at hbx3
  clear hD hO2 hb3 hO1 hbx d0 d1 d2 d3 d4 d5 d6 d7 d8 d9 HQ HBT HO hq1
  have d0 : w3.cell? ⟨w.heap.size, 0, none⟩ = some (.int .i64 3) := cell_of_cells hbx3 0
  have d1 : w3.cell? ⟨w.heap.size, 1, none⟩ = some (.int .i64 x.level) := cell_of_cells hbx3 1
  have d2 : w3.cell? ⟨w.heap.size, 2, none⟩ = some (.slice s.ea s.el s.ec) := cell_of_cells hbx3 2
  have d3 : w3.cell? ⟨w.heap.size, 3, none⟩ = some (.int .i64 x.hb) := cell_of_cells hbx3 3
  have d4 : w3.cell? ⟨w.heap.size, 4, none⟩ = some (.string x.hr) := cell_of_cells hbx3 4
  have d5 : w3.cell? ⟨w.heap.size, 5, none⟩ = some (.int .i64 x.cr) := cell_of_cells hbx3 5
  have d6 : w3.cell? ⟨w.heap.size, 6, none⟩ = some (.int .i64 x.cc) := cell_of_cells hbx3 6
  have d7 : w3.cell? ⟨w.heap.size, 7, none⟩ = some (.slice s.ca s.cl s.cc) := cell_of_cells hbx3 7
  have d8 : w3.cell? ⟨w.heap.size, 8, none⟩ = some (.int .i64 x.gf) := cell_of_cells hbx3 8
  have d9 : w3.cell? ⟨w.heap.size, 9, none⟩ = some (.slice s.ga s.gl s.gc) := cell_of_cells hbx3 9
  have p0 : w3.cell? ⟨w.heap.size + 1, 0, none⟩ = some (.nilIface) := cell_of_cells hO3.res 0
  have p1 : w3.cell? ⟨w.heap.size + 1, 1, none⟩ = some (.int .i64 0) := cell_of_cells hO3.res 1
  have p2 : w3.cell? ⟨w.heap.size + 1, 2, none⟩ = some (.int .i64 0) := cell_of_cells hO3.res 2
  have f0 : w3.frozen? ⟨w.heap.size + 1, 0, none⟩ = false := frozen_of_cells hO3.res 0
  have f1 : w3.frozen? ⟨w.heap.size + 1, 1, none⟩ = false := frozen_of_cells hO3.res 1
  have f2 : w3.frozen? ⟨w.heap.size + 1, 2, none⟩ = false := frozen_of_cells hO3.res 2
  cases br with
  | false =>
    go_wp2_with fail
    rw [HBR.out, Bool.false_and]
    exact open_wrong hO3 rfl rfl
  | true =>
    obtain ⟨W4, hW4, hX4, hB4, hs4⟩ := boxes1 w3 #[.iface 190 (.agg #[.int .i64 x.gf, .slice s.ga s.gl s.gc]), .int .i64 3, .int .i64 x.level] 68
    have HW4 := Lib.hid hW4
    have HO4 := Lib.hid (hO3.go hB4)
    have HX4 := Lib.hid hX4
    clear hW4 hX4 hB4 hs4 hO3 p0 p1 p2 f0 f1 f2 hbx3
    go_wp2_with fail
    rw [HW4.out]
    clear HW4 d0 d1 d2 d3 d4 d5 d6 d7 d8 d9
    have q4 : ∀ w', Below W4.heap.size W4 w' → w'.cell? ⟨w.heap.size, 0, none⟩ = some (.int .i64 3) ∧ w'.cell? ⟨w.heap.size, 1, none⟩ = some (.int .i64 x.level) ∧ w'.cell? ⟨w.heap.size, 2, none⟩ = some (.slice s.ea s.el s.ec) ∧ w'.cell? ⟨w.heap.size, 3, none⟩ = some (.int .i64 x.hb) ∧ w'.cell? ⟨w.heap.size, 4, none⟩ = some (.string x.hr) ∧ w'.cell? ⟨w.heap.size, 5, none⟩ = some (.int .i64 x.cr) ∧ w'.cell? ⟨w.heap.size, 6, none⟩ = some (.int .i64 x.cc) ∧ w'.cell? ⟨w.heap.size, 7, none⟩ = some (.slice s.ca s.cl s.cc) ∧ w'.cell? ⟨w.heap.size, 8, none⟩ = some (.int .i64 x.gf) ∧ w'.cell? ⟨w.heap.size, 9, none⟩ = some (.slice s.ga s.gl s.gc) ∧ w'.cell? ⟨w3.heap.size, 0, none⟩ = some (.iface 190 (.agg #[.int .i64 x.gf, .slice s.ga s.gl s.gc])) ∧ w'.cell? ⟨w3.heap.size, 1, none⟩ = some (.int .i64 3) ∧ w'.cell? ⟨w3.heap.size, 2, none⟩ = some (.int .i64 x.level) ∧ Below W4.heap.size W4 w' := fun w' h => by
      have hb := (HO4.out.go h).box
      rw [HK.out] at hb
      have hc := known h (Nat.le_refl _) HX4.out
      exact ⟨cell_of_cells hb 0, cell_of_cells hb 1, cell_of_cells hb 2, cell_of_cells hb 3, cell_of_cells hb 4, cell_of_cells hb 5, cell_of_cells hb 6, cell_of_cells hb 7, cell_of_cells hb 8, cell_of_cells hb 9, cell_of_cells hc 0, cell_of_cells hc 1, cell_of_cells hc 2, h⟩
    have HQ4 := Lib.hid q4
    clear q4
    obtain ⟨sm, hsm⟩ : ∃ sm, skSame x (skBkt 3 x.level x.gf x.gl) = sm := ⟨_, rfl⟩
    have HSM := Lib.hid hsm
    clear hsm
    have HSK : Hid (∀ W, Below W4.heap.size W4 W → Calls Tryz.prog 81 #[.agg #[.iface 190 (.agg #[.int .i64 x.gf, .slice s.ga s.gl s.gc]), .int .i64 3, .int .i64 x.level]] W (SkPost (skBkt 3 x.level x.gf x.gl) W)) := fun W h => sketch_bkt 3 x.level x.gf x.gl s.ga s.gl s.gc W (HO4.out.go h).lists.g.1 hll
    have HSA : Hid (∀ W (s' : SS), Below W4.heap.size W4 W → s'.At W.heap.size W (skBkt 3 x.level x.gf x.gl) → Calls Tryz.prog 16 #[.agg #[.int .i64 3, .int .i64 x.level, .slice s.ea s.el s.ec, .int .i64 x.hb, .string x.hr, .int .i64 x.cr, .int .i64 x.cc, .slice s.ca s.cl s.cc, .int .i64 x.gf, .slice s.ga s.gl s.gc], .agg #[.int .i64 (skBkt 3 x.level x.gf x.gl).kind, .int .i64 (skBkt 3 x.level x.gf x.gl).level, .slice s'.ea s'.el s'.ec, .int .i64 (skBkt 3 x.level x.gf x.gl).hb, .string (skBkt 3 x.level x.gf x.gl).hr, .int .i64 (skBkt 3 x.level x.gf x.gl).cr, .int .i64 (skBkt 3 x.level x.gf x.gl).cc, .slice s'.ca s'.cl s'.cc, .int .i64 (skBkt 3 x.level x.gf x.gl).gf, .slice s'.ga s'.gl s'.gc]] W fun e w' => e = .returned (.bool sm) ∧ Below W.heap.size W w') := fun W s' h hs' => by
      have := ladder_Same_any x (skBkt 3 x.level x.gf x.gl) s s' W (HO4.out.go h).lists hs'
      rw [HSM.out, HK.out] at this
      exact this
    go_region_held3 (fun w' => w'.cell? ⟨w.heap.size, 0, none⟩ = some (.int .i64 3) ∧ w'.cell? ⟨w.heap.size, 1, none⟩ = some (.int .i64 x.level) ∧ w'.cell? ⟨w.heap.size, 2, none⟩ = some (.slice s.ea s.el s.ec) ∧ w'.cell? ⟨w.heap.size, 3, none⟩ = some (.int .i64 x.hb) ∧ w'.cell? ⟨w.heap.size, 4, none⟩ = some (.string x.hr) ∧ w'.cell? ⟨w.heap.size, 5, none⟩ = some (.int .i64 x.cr) ∧ w'.cell? ⟨w.heap.size, 6, none⟩ = some (.int .i64 x.cc) ∧ w'.cell? ⟨w.heap.size, 7, none⟩ = some (.slice s.ca s.cl s.cc) ∧ w'.cell? ⟨w.heap.size, 8, none⟩ = some (.int .i64 x.gf) ∧ w'.cell? ⟨w.heap.size, 9, none⟩ = some (.slice s.ga s.gl s.gc) ∧ w'.cell? ⟨w3.heap.size, 0, none⟩ = some (.iface 190 (.agg #[.int .i64 x.gf, .slice s.ga s.gl s.gc])) ∧ w'.cell? ⟨w3.heap.size, 1, none⟩ = some (.int .i64 3) ∧ w'.cell? ⟨w3.heap.size, 2, none⟩ = some (.int .i64 x.level) ∧ Below W4.heap.size W4 w')
      (first
        | exact HQ4.out _ (Below.refl _ _).drew
        | (go_split_ands; refine HQ4.out _ ?_; first | assumption | exact Below.trans (by assumption) (Below.mono (by assumption) (Below.size (by assumption)))))
      (first
        | (go_at_call 81; refine (HSK.out _ (by go_split_ands; assumption)).mono ?_; rintro e w5 ⟨s5, rfl, hA5, -, -, -, hb5⟩; have hq5 : Below W4.heap.size W4 w5 := (by go_split_ands; exact Below.trans (by assumption) (Below.mono hb5 (Below.size (by assumption)))))
        | (go_at_call 16; refine (HSA.out _ s5 hq5 hA5).mono ?_; rintro e w6 ⟨rfl, hb6⟩; have hq6 : Below W4.heap.size W4 w6 := hq5.trans (hb6.mono hq5.size)))
    have hO6 := HO4.out.go hq6
    have hX6 := known hq6 (Nat.le_refl _) HX4.out
    have u0 : w6.cell? ⟨w3.heap.size, 0, none⟩ = some (.iface 190 (.agg #[.int .i64 x.gf, .slice s.ga s.gl s.gc])) := cell_of_cells hX6 0
    have u1 : w6.cell? ⟨w3.heap.size, 1, none⟩ = some (.int .i64 3) := cell_of_cells hX6 1
    have u2 : w6.cell? ⟨w3.heap.size, 2, none⟩ = some (.int .i64 x.level) := cell_of_cells hX6 2
    have p0 : w6.cell? ⟨w.heap.size + 1, 0, none⟩ = some (.nilIface) := cell_of_cells hO6.res 0
    have p1 : w6.cell? ⟨w.heap.size + 1, 1, none⟩ = some (.int .i64 0) := cell_of_cells hO6.res 1
    have p2 : w6.cell? ⟨w.heap.size + 1, 2, none⟩ = some (.int .i64 0) := cell_of_cells hO6.res 2
    have f0 : w6.frozen? ⟨w.heap.size + 1, 0, none⟩ = false := frozen_of_cells hO6.res 0
    have f1 : w6.frozen? ⟨w.heap.size + 1, 1, none⟩ = false := frozen_of_cells hO6.res 1
    have f2 : w6.frozen? ⟨w.heap.size + 1, 2, none⟩ = false := frozen_of_cells hO6.res 2
    clear HQ4 HSK HSA hX6 hb6 hb5 hA5 hq5 hq6 HO4 HX4
    cases sm with
    | false =>
      go_wp2_with fail
      rw [HBR.out, HSM.out, Bool.true_and]
      exact open_wrong hO6 rfl rfl
    | true =>
      go_wp2_with fail
      have h9 := fun tm => open_okay (body := .iface 190 (.agg #[.int .i64 x.gf, .slice s.ga s.gl s.gc])) (tm := tm) hO6
      rw [HK.out] at h9
      rw [HBR.out, HSM.out, Bool.true_and]
      exact h9 _ rfl rfl
end Go.Proofs.YtmkefodaibmkhaaGreatDoor

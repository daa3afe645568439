/- aviarylaw06 .. 09: Few. aviarylaw10.Few. -/
import Derived.Test.YtmkefodaibmkhaaGreatDoorZXL
import Derived.Deep.RegionHeld3
import Derived.StillTactics
import Derived.Laws.Rows
import Derived.Lib.MinMax
import Derived.Test.YtmkefodaibmkhaaGreatDoorZM2
namespace Go.Proofs.YtmkefodaibmkhaaGreatDoor
open Go Go.RowKit

theorem und_exact : Tryz.prog.underlying 27 = some (.struct (Tryz.prog.fieldsOf 27)) := by kernel_rfl
theorem size_exact : (Tryz.prog.info? 27).map (·.size) = some 1 := by kernel_rfl
theorem und_hll : Tryz.prog.underlying 29 = some (.struct (Tryz.prog.fieldsOf 29)) := by kernel_rfl
theorem size_hll : (Tryz.prog.info? 29).map (·.size) = some 2 := by kernel_rfl
theorem und_cms : Tryz.prog.underlying 31 = some (.struct (Tryz.prog.fieldsOf 31)) := by kernel_rfl
theorem size_cms : (Tryz.prog.info? 31).map (·.size) = some 3 := by kernel_rfl
theorem und_hist : Tryz.prog.underlying 34 = some (.struct (Tryz.prog.fieldsOf 34)) := by kernel_rfl
theorem size_hist : (Tryz.prog.info? 34).map (·.size) = some 2 := by kernel_rfl
theorem set_cells3 {W : World} {B : Nat} {x y z u v q : Value} {t : TypeId} (h : W.heap[B]? = some (.cells #[x, y, z] t (0, 0))) : (((W.setCell ⟨B, 0, none⟩ u).setCell ⟨B, 1, none⟩ v).setCell ⟨B, 2, none⟩ q).heap[B]? = some (.cells #[u, v, q] t (0, 0)) := heap_set_known (heap_set_known (heap_set_known h u) v) q
theorem min_nat (len n : Nat) : (min (len : Int) n).toNat = min len n := by omega
set_option maxRecDepth 100000 in
set_option maxHeartbeats 1000000 in
theorem few06_any (a : Option Addr) (len cap : Nat) (w : World) (hc : len ≤ cap) :
    Calls Tryz.prog 45 #[.agg #[.slice a len cap]] w fun e w' => e = .returned (.agg #[.slice a (min len 70) cap]) ∧ Below w.heap.size w w' := by
  obtain ⟨W0, hW0, hX0, hB0, hs0⟩ := boxes1 w #[.slice a len cap] 27
  have c0 : W0.cell? ⟨w.heap.size, 0, none⟩ = some (.slice a len cap) := cell_of_cells hX0 0
  have HM := Lib.hid (min_nat len 70)
  go_enter Tryz.func45, Tryz.ntmps45
  go_wp2_with fail
  refine bodyPost_ret (results_cell_row rfl _ _ (w.heap.size + 1) 27 #[.slice a (min (len : Int) 70).toNat cap] (0, 0) _ rfl (by rw [← hs0]; exact World.alloc_heap_new _ _) und_exact rfl size_exact) rfl ⟨by rw [← HM.out]; rfl, hB0.alloc hB0.size _⟩
set_option maxRecDepth 100000 in
set_option maxHeartbeats 1000000 in
theorem few07_any (b : Int) (s : ByteArray) (w : World) :
    Calls Tryz.prog 46 #[.agg #[.int .i64 b, .string s]] w fun e w' => e = .returned (.agg #[.int .i64 b, .string (cutN 260 s)]) ∧ Below w.heap.size w w' := by
  obtain ⟨W0, hW0, hX0, hX1, hB0, hs0⟩ := boxes2 w #[.int .i64 b, .string s] 29 #[.int .i64 0, .string ⟨#[]⟩] 29
  have c0 : W0.cell? ⟨w.heap.size, 0, none⟩ = some (.int .i64 b) := cell_of_cells hX0 0
  have c1 : W0.cell? ⟨w.heap.size, 1, none⟩ = some (.string s) := cell_of_cells hX0 1
  have d0 : W0.cell? ⟨w.heap.size + 1, 0, none⟩ = some (.int .i64 0) := cell_of_cells hX1 0
  have f0 : W0.frozen? ⟨w.heap.size + 1, 0, none⟩ = false := Lib.frozen_of_heap hX1 0
  have d1 : W0.cell? ⟨w.heap.size + 1, 1, none⟩ = some (.string ⟨#[]⟩) := cell_of_cells hX1 1
  have f1 : W0.frozen? ⟨w.heap.size + 1, 1, none⟩ = false := Lib.frozen_of_heap hX1 1
  have m1 : 0 ≤ min (s.size : Int) 260 := by omega
  have m2 : min (s.size : Int) 260 ≤ s.size := by omega
  go_enter Tryz.func46, Tryz.ntmps46
  go_wp2_with fail
  go_region
  go_wp2_with fail
  refine bodyPost_ret (results_cell_row rfl _ _ (w.heap.size + 1) 29 #[.int .i64 b, .string (s.extract 0 (min (s.size : Int) 260).toNat)] (0, 0) _ rfl (set_cells2 hX1) und_hll rfl size_hll) rfl ⟨rfl, Below.drew (((hB0.setCell (p := ⟨w.heap.size + 1, 0, none⟩) (Nat.le_succ _) _).setCell (p := ⟨w.heap.size + 1, 1, none⟩) (Nat.le_succ _) _))⟩
set_option maxRecDepth 100000 in
set_option maxHeartbeats 1000000 in
theorem few08_any (r c : Int) (a : Option Addr) (len cap : Nat) (w : World) (hc : len ≤ cap) :
    Calls Tryz.prog 47 #[.agg #[.int .i64 r, .int .i64 c, .slice a len cap]] w fun e w' => e = .returned (.agg #[.int .i64 r, .int .i64 c, .slice a (min len 200) cap]) ∧ Below w.heap.size w w' := by
  obtain ⟨W0, hW0, hX0, hX1, hB0, hs0⟩ := boxes2 w #[.int .i64 r, .int .i64 c, .slice a len cap] 31 #[.int .i64 0, .int .i64 0, .slice none 0 0] 31
  have c0 : W0.cell? ⟨w.heap.size, 0, none⟩ = some (.int .i64 r) := cell_of_cells hX0 0
  have c1 : W0.cell? ⟨w.heap.size, 1, none⟩ = some (.int .i64 c) := cell_of_cells hX0 1
  have c2 : W0.cell? ⟨w.heap.size, 2, none⟩ = some (.slice a len cap) := cell_of_cells hX0 2
  have d0 : W0.cell? ⟨w.heap.size + 1, 0, none⟩ = some (.int .i64 0) := cell_of_cells hX1 0
  have f0 : W0.frozen? ⟨w.heap.size + 1, 0, none⟩ = false := Lib.frozen_of_heap hX1 0
  have d1 : W0.cell? ⟨w.heap.size + 1, 1, none⟩ = some (.int .i64 0) := cell_of_cells hX1 1
  have f1 : W0.frozen? ⟨w.heap.size + 1, 1, none⟩ = false := Lib.frozen_of_heap hX1 1
  have d2 : W0.cell? ⟨w.heap.size + 1, 2, none⟩ = some (.slice none 0 0) := cell_of_cells hX1 2
  have f2 : W0.frozen? ⟨w.heap.size + 1, 2, none⟩ = false := Lib.frozen_of_heap hX1 2
  have m1 : 0 ≤ min (len : Int) 200 := by omega
  have m2 : min (len : Int) 200 ≤ cap := by omega
  have HM := Lib.hid (min_nat len 200)
  go_enter Tryz.func47, Tryz.ntmps47
  go_wp2_with fail
  go_region
  go_wp2_with fail
  refine bodyPost_ret (results_cell_row rfl _ _ (w.heap.size + 1) 31 #[.int .i64 r, .int .i64 c, .slice a (min (len : Int) 200).toNat cap] (0, 0) _ rfl (set_cells3 hX1) und_cms rfl size_cms) rfl ⟨by rw [← HM.out]; rfl, Below.drew ((((hB0.setCell (p := ⟨w.heap.size + 1, 0, none⟩) (Nat.le_succ _) _).setCell (p := ⟨w.heap.size + 1, 1, none⟩) (Nat.le_succ _) _).setCell (p := ⟨w.heap.size + 1, 2, none⟩) (Nat.le_succ _) _))⟩
set_option maxRecDepth 100000 in
set_option maxHeartbeats 1000000 in
theorem few09_any (f : Int) (a : Option Addr) (len cap : Nat) (w : World) (hc : len ≤ cap) :
    Calls Tryz.prog 48 #[.agg #[.int .i64 f, .slice a len cap]] w fun e w' => e = .returned (.agg #[.int .i64 f, .slice a (min len 300) cap]) ∧ Below w.heap.size w w' := by
  obtain ⟨W0, hW0, hX0, hX1, hB0, hs0⟩ := boxes2 w #[.int .i64 f, .slice a len cap] 34 #[.int .i64 0, .slice none 0 0] 34
  have c0 : W0.cell? ⟨w.heap.size, 0, none⟩ = some (.int .i64 f) := cell_of_cells hX0 0
  have c1 : W0.cell? ⟨w.heap.size, 1, none⟩ = some (.slice a len cap) := cell_of_cells hX0 1
  have d0 : W0.cell? ⟨w.heap.size + 1, 0, none⟩ = some (.int .i64 0) := cell_of_cells hX1 0
  have f0 : W0.frozen? ⟨w.heap.size + 1, 0, none⟩ = false := Lib.frozen_of_heap hX1 0
  have d1 : W0.cell? ⟨w.heap.size + 1, 1, none⟩ = some (.slice none 0 0) := cell_of_cells hX1 1
  have f1 : W0.frozen? ⟨w.heap.size + 1, 1, none⟩ = false := Lib.frozen_of_heap hX1 1
  have m1 : 0 ≤ min (len : Int) 300 := by omega
  have m2 : min (len : Int) 300 ≤ cap := by omega
  have HM := Lib.hid (min_nat len 300)
  go_enter Tryz.func48, Tryz.ntmps48
  go_wp2_with fail
  go_region
  go_wp2_with fail
  refine bodyPost_ret (results_cell_row rfl _ _ (w.heap.size + 1) 34 #[.int .i64 f, .slice a (min (len : Int) 300).toNat cap] (0, 0) _ rfl (set_cells2 hX1) und_hist rfl size_hist) rfl ⟨by rw [← HM.out]; rfl, Below.drew (((hB0.setCell (p := ⟨w.heap.size + 1, 0, none⟩) (Nat.le_succ _) _).setCell (p := ⟨w.heap.size + 1, 1, none⟩) (Nat.le_succ _) _))⟩
end Go.Proofs.YtmkefodaibmkhaaGreatDoor
namespace Go.Proofs.YtmkefodaibmkhaaGreatDoor
open Go Go.RowKit

def Sk.cut (x : Sk) : Sk := { x with e := x.e.take 70, hr := cutN 260 x.hr, cl := x.cl.take 200, gl := x.gl.take 300 }
def SS.cut (s : SS) : SS := { s with el := min s.el 70, cl := min s.cl 200, gl := min s.gl 300 }
theorem SlC.take_min {α : Type} {enc : α → List Value} {k n₀ : Nat} {w : World} {a : Option Addr} {len cap : Nat} {l : List α} (h : SlC enc k n₀ w a len cap l) (m : Nat) : SlC enc k n₀ w a (min len m) cap (l.take m) := by
  have h1 := h.take (min len m) (Nat.min_le_left _ _)
  have h2 : l.take (min len m) = l.take m := by rw [h.1.1, Nat.min_comm]; exact List.take_eq_take_min.symm
  rwa [h2] at h1
theorem SS.At.cut {s : SS} {n : Nat} {w : World} {x : Sk} (h : s.At n w x) : s.cut.At n w x.cut := ⟨h.e.take_min 70, h.c.take_min 200, h.g.take_min 300⟩

theorem wp_region_class_lit {P : Program} (Inv : World → Prop) {id : Nat} {Q : Exit → Act → World → Prop} {a : Act} {w : World} {L l : List Oper} {o : Oper} (hl : L = l ++ [o]) (hm : P.follows .mixedOrders = true) (hB : Region.lexB .any l.toArray = true) (hb : lastB .any l.toArray o = true) (hC : Inv w.drew)
    (h : wpQuiet P l.toArray (fun w' => ∃ X : WIn Inv, w' = X.world) (fun a' => ∀ w', (∃ X : WIn Inv, w' = X.world) → o.wp P a' w' (fun a'' w'' => Q .normal a'' w'') Q) l a) : (Code.region id L.toArray true).wp P Q a w := by
  subst hl
  exact wp_region_class_last Inv hm hB hb hC h
theorem und_sketch : Tryz.prog.underlying 36 = some (.struct (Tryz.prog.fieldsOf 36)) := by kernel_rfl
theorem size_sketch : (Tryz.prog.info? 36).map (·.size) = some 10 := by kernel_rfl
structure FewIn (x : Sk) (s : SS) (w W : World) : Prop where
  box : W.heap[w.heap.size]? = some (.cells #[.int .i64 x.kind, .int .i64 x.level, .slice s.ea s.el s.ec, .int .i64 x.hb, .string x.hr, .int .i64 x.cr, .int .i64 x.cc, .slice s.ca s.cl s.cc, .int .i64 x.gf, .slice s.ga s.gl s.gc] 36 (0, 0))
  res : W.heap[w.heap.size + 1]? = some (.cells #[.int .i64 0, .int .i64 0, .slice none 0 0, .int .i64 0, .string ⟨#[]⟩, .int .i64 0, .int .i64 0, .slice none 0 0, .int .i64 0, .slice none 0 0] 36 (0, 0))
  below : Below w.heap.size w W
theorem FewIn.go {x : Sk} {s : SS} {w W W' : World} (h : FewIn x s w W) (hb : Below W.heap.size W W') : FewIn x s w W' := ⟨known hb (Nat.le_refl _) h.box, known hb (Nat.le_refl _) h.res, h.below.trans (hb.mono h.below.size)⟩

set_option maxRecDepth 100000 in
set_option maxHeartbeats 2000000 in
theorem few10_any (x : Sk) (s : SS) (w : World) (h : s.At w.heap.size w x) :
    Calls Tryz.prog 19 #[skVal x s] w fun e w' => e = .returned (skVal x.cut s.cut) ∧ Below w.heap.size w w' := by
  have he := h.e.2.1
  have hc := h.c.2.1
  have hg := h.g.2.1
  unfold skVal
  obtain ⟨W0, hW0, hX0, hX1, hB0, hs0⟩ := boxes2 w #[.int .i64 x.kind, .int .i64 x.level, .slice s.ea s.el s.ec, .int .i64 x.hb, .string x.hr, .int .i64 x.cr, .int .i64 x.cc, .slice s.ca s.cl s.cc, .int .i64 x.gf, .slice s.ga s.gl s.gc] 36 #[.int .i64 0, .int .i64 0, .slice none 0 0, .int .i64 0, .string ⟨#[]⟩, .int .i64 0, .int .i64 0, .slice none 0 0, .int .i64 0, .slice none 0 0] 36
  have hI : FewIn x s w W0 := ⟨hX0, hX1, hB0⟩
  let Inv : World → Prop := FewIn x s w
  have hgo : ∀ W W', Inv W → Below W.heap.size W W' → Inv W' := fun W W' h hb => FewIn.go h hb
  have q0 : ∀ X : WIn Inv, X.world.cell? ⟨w.heap.size, 0, none⟩ = some (.int .i64 x.kind) := fun X => cell_of_cells X.ok.box 0
  have q1 : ∀ X : WIn Inv, X.world.cell? ⟨w.heap.size, 1, none⟩ = some (.int .i64 x.level) := fun X => cell_of_cells X.ok.box 1
  have q2 : ∀ X : WIn Inv, X.world.cell? ⟨w.heap.size, 2, none⟩ = some (.slice s.ea s.el s.ec) := fun X => cell_of_cells X.ok.box 2
  have q3 : ∀ X : WIn Inv, X.world.cell? ⟨w.heap.size, 3, none⟩ = some (.int .i64 x.hb) := fun X => cell_of_cells X.ok.box 3
  have q4 : ∀ X : WIn Inv, X.world.cell? ⟨w.heap.size, 4, none⟩ = some (.string x.hr) := fun X => cell_of_cells X.ok.box 4
  have q5 : ∀ X : WIn Inv, X.world.cell? ⟨w.heap.size, 5, none⟩ = some (.int .i64 x.cr) := fun X => cell_of_cells X.ok.box 5
  have q6 : ∀ X : WIn Inv, X.world.cell? ⟨w.heap.size, 6, none⟩ = some (.int .i64 x.cc) := fun X => cell_of_cells X.ok.box 6
  have q7 : ∀ X : WIn Inv, X.world.cell? ⟨w.heap.size, 7, none⟩ = some (.slice s.ca s.cl s.cc) := fun X => cell_of_cells X.ok.box 7
  have q8 : ∀ X : WIn Inv, X.world.cell? ⟨w.heap.size, 8, none⟩ = some (.int .i64 x.gf) := fun X => cell_of_cells X.ok.box 8
  have q9 : ∀ X : WIn Inv, X.world.cell? ⟨w.heap.size, 9, none⟩ = some (.slice s.ga s.gl s.gc) := fun X => cell_of_cells X.ok.box 9
  have K6 : Hid (∀ X : WIn Inv, Calls Tryz.prog 45 #[.agg #[.slice s.ea s.el s.ec]] X.world fun e w' => e = .returned (.agg #[.slice s.ea (min s.el 70) s.ec]) ∧ ∃ Y : WIn Inv, w' = Y.world) := fun X => calls_class_below hgo (few06_any _ _ _ X.world he)
  have K7 : Hid (∀ X : WIn Inv, Calls Tryz.prog 46 #[.agg #[.int .i64 x.hb, .string x.hr]] X.world fun e w' => e = .returned (.agg #[.int .i64 x.hb, .string (cutN 260 x.hr)]) ∧ ∃ Y : WIn Inv, w' = Y.world) := fun X => calls_class_below hgo (few07_any _ _ X.world)
  have K8 : Hid (∀ X : WIn Inv, Calls Tryz.prog 47 #[.agg #[.int .i64 x.cr, .int .i64 x.cc, .slice s.ca s.cl s.cc]] X.world fun e w' => e = .returned (.agg #[.int .i64 x.cr, .int .i64 x.cc, .slice s.ca (min s.cl 200) s.cc]) ∧ ∃ Y : WIn Inv, w' = Y.world) := fun X => calls_class_below hgo (few08_any _ _ _ _ _ X.world hc)
  have K9 : Hid (∀ X : WIn Inv, Calls Tryz.prog 48 #[.agg #[.int .i64 x.gf, .slice s.ga s.gl s.gc]] X.world fun e w' => e = .returned (.agg #[.int .i64 x.gf, .slice s.ga (min s.gl 300) s.gc]) ∧ ∃ Y : WIn Inv, w' = Y.world) := fun X => calls_class_below hgo (few09_any _ _ _ _ X.world hg)
  have hfin : Hid (∀ X : WIn Inv, FewIn x s w X.world) := fun X => X.ok
  have hI0 : Hid (Inv W0.drew) := hI.go (Below.refl _ _).drew
  have hne : Nonempty (WIn Inv) := ⟨⟨_, hI0.out⟩⟩
  clear h hI hgo hX0 hX1 hB0 hs0
  clear_value Inv
  go_enter Tryz.func19, Tryz.ntmps19
  go_wp2_with fail
  refine wp_region_class_lit Inv (l := [_, _, _, _, _, _, _, _, _, _, _, _, _, _, _, _, _]) (o := _) rfl (by kernel_rfl) (by kernel_rfl) (by kernel_rfl) hI0.out ?_
  repeat (first | go_big_quiet_step ((first | (go_at_call 45; with_reducible exact K6.out _) | (go_at_call 46; with_reducible exact K7.out _) | (go_at_call 47; with_reducible exact K8.out _) | (go_at_call 48; with_reducible exact K9.out _))) | quiet_step ((first | (go_at_call 45; with_reducible exact K6.out _) | (go_at_call 46; with_reducible exact K7.out _) | (go_at_call 47; with_reducible exact K8.out _) | (go_at_call 48; with_reducible exact K9.out _))))
  refine wpQuiet_nil ?_
  rintro _ ⟨X, rfl⟩
  have hF := hfin.out X
  have hres := hF.res
  have hbel := hF.below
  generalize X.world = W at hres hbel
  clear hF hfin hI0 hne K6 K7 K8 K9 q0 q1 q2 q3 q4 q5 q6 q7 q8 q9 hW0
  have d0 : W.cell? ⟨w.heap.size + 1, 0, none⟩ = some (.int .i64 0) := cell_of_cells hres 0
  have d1 : W.cell? ⟨w.heap.size + 1, 1, none⟩ = some (.int .i64 0) := cell_of_cells hres 1
  have d2 : W.cell? ⟨w.heap.size + 1, 2, none⟩ = some (.slice none 0 0) := cell_of_cells hres 2
  have d3 : W.cell? ⟨w.heap.size + 1, 3, none⟩ = some (.int .i64 0) := cell_of_cells hres 3
  have d4 : W.cell? ⟨w.heap.size + 1, 4, none⟩ = some (.string ⟨#[]⟩) := cell_of_cells hres 4
  have d5 : W.cell? ⟨w.heap.size + 1, 5, none⟩ = some (.int .i64 0) := cell_of_cells hres 5
  have d6 : W.cell? ⟨w.heap.size + 1, 6, none⟩ = some (.int .i64 0) := cell_of_cells hres 6
  have d7 : W.cell? ⟨w.heap.size + 1, 7, none⟩ = some (.slice none 0 0) := cell_of_cells hres 7
  have d8 : W.cell? ⟨w.heap.size + 1, 8, none⟩ = some (.int .i64 0) := cell_of_cells hres 8
  have d9 : W.cell? ⟨w.heap.size + 1, 9, none⟩ = some (.slice none 0 0) := cell_of_cells hres 9
  have f0 : W.frozen? ⟨w.heap.size + 1, 0, none⟩ = false := frozen_of_cells hres 0
  have f1 : W.frozen? ⟨w.heap.size + 1, 1, none⟩ = false := frozen_of_cells hres 1
  have f2 : W.frozen? ⟨w.heap.size + 1, 2, none⟩ = false := frozen_of_cells hres 2
  have f3 : W.frozen? ⟨w.heap.size + 1, 3, none⟩ = false := frozen_of_cells hres 3
  have f4 : W.frozen? ⟨w.heap.size + 1, 4, none⟩ = false := frozen_of_cells hres 4
  have f5 : W.frozen? ⟨w.heap.size + 1, 5, none⟩ = false := frozen_of_cells hres 5
  have f6 : W.frozen? ⟨w.heap.size + 1, 6, none⟩ = false := frozen_of_cells hres 6
  have f7 : W.frozen? ⟨w.heap.size + 1, 7, none⟩ = false := frozen_of_cells hres 7
  have f8 : W.frozen? ⟨w.heap.size + 1, 8, none⟩ = false := frozen_of_cells hres 8
  have f9 : W.frozen? ⟨w.heap.size + 1, 9, none⟩ = false := frozen_of_cells hres 9
  go_wp2_with fail
  refine bodyPost_ret (results_cell_row rfl _ _ (w.heap.size + 1) 36 #[.int .i64 x.kind, .int .i64 x.level, .slice s.ea (min s.el 70) s.ec, .int .i64 x.hb, .string (cutN 260 x.hr), .int .i64 x.cr, .int .i64 x.cc, .slice s.ca (min s.cl 200) s.cc, .int .i64 x.gf, .slice s.ga (min s.gl 300) s.gc] (0, 0) _ rfl (set10 hres) und_sketch rfl size_sketch) rfl ⟨rfl, ((((((((((hbel.setCell (p := ⟨w.heap.size + 1, 0, none⟩) (Nat.le_succ _) _).setCell (p := ⟨w.heap.size + 1, 1, none⟩) (Nat.le_succ _) _).setCell (p := ⟨w.heap.size + 1, 2, none⟩) (Nat.le_succ _) _).setCell (p := ⟨w.heap.size + 1, 3, none⟩) (Nat.le_succ _) _).setCell (p := ⟨w.heap.size + 1, 4, none⟩) (Nat.le_succ _) _).setCell (p := ⟨w.heap.size + 1, 5, none⟩) (Nat.le_succ _) _).setCell (p := ⟨w.heap.size + 1, 6, none⟩) (Nat.le_succ _) _).setCell (p := ⟨w.heap.size + 1, 7, none⟩) (Nat.le_succ _) _).setCell (p := ⟨w.heap.size + 1, 8, none⟩) (Nat.le_succ _) _).setCell (p := ⟨w.heap.size + 1, 9, none⟩) (Nat.le_succ _) _)⟩
end Go.Proofs.YtmkefodaibmkhaaGreatDoor

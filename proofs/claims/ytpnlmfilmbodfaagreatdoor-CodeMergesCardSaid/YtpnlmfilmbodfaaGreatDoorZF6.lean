/- aviarylaw06 .. 09: Few. -/
import Derived.Test.YtpnlmfilmbodfaaGreatDoorZXK
import Derived.Deep.RegionHeld3
import Derived.StillTactics
import Derived.Laws.Rows
import Derived.Lib.MinMax
namespace Go.Proofs.YtpnlmfilmbodfaaGreatDoor
open Go Go.RowKit
theorem und_exact : Tryz.prog.underlying 24 = some (.struct (Tryz.prog.fieldsOf 24)) := by kernel_rfl
theorem size_exact : (Tryz.prog.info? 24).map (·.size) = some 1 := by kernel_rfl
theorem und_hll : Tryz.prog.underlying 26 = some (.struct (Tryz.prog.fieldsOf 26)) := by kernel_rfl
theorem size_hll : (Tryz.prog.info? 26).map (·.size) = some 2 := by kernel_rfl
theorem und_cms : Tryz.prog.underlying 28 = some (.struct (Tryz.prog.fieldsOf 28)) := by kernel_rfl
theorem size_cms : (Tryz.prog.info? 28).map (·.size) = some 3 := by kernel_rfl
theorem und_hist : Tryz.prog.underlying 31 = some (.struct (Tryz.prog.fieldsOf 31)) := by kernel_rfl
theorem size_hist : (Tryz.prog.info? 31).map (·.size) = some 2 := by kernel_rfl
theorem set_cells3 {W : World} {B : Nat} {x y z u v q : Value} {t : TypeId} (h : W.heap[B]? = some (.cells #[x, y, z] t (0, 0))) : (((W.setCell ⟨B, 0, none⟩ u).setCell ⟨B, 1, none⟩ v).setCell ⟨B, 2, none⟩ q).heap[B]? = some (.cells #[u, v, q] t (0, 0)) := hSk (hSk (hSk h u) v) q
theorem min_nat (len n : Nat) : (min (len : Int) n).toNat = min len n := by omega
set_option maxRecDepth 100000 in
set_option maxHeartbeats 1000000 in
theorem few06_any (a : Option Addr) (len cap : Nat) (w : World) (hc : len ≤ cap) :
    Calls Tryz.prog 64 #[.agg #[.slice a len cap]] w fun e w' => e = .returned (.agg #[.slice a (min len 70) cap]) ∧ Below w.heap.size w w' := by
  obtain ⟨W0, hW0, hX0, hB0, hs0⟩ := boxes1 w #[.slice a len cap] 24
  have c0 : W0.cell? ⟨w.heap.size, 0, none⟩ = some (.slice a len cap) := cCc hX0 0
  have HM := Lib.hid (min_nat len 70)
  go_enter Tryz.func64, Tryz.ntmps64
  go_wp2_with fail
  refine bodyPost_ret (results_cell_row rfl _ _ (w.heap.size + 1) 24 #[.slice a (min (len : Int) 70).toNat cap] (0, 0) _ rfl (by rw [← hs0]; exact World.alloc_heap_new _ _) und_exact rfl size_exact) rfl ⟨by rw [← HM.out]; rfl, hB0.alloc hB0.size _⟩
set_option maxRecDepth 100000 in
set_option maxHeartbeats 1000000 in
theorem few07_any (b : Int) (s : ByteArray) (w : World) :
    Calls Tryz.prog 65 #[.agg #[.int .i64 b, .string s]] w fun e w' => e = .returned (.agg #[.int .i64 b, .string (cutN 260 s)]) ∧ Below w.heap.size w w' := by
  obtain ⟨W0, hW0, hX0, hX1, hB0, hs0⟩ := boxes2 w #[.int .i64 b, .string s] 26 #[.int .i64 0, .string ⟨#[]⟩] 26
  have c0 : W0.cell? ⟨w.heap.size, 0, none⟩ = some (.int .i64 b) := cCc hX0 0
  have c1 : W0.cell? ⟨w.heap.size, 1, none⟩ = some (.string s) := cCc hX0 1
  have d0 : W0.cell? ⟨w.heap.size + 1, 0, none⟩ = some (.int .i64 0) := cCc hX1 0
  have f0 : W0.frozen? ⟨w.heap.size + 1, 0, none⟩ = false := Lib.frozen_of_heap hX1 0
  have d1 : W0.cell? ⟨w.heap.size + 1, 1, none⟩ = some (.string ⟨#[]⟩) := cCc hX1 1
  have f1 : W0.frozen? ⟨w.heap.size + 1, 1, none⟩ = false := Lib.frozen_of_heap hX1 1
  have m1 : 0 ≤ min (s.size : Int) 260 := by omega
  have m2 : min (s.size : Int) 260 ≤ s.size := by omega
  go_enter Tryz.func65, Tryz.ntmps65
  go_wp2_with fail
  go_region
  go_wp2_with fail
  refine bodyPost_ret (results_cell_row rfl _ _ (w.heap.size + 1) 26 #[.int .i64 b, .string (s.extract 0 (min (s.size : Int) 260).toNat)] (0, 0) _ rfl (set_cells2 hX1) und_hll rfl size_hll) rfl ⟨rfl, Below.drew (((hB0.setCell (p := ⟨w.heap.size + 1, 0, none⟩) (Nat.le_succ _) _).setCell (p := ⟨w.heap.size + 1, 1, none⟩) (Nat.le_succ _) _))⟩
set_option maxRecDepth 100000 in
set_option maxHeartbeats 1000000 in
theorem few08_any (r c : Int) (a : Option Addr) (len cap : Nat) (w : World) (hc : len ≤ cap) :
    Calls Tryz.prog 66 #[.agg #[.int .i64 r, .int .i64 c, .slice a len cap]] w fun e w' => e = .returned (.agg #[.int .i64 r, .int .i64 c, .slice a (min len 200) cap]) ∧ Below w.heap.size w w' := by
  obtain ⟨W0, hW0, hX0, hX1, hB0, hs0⟩ := boxes2 w #[.int .i64 r, .int .i64 c, .slice a len cap] 28 #[.int .i64 0, .int .i64 0, .slice none 0 0] 28
  have c0 : W0.cell? ⟨w.heap.size, 0, none⟩ = some (.int .i64 r) := cCc hX0 0
  have c1 : W0.cell? ⟨w.heap.size, 1, none⟩ = some (.int .i64 c) := cCc hX0 1
  have c2 : W0.cell? ⟨w.heap.size, 2, none⟩ = some (.slice a len cap) := cCc hX0 2
  have d0 : W0.cell? ⟨w.heap.size + 1, 0, none⟩ = some (.int .i64 0) := cCc hX1 0
  have f0 : W0.frozen? ⟨w.heap.size + 1, 0, none⟩ = false := Lib.frozen_of_heap hX1 0
  have d1 : W0.cell? ⟨w.heap.size + 1, 1, none⟩ = some (.int .i64 0) := cCc hX1 1
  have f1 : W0.frozen? ⟨w.heap.size + 1, 1, none⟩ = false := Lib.frozen_of_heap hX1 1
  have d2 : W0.cell? ⟨w.heap.size + 1, 2, none⟩ = some (.slice none 0 0) := cCc hX1 2
  have f2 : W0.frozen? ⟨w.heap.size + 1, 2, none⟩ = false := Lib.frozen_of_heap hX1 2
  have m1 : 0 ≤ min (len : Int) 200 := by omega
  have m2 : min (len : Int) 200 ≤ cap := by omega
  have HM := Lib.hid (min_nat len 200)
  go_enter Tryz.func66, Tryz.ntmps66
  go_wp2_with fail
  go_region
  go_wp2_with fail
  refine bodyPost_ret (results_cell_row rfl _ _ (w.heap.size + 1) 28 #[.int .i64 r, .int .i64 c, .slice a (min (len : Int) 200).toNat cap] (0, 0) _ rfl (set_cells3 hX1) und_cms rfl size_cms) rfl ⟨by rw [← HM.out]; rfl, Below.drew ((((hB0.setCell (p := ⟨w.heap.size + 1, 0, none⟩) (Nat.le_succ _) _).setCell (p := ⟨w.heap.size + 1, 1, none⟩) (Nat.le_succ _) _).setCell (p := ⟨w.heap.size + 1, 2, none⟩) (Nat.le_succ _) _))⟩
set_option maxRecDepth 100000 in
set_option maxHeartbeats 1000000 in
theorem few09_any (f : Int) (a : Option Addr) (len cap : Nat) (w : World) (hc : len ≤ cap) :
    Calls Tryz.prog 67 #[.agg #[.int .i64 f, .slice a len cap]] w fun e w' => e = .returned (.agg #[.int .i64 f, .slice a (min len 300) cap]) ∧ Below w.heap.size w w' := by
  obtain ⟨W0, hW0, hX0, hX1, hB0, hs0⟩ := boxes2 w #[.int .i64 f, .slice a len cap] 31 #[.int .i64 0, .slice none 0 0] 31
  have c0 : W0.cell? ⟨w.heap.size, 0, none⟩ = some (.int .i64 f) := cCc hX0 0
  have c1 : W0.cell? ⟨w.heap.size, 1, none⟩ = some (.slice a len cap) := cCc hX0 1
  have d0 : W0.cell? ⟨w.heap.size + 1, 0, none⟩ = some (.int .i64 0) := cCc hX1 0
  have f0 : W0.frozen? ⟨w.heap.size + 1, 0, none⟩ = false := Lib.frozen_of_heap hX1 0
  have d1 : W0.cell? ⟨w.heap.size + 1, 1, none⟩ = some (.slice none 0 0) := cCc hX1 1
  have f1 : W0.frozen? ⟨w.heap.size + 1, 1, none⟩ = false := Lib.frozen_of_heap hX1 1
  have m1 : 0 ≤ min (len : Int) 300 := by omega
  have m2 : min (len : Int) 300 ≤ cap := by omega
  have HM := Lib.hid (min_nat len 300)
  go_enter Tryz.func67, Tryz.ntmps67
  go_wp2_with fail
  go_region
  go_wp2_with fail
  refine bodyPost_ret (results_cell_row rfl _ _ (w.heap.size + 1) 31 #[.int .i64 f, .slice a (min (len : Int) 300).toNat cap] (0, 0) _ rfl (set_cells2 hX1) und_hist rfl size_hist) rfl ⟨by rw [← HM.out]; rfl, Below.drew (((hB0.setCell (p := ⟨w.heap.size + 1, 0, none⟩) (Nat.le_succ _) _).setCell (p := ⟨w.heap.size + 1, 1, none⟩) (Nat.le_succ _) _))⟩
end Go.Proofs.YtpnlmfilmbodfaaGreatDoor

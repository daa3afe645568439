/- Package ladder: Cost. aviarylaw06 .. 09: Few. -/
import Derived.Test.YtpnlmfilmbodfaaGreatDoorVXK
import Derived.Deep.RegionHeld3
import Derived.StillTactics
import Derived.Laws.Rows
import Derived.Lib.MinMax
namespace Go.Proofs.YtpnlmfilmbodfaaGreatDoor
open Go Go.RowKit
theorem cost_num (a : Option Addr) (n c : Nat) (w : World) (hn : n < 2147483648) : Calls Tryz.prog 278 #[.agg #[.slice a n c]] w fun e w' => e = .returned (.int .i64 (8 * n)) ∧ Below w.heap.size w w' := by
  go_enter Tryz.func278, Tryz.ntmps278
  go_wp2
  go_ret
  exact ⟨rfl, (Below.refl _ w).alloc (Nat.le_refl _) _⟩
theorem cost_reg (b : Int) (r : ByteArray) (w : World) : Calls Tryz.prog 307 #[.agg #[.int .i64 b, .string r]] w fun e w' => e = .returned (.int .i64 r.size) ∧ Below w.heap.size w w' := by
  go_enter Tryz.func307, Tryz.ntmps307
  go_wp2
  go_ret
  exact ⟨rfl, (Below.refl _ w).alloc (Nat.le_refl _) _⟩
theorem cost_cnt (r k : Int) (a : Option Addr) (n c : Nat) (w : World) (hn : n < 2147483648) : Calls Tryz.prog 317 #[.agg #[.int .i64 r, .int .i64 k, .slice a n c]] w fun e w' => e = .returned (.int .i64 (8 * n)) ∧ Below w.heap.size w w' := by
  go_enter Tryz.func317, Tryz.ntmps317
  go_wp2
  go_ret
  exact ⟨rfl, (Below.refl _ w).alloc (Nat.le_refl _) _⟩
theorem cost_bkt (f : Int) (a : Option Addr) (n c : Nat) (w : World) (hn : n < 2147483648) : Calls Tryz.prog 336 #[.agg #[.int .i64 f, .slice a n c]] w fun e w' => e = .returned (.int .i64 (16 * n)) ∧ Below w.heap.size w w' := by
  go_enter Tryz.func336, Tryz.ntmps336
  go_wp2
  go_ret
  exact ⟨rfl, (Below.refl _ w).alloc (Nat.le_refl _) _⟩
theorem meth_cost_num (a : Option Addr) (n c : Nat) (w : World) : (method 544 246 (.agg #[.slice a n c]) "aviary/ladder.cost").run Tryz.prog w = .ok (278, .agg #[.slice a n c]) w := by kernel_rfl
theorem meth_cost_reg (b : Int) (r : ByteArray) (w : World) : (method 544 248 (.agg #[.int .i64 b, .string r]) "aviary/ladder.cost").run Tryz.prog w = .ok (307, .agg #[.int .i64 b, .string r]) w := by kernel_rfl
theorem meth_cost_cnt (r k : Int) (a : Option Addr) (n c : Nat) (w : World) : (method 544 249 (.agg #[.int .i64 r, .int .i64 k, .slice a n c]) "aviary/ladder.cost").run Tryz.prog w = .ok (317, .agg #[.int .i64 r, .int .i64 k, .slice a n c]) w := by kernel_rfl
theorem meth_cost_bkt (f : Int) (a : Option Addr) (n c : Nat) (w : World) : (method 544 251 (.agg #[.int .i64 f, .slice a n c]) "aviary/ladder.cost").run Tryz.prog w = .ok (336, .agg #[.int .i64 f, .slice a n c]) w := by kernel_rfl
set_option maxRecDepth 100000 in
set_option maxHeartbeats 1000000 in
theorem Cost_num (x : Sk) (s : SS) (w : World) (hx : s.At w.heap.size w x) (hs : s.Short) (hf : x.fit) (hok : skOk x = true) (hb : skBody x s = .iface 246 (.agg #[.slice s.ea s.el s.ec])) :
    Calls Tryz.prog 33 #[.agg #[.int .i64 x.kind, .int .i64 x.level, .slice s.ea s.el s.ec, .int .i64 x.hb, .string x.hr, .int .i64 x.cr, .int .i64 x.cc, .slice s.ca s.cl s.cc, .int .i64 x.gf, .slice s.ga s.gl s.gc]] w fun e w' => e = .returned (.int .i64 (8 * (s.el : Int) + 16)) ∧ Below w.heap.size w w' := by
  obtain ⟨W0, hW0, hX0, hB0, hs0⟩ := boxes1 w #[.int .i64 x.kind, .int .i64 x.level, .slice s.ea s.el s.ec, .int .i64 x.hb, .string x.hr, .int .i64 x.cr, .int .i64 x.cc, .slice s.ca s.cl s.cc, .int .i64 x.gf, .slice s.ga s.gl s.gc] 33
  have c0 : W0.cell? ⟨w.heap.size, 0, none⟩ = some (.int .i64 x.kind) := cCc hX0 0
  have c1 : W0.cell? ⟨w.heap.size, 1, none⟩ = some (.int .i64 x.level) := cCc hX0 1
  have c2 : W0.cell? ⟨w.heap.size, 2, none⟩ = some (.slice s.ea s.el s.ec) := cCc hX0 2
  have c3 : W0.cell? ⟨w.heap.size, 3, none⟩ = some (.int .i64 x.hb) := cCc hX0 3
  have c4 : W0.cell? ⟨w.heap.size, 4, none⟩ = some (.string x.hr) := cCc hX0 4
  have c5 : W0.cell? ⟨w.heap.size, 5, none⟩ = some (.int .i64 x.cr) := cCc hX0 5
  have c6 : W0.cell? ⟨w.heap.size, 6, none⟩ = some (.int .i64 x.cc) := cCc hX0 6
  have c7 : W0.cell? ⟨w.heap.size, 7, none⟩ = some (.slice s.ca s.cl s.cc) := cCc hX0 7
  have c8 : W0.cell? ⟨w.heap.size, 8, none⟩ = some (.int .i64 x.gf) := cCc hX0 8
  have c9 : W0.cell? ⟨w.heap.size, 9, none⟩ = some (.slice s.ga s.gl s.gc) := cCc hX0 9
  have hO := open_any x s W0 (hx.go hB0) hs hf
  rw [hok, hb] at hO
  obtain ⟨hs1, hs2, hs3⟩ := hs
  clear hx hX0 hs0 hok hb
  go_enter Tryz.func33, Tryz.ntmps33
  go_wp2_with fail
  refine hO.mono ?_
  rintro e w1 ⟨he, hb1⟩
  obtain rfl := (show e = _ from he)
  clear he hW0 hO c0 c1 c2 c3 c4 c5 c6 c7 c8 c9
  have hB1 := hB0.trans (hb1.mono hB0.size)
  have hm := meth_cost_num s.ea s.el s.ec
  obtain ⟨W2, hW2, -, hB2, -⟩ := boxes1 w1 #[.iface 246 (.agg #[.slice s.ea s.el s.ec]), .int .i64 x.kind, .int .i64 x.level] 88
  have HW := Lib.hid hW2
  clear hW2
  go_wp2_with fail
  rw [HW.out]
  refine (cost_num s.ea s.el s.ec W2 hs1).mono ?_
  rintro e w3 ⟨rfl, hb3⟩
  clear HW hm
  go_wp2_with fail
  go_ret
  exact ⟨rfl, hB1.trans ((hB2.trans (hb3.mono hB2.size)).mono hB1.size)⟩
set_option maxRecDepth 100000 in
set_option maxHeartbeats 1000000 in
theorem Cost_reg (x : Sk) (s : SS) (w : World) (hx : s.At w.heap.size w x) (hs : s.Short) (hf : x.fit) (hr : x.hr.size < 2147483648) (hok : skOk x = true) (hb : skBody x s = .iface 248 (.agg #[.int .i64 x.hb, .string x.hr])) :
    Calls Tryz.prog 33 #[.agg #[.int .i64 x.kind, .int .i64 x.level, .slice s.ea s.el s.ec, .int .i64 x.hb, .string x.hr, .int .i64 x.cr, .int .i64 x.cc, .slice s.ca s.cl s.cc, .int .i64 x.gf, .slice s.ga s.gl s.gc]] w fun e w' => e = .returned (.int .i64 ((x.hr.size : Int) + 16)) ∧ Below w.heap.size w w' := by
  obtain ⟨W0, hW0, hX0, hB0, hs0⟩ := boxes1 w #[.int .i64 x.kind, .int .i64 x.level, .slice s.ea s.el s.ec, .int .i64 x.hb, .string x.hr, .int .i64 x.cr, .int .i64 x.cc, .slice s.ca s.cl s.cc, .int .i64 x.gf, .slice s.ga s.gl s.gc] 33
  have c0 : W0.cell? ⟨w.heap.size, 0, none⟩ = some (.int .i64 x.kind) := cCc hX0 0
  have c1 : W0.cell? ⟨w.heap.size, 1, none⟩ = some (.int .i64 x.level) := cCc hX0 1
  have c2 : W0.cell? ⟨w.heap.size, 2, none⟩ = some (.slice s.ea s.el s.ec) := cCc hX0 2
  have c3 : W0.cell? ⟨w.heap.size, 3, none⟩ = some (.int .i64 x.hb) := cCc hX0 3
  have c4 : W0.cell? ⟨w.heap.size, 4, none⟩ = some (.string x.hr) := cCc hX0 4
  have c5 : W0.cell? ⟨w.heap.size, 5, none⟩ = some (.int .i64 x.cr) := cCc hX0 5
  have c6 : W0.cell? ⟨w.heap.size, 6, none⟩ = some (.int .i64 x.cc) := cCc hX0 6
  have c7 : W0.cell? ⟨w.heap.size, 7, none⟩ = some (.slice s.ca s.cl s.cc) := cCc hX0 7
  have c8 : W0.cell? ⟨w.heap.size, 8, none⟩ = some (.int .i64 x.gf) := cCc hX0 8
  have c9 : W0.cell? ⟨w.heap.size, 9, none⟩ = some (.slice s.ga s.gl s.gc) := cCc hX0 9
  have hO := open_any x s W0 (hx.go hB0) hs hf
  rw [hok, hb] at hO
  obtain ⟨hs1, hs2, hs3⟩ := hs
  clear hx hX0 hs0 hok hb
  go_enter Tryz.func33, Tryz.ntmps33
  go_wp2_with fail
  refine hO.mono ?_
  rintro e w1 ⟨he, hb1⟩
  obtain rfl := (show e = _ from he)
  clear he hW0 hO c0 c1 c2 c3 c4 c5 c6 c7 c8 c9
  have hB1 := hB0.trans (hb1.mono hB0.size)
  have hm := meth_cost_reg x.hb x.hr
  obtain ⟨W2, hW2, -, hB2, -⟩ := boxes1 w1 #[.iface 248 (.agg #[.int .i64 x.hb, .string x.hr]), .int .i64 x.kind, .int .i64 x.level] 88
  have HW := Lib.hid hW2
  clear hW2
  go_wp2_with fail
  rw [HW.out]
  refine (cost_reg x.hb x.hr W2).mono ?_
  rintro e w3 ⟨rfl, hb3⟩
  clear HW hm
  go_wp2_with fail
  go_ret
  exact ⟨rfl, hB1.trans ((hB2.trans (hb3.mono hB2.size)).mono hB1.size)⟩
set_option maxRecDepth 100000 in
set_option maxHeartbeats 1000000 in
theorem Cost_cnt (x : Sk) (s : SS) (w : World) (hx : s.At w.heap.size w x) (hs : s.Short) (hf : x.fit) (hok : skOk x = true) (hb : skBody x s = .iface 249 (.agg #[.int .i64 x.cr, .int .i64 x.cc, .slice s.ca s.cl s.cc])) :
    Calls Tryz.prog 33 #[.agg #[.int .i64 x.kind, .int .i64 x.level, .slice s.ea s.el s.ec, .int .i64 x.hb, .string x.hr, .int .i64 x.cr, .int .i64 x.cc, .slice s.ca s.cl s.cc, .int .i64 x.gf, .slice s.ga s.gl s.gc]] w fun e w' => e = .returned (.int .i64 (8 * (s.cl : Int) + 16)) ∧ Below w.heap.size w w' := by
  obtain ⟨W0, hW0, hX0, hB0, hs0⟩ := boxes1 w #[.int .i64 x.kind, .int .i64 x.level, .slice s.ea s.el s.ec, .int .i64 x.hb, .string x.hr, .int .i64 x.cr, .int .i64 x.cc, .slice s.ca s.cl s.cc, .int .i64 x.gf, .slice s.ga s.gl s.gc] 33
  have c0 : W0.cell? ⟨w.heap.size, 0, none⟩ = some (.int .i64 x.kind) := cCc hX0 0
  have c1 : W0.cell? ⟨w.heap.size, 1, none⟩ = some (.int .i64 x.level) := cCc hX0 1
  have c2 : W0.cell? ⟨w.heap.size, 2, none⟩ = some (.slice s.ea s.el s.ec) := cCc hX0 2
  have c3 : W0.cell? ⟨w.heap.size, 3, none⟩ = some (.int .i64 x.hb) := cCc hX0 3
  have c4 : W0.cell? ⟨w.heap.size, 4, none⟩ = some (.string x.hr) := cCc hX0 4
  have c5 : W0.cell? ⟨w.heap.size, 5, none⟩ = some (.int .i64 x.cr) := cCc hX0 5
  have c6 : W0.cell? ⟨w.heap.size, 6, none⟩ = some (.int .i64 x.cc) := cCc hX0 6
  have c7 : W0.cell? ⟨w.heap.size, 7, none⟩ = some (.slice s.ca s.cl s.cc) := cCc hX0 7
  have c8 : W0.cell? ⟨w.heap.size, 8, none⟩ = some (.int .i64 x.gf) := cCc hX0 8
  have c9 : W0.cell? ⟨w.heap.size, 9, none⟩ = some (.slice s.ga s.gl s.gc) := cCc hX0 9
  have hO := open_any x s W0 (hx.go hB0) hs hf
  rw [hok, hb] at hO
  obtain ⟨hs1, hs2, hs3⟩ := hs
  clear hx hX0 hs0 hok hb
  go_enter Tryz.func33, Tryz.ntmps33
  go_wp2_with fail
  refine hO.mono ?_
  rintro e w1 ⟨he, hb1⟩
  obtain rfl := (show e = _ from he)
  clear he hW0 hO c0 c1 c2 c3 c4 c5 c6 c7 c8 c9
  have hB1 := hB0.trans (hb1.mono hB0.size)
  have hm := meth_cost_cnt x.cr x.cc s.ca s.cl s.cc
  obtain ⟨W2, hW2, -, hB2, -⟩ := boxes1 w1 #[.iface 249 (.agg #[.int .i64 x.cr, .int .i64 x.cc, .slice s.ca s.cl s.cc]), .int .i64 x.kind, .int .i64 x.level] 88
  have HW := Lib.hid hW2
  clear hW2
  go_wp2_with fail
  rw [HW.out]
  refine (cost_cnt x.cr x.cc s.ca s.cl s.cc W2 hs2).mono ?_
  rintro e w3 ⟨rfl, hb3⟩
  clear HW hm
  go_wp2_with fail
  go_ret
  exact ⟨rfl, hB1.trans ((hB2.trans (hb3.mono hB2.size)).mono hB1.size)⟩
set_option maxRecDepth 100000 in
set_option maxHeartbeats 1000000 in
theorem Cost_bkt (x : Sk) (s : SS) (w : World) (hx : s.At w.heap.size w x) (hs : s.Short) (hf : x.fit) (hok : skOk x = true) (hb : skBody x s = .iface 251 (.agg #[.int .i64 x.gf, .slice s.ga s.gl s.gc])) :
    Calls Tryz.prog 33 #[.agg #[.int .i64 x.kind, .int .i64 x.level, .slice s.ea s.el s.ec, .int .i64 x.hb, .string x.hr, .int .i64 x.cr, .int .i64 x.cc, .slice s.ca s.cl s.cc, .int .i64 x.gf, .slice s.ga s.gl s.gc]] w fun e w' => e = .returned (.int .i64 (16 * (s.gl : Int) + 16)) ∧ Below w.heap.size w w' := by
  obtain ⟨W0, hW0, hX0, hB0, hs0⟩ := boxes1 w #[.int .i64 x.kind, .int .i64 x.level, .slice s.ea s.el s.ec, .int .i64 x.hb, .string x.hr, .int .i64 x.cr, .int .i64 x.cc, .slice s.ca s.cl s.cc, .int .i64 x.gf, .slice s.ga s.gl s.gc] 33
  have c0 : W0.cell? ⟨w.heap.size, 0, none⟩ = some (.int .i64 x.kind) := cCc hX0 0
  have c1 : W0.cell? ⟨w.heap.size, 1, none⟩ = some (.int .i64 x.level) := cCc hX0 1
  have c2 : W0.cell? ⟨w.heap.size, 2, none⟩ = some (.slice s.ea s.el s.ec) := cCc hX0 2
  have c3 : W0.cell? ⟨w.heap.size, 3, none⟩ = some (.int .i64 x.hb) := cCc hX0 3
  have c4 : W0.cell? ⟨w.heap.size, 4, none⟩ = some (.string x.hr) := cCc hX0 4
  have c5 : W0.cell? ⟨w.heap.size, 5, none⟩ = some (.int .i64 x.cr) := cCc hX0 5
  have c6 : W0.cell? ⟨w.heap.size, 6, none⟩ = some (.int .i64 x.cc) := cCc hX0 6
  have c7 : W0.cell? ⟨w.heap.size, 7, none⟩ = some (.slice s.ca s.cl s.cc) := cCc hX0 7
  have c8 : W0.cell? ⟨w.heap.size, 8, none⟩ = some (.int .i64 x.gf) := cCc hX0 8
  have c9 : W0.cell? ⟨w.heap.size, 9, none⟩ = some (.slice s.ga s.gl s.gc) := cCc hX0 9
  have hO := open_any x s W0 (hx.go hB0) hs hf
  rw [hok, hb] at hO
  obtain ⟨hs1, hs2, hs3⟩ := hs
  clear hx hX0 hs0 hok hb
  go_enter Tryz.func33, Tryz.ntmps33
  go_wp2_with fail
  refine hO.mono ?_
  rintro e w1 ⟨he, hb1⟩
  obtain rfl := (show e = _ from he)
  clear he hW0 hO c0 c1 c2 c3 c4 c5 c6 c7 c8 c9
  have hB1 := hB0.trans (hb1.mono hB0.size)
  have hm := meth_cost_bkt x.gf s.ga s.gl s.gc
  obtain ⟨W2, hW2, -, hB2, -⟩ := boxes1 w1 #[.iface 251 (.agg #[.int .i64 x.gf, .slice s.ga s.gl s.gc]), .int .i64 x.kind, .int .i64 x.level] 88
  have HW := Lib.hid hW2
  clear hW2
  go_wp2_with fail
  rw [HW.out]
  refine (cost_bkt x.gf s.ga s.gl s.gc W2 hs3).mono ?_
  rintro e w3 ⟨rfl, hb3⟩
  clear HW hm
  go_wp2_with fail
  go_ret
  exact ⟨rfl, hB1.trans ((hB2.trans (hb3.mono hB2.size)).mono hB1.size)⟩
def costOf (x : Sk) : Int := if skOk x then (if x.kind == 1 then (if x.level == 0 then 8 * (x.e.length : Int) else (x.hr.size : Int)) else if x.kind == 2 then 8 * (x.cl.length : Int) else 16 * (x.gl.length : Int)) + 16 else 0
set_option maxRecDepth 100000 in
set_option maxHeartbeats 1000000 in
theorem ladder_Cost_any (x : Sk) (s : SS) (w : World) (hx : s.At w.heap.size w x) (hs : s.Short) (hf : x.fit) (hr : x.hr.size < 2147483648) :
    Calls Tryz.prog 33 #[.agg #[.int .i64 x.kind, .int .i64 x.level, .slice s.ea s.el s.ec, .int .i64 x.hb, .string x.hr, .int .i64 x.cr, .int .i64 x.cc, .slice s.ca s.cl s.cc, .int .i64 x.gf, .slice s.ga s.gl s.gc]] w fun e w' => e = .returned (.int .i64 (costOf x)) ∧ Below w.heap.size w w' := by
  cases hok : skOk x with
  | true =>
    cases k1 : (x.kind == 1) with
    | true =>
      cases l0 : (x.level == 0) with
      | true =>
        have e : costOf x = 8 * (s.el : Int) + 16 := by unfold costOf; rw [hok, k1, l0, hx.e.1.1]; rfl
        rw [e]
        exact Cost_num x s w hx hs hf hok (by unfold skBody; rw [k1, l0]; rfl)
      | false =>
        have e : costOf x = (x.hr.size : Int) + 16 := by unfold costOf; rw [hok, k1, l0]; rfl
        rw [e]
        exact Cost_reg x s w hx hs hf hr hok (by unfold skBody; rw [k1, l0]; rfl)
    | false =>
      cases k2 : (x.kind == 2) with
      | true =>
        have e : costOf x = 8 * (s.cl : Int) + 16 := by unfold costOf; rw [hok, k1, k2, hx.c.1.1]; rfl
        rw [e]
        exact Cost_cnt x s w hx hs hf hok (by unfold skBody; rw [k1, k2]; rfl)
      | false =>
        have e : costOf x = 16 * (s.gl : Int) + 16 := by unfold costOf; rw [hok, k1, k2, hx.g.1.1]; rfl
        rw [e]
        exact Cost_bkt x s w hx hs hf hok (by unfold skBody; rw [k1, k2]; rfl)
  | false =>
    have HC : Hid (costOf x = 0) := by unfold Hid costOf; rw [hok]; rfl
    obtain ⟨W0, hW0, hX0, hB0, hs0⟩ := boxes1 w #[.int .i64 x.kind, .int .i64 x.level, .slice s.ea s.el s.ec, .int .i64 x.hb, .string x.hr, .int .i64 x.cr, .int .i64 x.cc, .slice s.ca s.cl s.cc, .int .i64 x.gf, .slice s.ga s.gl s.gc] 33
    have c0 : W0.cell? ⟨w.heap.size, 0, none⟩ = some (.int .i64 x.kind) := cCc hX0 0
    have c1 : W0.cell? ⟨w.heap.size, 1, none⟩ = some (.int .i64 x.level) := cCc hX0 1
    have c2 : W0.cell? ⟨w.heap.size, 2, none⟩ = some (.slice s.ea s.el s.ec) := cCc hX0 2
    have c3 : W0.cell? ⟨w.heap.size, 3, none⟩ = some (.int .i64 x.hb) := cCc hX0 3
    have c4 : W0.cell? ⟨w.heap.size, 4, none⟩ = some (.string x.hr) := cCc hX0 4
    have c5 : W0.cell? ⟨w.heap.size, 5, none⟩ = some (.int .i64 x.cr) := cCc hX0 5
    have c6 : W0.cell? ⟨w.heap.size, 6, none⟩ = some (.int .i64 x.cc) := cCc hX0 6
    have c7 : W0.cell? ⟨w.heap.size, 7, none⟩ = some (.slice s.ca s.cl s.cc) := cCc hX0 7
    have c8 : W0.cell? ⟨w.heap.size, 8, none⟩ = some (.int .i64 x.gf) := cCc hX0 8
    have c9 : W0.cell? ⟨w.heap.size, 9, none⟩ = some (.slice s.ga s.gl s.gc) := cCc hX0 9
    have hO := open_any x s W0 (hx.go hB0) hs hf
    rw [hok] at hO
    clear hx hX0 hs0 hok
    go_enter Tryz.func33, Tryz.ntmps33
    go_wp2_with fail
    refine hO.mono ?_
    rintro e w1 ⟨he, hb1⟩
    obtain ⟨b, rfl, -, -⟩ := (show ∃ b, _ from he)
    clear hW0 hO c0 c1 c2 c3 c4 c5 c6 c7 c8 c9
    have hB1 := hB0.trans (hb1.mono hB0.size)
    go_wp2_with fail
    go_ret
    exact ⟨by rw [HC.out]; rfl, hB1.alloc hB1.size _⟩
end Go.Proofs.YtpnlmfilmbodfaaGreatDoor
namespace Go.Proofs.YtpnlmfilmbodfaaGreatDoor
open Go Go.RowKit
theorem und_exact : Tryz.prog.underlying 24 = some (.struct (Tryz.prog.fieldsOf 24)) := by kernel_rfl
theorem size_exact : (Tryz.prog.info? 24).map (·.size) = some 1 := by kernel_rfl
theorem und_hll : Tryz.prog.underlying 26 = some (.struct (Tryz.prog.fieldsOf 26)) := by kernel_rfl
theorem size_hll : (Tryz.prog.info? 26).map (·.size) = some 2 := by kernel_rfl
theorem und_cms : Tryz.prog.underlying 28 = some (.struct (Tryz.prog.fieldsOf 28)) := by kernel_rfl
theorem size_cms : (Tryz.prog.info? 28).map (·.size) = some 3 := by kernel_rfl
theorem und_hist : Tryz.prog.underlying 31 = some (.struct (Tryz.prog.fieldsOf 31)) := by kernel_rfl
theorem size_hist : (Tryz.prog.info? 31).map (·.size) = some 2 := by kernel_rfl
theorem set_cells3 {W : World} {B : Nat} {x y z u v q : Value} {t : TypeId} (h : W.heap[B]? = some (.cells #[x, y, z] t (0, 0))) : (((W.setCell ⟨B, 0, none⟩ u).setCell ⟨B, 1, none⟩ v).setCell ⟨B, 2, none⟩ q).heap[B]? = some (.cells #[u, v, q] t (0, 0)) := hSk (hSk (hSk h u) v) q
theorem min_nat (len n : Nat) : (min (len : Int) n).toNat = min len n := by omega
set_option maxRecDepth 100000 in
set_option maxHeartbeats 1000000 in
theorem few06_any (a : Option Addr) (len cap : Nat) (w : World) (hc : len ≤ cap) :
    Calls Tryz.prog 64 #[.agg #[.slice a len cap]] w fun e w' => e = .returned (.agg #[.slice a (min len 70) cap]) ∧ Below w.heap.size w w' := by
  obtain ⟨W0, hW0, hX0, hB0, hs0⟩ := boxes1 w #[.slice a len cap] 24
  have c0 : W0.cell? ⟨w.heap.size, 0, none⟩ = some (.slice a len cap) := cCc hX0 0
  have HM := Lib.hid (min_nat len 70)
  go_enter Tryz.func64, Tryz.ntmps64
  go_wp2_with fail
  refine bodyPost_ret (results_cell_row rfl _ _ (w.heap.size + 1) 24 #[.slice a (min (len : Int) 70).toNat cap] (0, 0) _ rfl (by rw [← hs0]; exact World.alloc_heap_new _ _) und_exact rfl size_exact) rfl ⟨by rw [← HM.out]; rfl, hB0.alloc hB0.size _⟩
set_option maxRecDepth 100000 in
set_option maxHeartbeats 1000000 in
theorem few07_any (b : Int) (s : ByteArray) (w : World) :
    Calls Tryz.prog 65 #[.agg #[.int .i64 b, .string s]] w fun e w' => e = .returned (.agg #[.int .i64 b, .string (cutN 260 s)]) ∧ Below w.heap.size w w' := by
  obtain ⟨W0, hW0, hX0, hX1, hB0, hs0⟩ := boxes2 w #[.int .i64 b, .string s] 26 #[.int .i64 0, .string ⟨#[]⟩] 26
  have c0 : W0.cell? ⟨w.heap.size, 0, none⟩ = some (.int .i64 b) := cCc hX0 0
  have c1 : W0.cell? ⟨w.heap.size, 1, none⟩ = some (.string s) := cCc hX0 1
  have d0 : W0.cell? ⟨w.heap.size + 1, 0, none⟩ = some (.int .i64 0) := cCc hX1 0
  have f0 : W0.frozen? ⟨w.heap.size + 1, 0, none⟩ = false := Lib.frozen_of_heap hX1 0
  have d1 : W0.cell? ⟨w.heap.size + 1, 1, none⟩ = some (.string ⟨#[]⟩) := cCc hX1 1
  have f1 : W0.frozen? ⟨w.heap.size + 1, 1, none⟩ = false := Lib.frozen_of_heap hX1 1
  have m1 : 0 ≤ min (s.size : Int) 260 := by omega
  have m2 : min (s.size : Int) 260 ≤ s.size := by omega
  go_enter Tryz.func65, Tryz.ntmps65
  go_wp2_with fail
  go_region
  go_wp2_with fail
  refine bodyPost_ret (results_cell_row rfl _ _ (w.heap.size + 1) 26 #[.int .i64 b, .string (s.extract 0 (min (s.size : Int) 260).toNat)] (0, 0) _ rfl (set_cells2 hX1) und_hll rfl size_hll) rfl ⟨rfl, Below.drew (((hB0.setCell (p := ⟨w.heap.size + 1, 0, none⟩) (Nat.le_succ _) _).setCell (p := ⟨w.heap.size + 1, 1, none⟩) (Nat.le_succ _) _))⟩
set_option maxRecDepth 100000 in
set_option maxHeartbeats 1000000 in
theorem few08_any (r c : Int) (a : Option Addr) (len cap : Nat) (w : World) (hc : len ≤ cap) :
    Calls Tryz.prog 66 #[.agg #[.int .i64 r, .int .i64 c, .slice a len cap]] w fun e w' => e = .returned (.agg #[.int .i64 r, .int .i64 c, .slice a (min len 200) cap]) ∧ Below w.heap.size w w' := by
  obtain ⟨W0, hW0, hX0, hX1, hB0, hs0⟩ := boxes2 w #[.int .i64 r, .int .i64 c, .slice a len cap] 28 #[.int .i64 0, .int .i64 0, .slice none 0 0] 28
  have c0 : W0.cell? ⟨w.heap.size, 0, none⟩ = some (.int .i64 r) := cCc hX0 0
  have c1 : W0.cell? ⟨w.heap.size, 1, none⟩ = some (.int .i64 c) := cCc hX0 1
  have c2 : W0.cell? ⟨w.heap.size, 2, none⟩ = some (.slice a len cap) := cCc hX0 2
  have d0 : W0.cell? ⟨w.heap.size + 1, 0, none⟩ = some (.int .i64 0) := cCc hX1 0
  have f0 : W0.frozen? ⟨w.heap.size + 1, 0, none⟩ = false := Lib.frozen_of_heap hX1 0
  have d1 : W0.cell? ⟨w.heap.size + 1, 1, none⟩ = some (.int .i64 0) := cCc hX1 1
  have f1 : W0.frozen? ⟨w.heap.size + 1, 1, none⟩ = false := Lib.frozen_of_heap hX1 1
  have d2 : W0.cell? ⟨w.heap.size + 1, 2, none⟩ = some (.slice none 0 0) := cCc hX1 2
  have f2 : W0.frozen? ⟨w.heap.size + 1, 2, none⟩ = false := Lib.frozen_of_heap hX1 2
  have m1 : 0 ≤ min (len : Int) 200 := by omega
  have m2 : min (len : Int) 200 ≤ cap := by omega
  have HM := Lib.hid (min_nat len 200)
  go_enter Tryz.func66, Tryz.ntmps66
  go_wp2_with fail
  go_region
  go_wp2_with fail
  refine bodyPost_ret (results_cell_row rfl _ _ (w.heap.size + 1) 28 #[.int .i64 r, .int .i64 c, .slice a (min (len : Int) 200).toNat cap] (0, 0) _ rfl (set_cells3 hX1) und_cms rfl size_cms) rfl ⟨by rw [← HM.out]; rfl, Below.drew ((((hB0.setCell (p := ⟨w.heap.size + 1, 0, none⟩) (Nat.le_succ _) _).setCell (p := ⟨w.heap.size + 1, 1, none⟩) (Nat.le_succ _) _).setCell (p := ⟨w.heap.size + 1, 2, none⟩) (Nat.le_succ _) _))⟩
set_option maxRecDepth 100000 in
set_option maxHeartbeats 1000000 in
theorem few09_any (f : Int) (a : Option Addr) (len cap : Nat) (w : World) (hc : len ≤ cap) :
    Calls Tryz.prog 67 #[.agg #[.int .i64 f, .slice a len cap]] w fun e w' => e = .returned (.agg #[.int .i64 f, .slice a (min len 300) cap]) ∧ Below w.heap.size w w' := by
  obtain ⟨W0, hW0, hX0, hX1, hB0, hs0⟩ := boxes2 w #[.int .i64 f, .slice a len cap] 31 #[.int .i64 0, .slice none 0 0] 31
  have c0 : W0.cell? ⟨w.heap.size, 0, none⟩ = some (.int .i64 f) := cCc hX0 0
  have c1 : W0.cell? ⟨w.heap.size, 1, none⟩ = some (.slice a len cap) := cCc hX0 1
  have d0 : W0.cell? ⟨w.heap.size + 1, 0, none⟩ = some (.int .i64 0) := cCc hX1 0
  have f0 : W0.frozen? ⟨w.heap.size + 1, 0, none⟩ = false := Lib.frozen_of_heap hX1 0
  have d1 : W0.cell? ⟨w.heap.size + 1, 1, none⟩ = some (.slice none 0 0) := cCc hX1 1
  have f1 : W0.frozen? ⟨w.heap.size + 1, 1, none⟩ = false := Lib.frozen_of_heap hX1 1
  have m1 : 0 ≤ min (len : Int) 300 := by omega
  have m2 : min (len : Int) 300 ≤ cap := by omega
  have HM := Lib.hid (min_nat len 300)
  go_enter Tryz.func67, Tryz.ntmps67
  go_wp2_with fail
  go_region
  go_wp2_with fail
  refine bodyPost_ret (results_cell_row rfl _ _ (w.heap.size + 1) 31 #[.int .i64 f, .slice a (min (len : Int) 300).toNat cap] (0, 0) _ rfl (set_cells2 hX1) und_hist rfl size_hist) rfl ⟨by rw [← HM.out]; rfl, Below.drew (((hB0.setCell (p := ⟨w.heap.size + 1, 0, none⟩) (Nat.le_succ _) _).setCell (p := ⟨w.heap.size + 1, 1, none⟩) (Nat.le_succ _) _))⟩
end Go.Proofs.YtpnlmfilmbodfaaGreatDoor

/- Package ladder: Cost. -/
import Derived.Test.YthbhmnakmhambaaGreatDoorZA0
import Derived.Test.YthbhmnakmhambaaGreatDoorZF6
namespace Go.Proofs.YthbhmnakmhambaaGreatDoor
open Go Go.RowKit
theorem cost_num (a : Option Addr) (n c : Nat) (w : World) (hn : n < 2147483648) : Calls Tryz.prog 190 #[.agg #[.slice a n c]] w fun e w' => e = .returned (.int .i64 (8 * n)) ∧ Below w.heap.size w w' := by
 go_enter Tryz.func190, Tryz.ntmps190
 go_wp2
 go_ret
 exact ⟨rfl, (Below.refl _ w).alloc (Nat.le_refl _) _⟩
theorem cost_reg (b : Int) (r : ByteArray) (w : World) : Calls Tryz.prog 218 #[.agg #[.int .i64 b, .string r]] w fun e w' => e = .returned (.int .i64 r.size) ∧ Below w.heap.size w w' := by
 go_enter Tryz.func218, Tryz.ntmps218
 go_wp2
 go_ret
 exact ⟨rfl, (Below.refl _ w).alloc (Nat.le_refl _) _⟩
theorem cost_cnt (r k : Int) (a : Option Addr) (n c : Nat) (w : World) (hn : n < 2147483648) : Calls Tryz.prog 226 #[.agg #[.int .i64 r, .int .i64 k, .slice a n c]] w fun e w' => e = .returned (.int .i64 (8 * n)) ∧ Below w.heap.size w w' := by
 go_enter Tryz.func226, Tryz.ntmps226
 go_wp2
 go_ret
 exact ⟨rfl, (Below.refl _ w).alloc (Nat.le_refl _) _⟩
theorem cost_bkt (f : Int) (a : Option Addr) (n c : Nat) (w : World) (hn : n < 2147483648) : Calls Tryz.prog 240 #[.agg #[.int .i64 f, .slice a n c]] w fun e w' => e = .returned (.int .i64 (16 * n)) ∧ Below w.heap.size w w' := by
 go_enter Tryz.func240, Tryz.ntmps240
 go_wp2
 go_ret
 exact ⟨rfl, (Below.refl _ w).alloc (Nat.le_refl _) _⟩
theorem meth_cost_num (a : Option Addr) (n c : Nat) (w : World) : (method 491 207 (.agg #[.slice a n c]) "aviary/ladder.cost").run Tryz.prog w = .ok (190, .agg #[.slice a n c]) w := by kernel_rfl
theorem meth_cost_reg (b : Int) (r : ByteArray) (w : World) : (method 491 209 (.agg #[.int .i64 b, .string r]) "aviary/ladder.cost").run Tryz.prog w = .ok (218, .agg #[.int .i64 b, .string r]) w := by kernel_rfl
theorem meth_cost_cnt (r k : Int) (a : Option Addr) (n c : Nat) (w : World) : (method 491 210 (.agg #[.int .i64 r, .int .i64 k, .slice a n c]) "aviary/ladder.cost").run Tryz.prog w = .ok (226, .agg #[.int .i64 r, .int .i64 k, .slice a n c]) w := by kernel_rfl
theorem meth_cost_bkt (f : Int) (a : Option Addr) (n c : Nat) (w : World) : (method 491 212 (.agg #[.int .i64 f, .slice a n c]) "aviary/ladder.cost").run Tryz.prog w = .ok (240, .agg #[.int .i64 f, .slice a n c]) w := by kernel_rfl
set_option maxRecDepth 100000 in
set_option maxHeartbeats 1000000 in
theorem Cost_num (x : Sk) (s : SS) (w : World) (hx : s.At w.heap.size w x) (hs : s.Short) (hf : x.fit) (hok : skOk x = true) (hb : skBody x s = .iface 207 (.agg #[.slice s.ea s.el s.ec])) :
  Calls Tryz.prog 36 #[.agg #[.int .i64 x.kind, .int .i64 x.level, .slice s.ea s.el s.ec, .int .i64 x.hb, .string x.hr, .int .i64 x.cr, .int .i64 x.cc, .slice s.ca s.cl s.cc, .int .i64 x.gf, .slice s.ga s.gl s.gc]] w fun e w' => e = .returned (.int .i64 (8 * (s.el : Int) + 16)) ∧ Below w.heap.size w w' := by
 obtain ⟨W0, hW0, hX0, hB0, hs0⟩ := boxes1 w #[.int .i64 x.kind, .int .i64 x.level, .slice s.ea s.el s.ec, .int .i64 x.hb, .string x.hr, .int .i64 x.cr, .int .i64 x.cc, .slice s.ca s.cl s.cc, .int .i64 x.gf, .slice s.ga s.gl s.gc] 39
 obtain ⟨c0, c1, c2, c3, c4, c5, c6, c7, c8, c9⟩ := cl10 hX0
 have hO := open_any x s W0 (hx.go hB0) hs hf
 rw [hok, hb] at hO
 obtain ⟨hs1, hs2, hs3⟩ := hs
 clear hx hX0 hs0 hok hb
 go_enter Tryz.func36, Tryz.ntmps36
 go_wp2_with fail
 refine hO.mono ?_
 rintro e w1 ⟨he, hb1⟩
 obtain rfl := (show e = _ from he)
 clear he hW0 hO c0 c1 c2 c3 c4 c5 c6 c7 c8 c9
 have hB1 := hB0.trans (hb1.mono hB0.size)
 have hm := meth_cost_num s.ea s.el s.ec
 obtain ⟨W2, hW2, -, hB2, -⟩ := boxes1 w1 #[.iface 207 (.agg #[.slice s.ea s.el s.ec]), .int .i64 x.kind, .int .i64 x.level] 108
 have HW := Lib.hid hW2
 clear hW2
 go_wp2_with fail
 rw [HW.out]
 refine (cost_num s.ea s.el s.ec W2 hs1).mono ?_
 rintro e w3 ⟨rfl, hb3⟩
 clear HW hm
 go_wp2_with fail
 go_ret
 exact ⟨rfl, hB1.trans ((hB2.trans (hb3.mono hB2.size)).mono hB1.size)⟩
set_option maxRecDepth 100000 in
set_option maxHeartbeats 1000000 in
theorem Cost_reg (x : Sk) (s : SS) (w : World) (hx : s.At w.heap.size w x) (hs : s.Short) (hf : x.fit) (hr : x.hr.size < 2147483648) (hok : skOk x = true) (hb : skBody x s = .iface 209 (.agg #[.int .i64 x.hb, .string x.hr])) :
  Calls Tryz.prog 36 #[.agg #[.int .i64 x.kind, .int .i64 x.level, .slice s.ea s.el s.ec, .int .i64 x.hb, .string x.hr, .int .i64 x.cr, .int .i64 x.cc, .slice s.ca s.cl s.cc, .int .i64 x.gf, .slice s.ga s.gl s.gc]] w fun e w' => e = .returned (.int .i64 ((x.hr.size : Int) + 16)) ∧ Below w.heap.size w w' := by
 obtain ⟨W0, hW0, hX0, hB0, hs0⟩ := boxes1 w #[.int .i64 x.kind, .int .i64 x.level, .slice s.ea s.el s.ec, .int .i64 x.hb, .string x.hr, .int .i64 x.cr, .int .i64 x.cc, .slice s.ca s.cl s.cc, .int .i64 x.gf, .slice s.ga s.gl s.gc] 39
 obtain ⟨c0, c1, c2, c3, c4, c5, c6, c7, c8, c9⟩ := cl10 hX0
 have hO := open_any x s W0 (hx.go hB0) hs hf
 rw [hok, hb] at hO
 obtain ⟨hs1, hs2, hs3⟩ := hs
 clear hx hX0 hs0 hok hb
 go_enter Tryz.func36, Tryz.ntmps36
 go_wp2_with fail
 refine hO.mono ?_
 rintro e w1 ⟨he, hb1⟩
 obtain rfl := (show e = _ from he)
 clear he hW0 hO c0 c1 c2 c3 c4 c5 c6 c7 c8 c9
 have hB1 := hB0.trans (hb1.mono hB0.size)
 have hm := meth_cost_reg x.hb x.hr
 obtain ⟨W2, hW2, -, hB2, -⟩ := boxes1 w1 #[.iface 209 (.agg #[.int .i64 x.hb, .string x.hr]), .int .i64 x.kind, .int .i64 x.level] 108
 have HW := Lib.hid hW2
 clear hW2
 go_wp2_with fail
 rw [HW.out]
 refine (cost_reg x.hb x.hr W2).mono ?_
 rintro e w3 ⟨rfl, hb3⟩
 clear HW hm
 go_wp2_with fail
 go_ret
 exact ⟨rfl, hB1.trans ((hB2.trans (hb3.mono hB2.size)).mono hB1.size)⟩
set_option maxRecDepth 100000 in
set_option maxHeartbeats 1000000 in
theorem Cost_cnt (x : Sk) (s : SS) (w : World) (hx : s.At w.heap.size w x) (hs : s.Short) (hf : x.fit) (hok : skOk x = true) (hb : skBody x s = .iface 210 (.agg #[.int .i64 x.cr, .int .i64 x.cc, .slice s.ca s.cl s.cc])) :
  Calls Tryz.prog 36 #[.agg #[.int .i64 x.kind, .int .i64 x.level, .slice s.ea s.el s.ec, .int .i64 x.hb, .string x.hr, .int .i64 x.cr, .int .i64 x.cc, .slice s.ca s.cl s.cc, .int .i64 x.gf, .slice s.ga s.gl s.gc]] w fun e w' => e = .returned (.int .i64 (8 * (s.cl : Int) + 16)) ∧ Below w.heap.size w w' := by
 obtain ⟨W0, hW0, hX0, hB0, hs0⟩ := boxes1 w #[.int .i64 x.kind, .int .i64 x.level, .slice s.ea s.el s.ec, .int .i64 x.hb, .string x.hr, .int .i64 x.cr, .int .i64 x.cc, .slice s.ca s.cl s.cc, .int .i64 x.gf, .slice s.ga s.gl s.gc] 39
 obtain ⟨c0, c1, c2, c3, c4, c5, c6, c7, c8, c9⟩ := cl10 hX0
 have hO := open_any x s W0 (hx.go hB0) hs hf
 rw [hok, hb] at hO
 obtain ⟨hs1, hs2, hs3⟩ := hs
 clear hx hX0 hs0 hok hb
 go_enter Tryz.func36, Tryz.ntmps36
 go_wp2_with fail
 refine hO.mono ?_
 rintro e w1 ⟨he, hb1⟩
 obtain rfl := (show e = _ from he)
 clear he hW0 hO c0 c1 c2 c3 c4 c5 c6 c7 c8 c9
 have hB1 := hB0.trans (hb1.mono hB0.size)
 have hm := meth_cost_cnt x.cr x.cc s.ca s.cl s.cc
 obtain ⟨W2, hW2, -, hB2, -⟩ := boxes1 w1 #[.iface 210 (.agg #[.int .i64 x.cr, .int .i64 x.cc, .slice s.ca s.cl s.cc]), .int .i64 x.kind, .int .i64 x.level] 108
 have HW := Lib.hid hW2
 clear hW2
 go_wp2_with fail
 rw [HW.out]
 refine (cost_cnt x.cr x.cc s.ca s.cl s.cc W2 hs2).mono ?_
 rintro e w3 ⟨rfl, hb3⟩
 clear HW hm
 go_wp2_with fail
 go_ret
 exact ⟨rfl, hB1.trans ((hB2.trans (hb3.mono hB2.size)).mono hB1.size)⟩
set_option maxRecDepth 100000 in
set_option maxHeartbeats 1000000 in
theorem Cost_bkt (x : Sk) (s : SS) (w : World) (hx : s.At w.heap.size w x) (hs : s.Short) (hf : x.fit) (hok : skOk x = true) (hb : skBody x s = .iface 212 (.agg #[.int .i64 x.gf, .slice s.ga s.gl s.gc])) :
  Calls Tryz.prog 36 #[.agg #[.int .i64 x.kind, .int .i64 x.level, .slice s.ea s.el s.ec, .int .i64 x.hb, .string x.hr, .int .i64 x.cr, .int .i64 x.cc, .slice s.ca s.cl s.cc, .int .i64 x.gf, .slice s.ga s.gl s.gc]] w fun e w' => e = .returned (.int .i64 (16 * (s.gl : Int) + 16)) ∧ Below w.heap.size w w' := by
 obtain ⟨W0, hW0, hX0, hB0, hs0⟩ := boxes1 w #[.int .i64 x.kind, .int .i64 x.level, .slice s.ea s.el s.ec, .int .i64 x.hb, .string x.hr, .int .i64 x.cr, .int .i64 x.cc, .slice s.ca s.cl s.cc, .int .i64 x.gf, .slice s.ga s.gl s.gc] 39
 obtain ⟨c0, c1, c2, c3, c4, c5, c6, c7, c8, c9⟩ := cl10 hX0
 have hO := open_any x s W0 (hx.go hB0) hs hf
 rw [hok, hb] at hO
 obtain ⟨hs1, hs2, hs3⟩ := hs
 clear hx hX0 hs0 hok hb
 go_enter Tryz.func36, Tryz.ntmps36
 go_wp2_with fail
 refine hO.mono ?_
 rintro e w1 ⟨he, hb1⟩
 obtain rfl := (show e = _ from he)
 clear he hW0 hO c0 c1 c2 c3 c4 c5 c6 c7 c8 c9
 have hB1 := hB0.trans (hb1.mono hB0.size)
 have hm := meth_cost_bkt x.gf s.ga s.gl s.gc
 obtain ⟨W2, hW2, -, hB2, -⟩ := boxes1 w1 #[.iface 212 (.agg #[.int .i64 x.gf, .slice s.ga s.gl s.gc]), .int .i64 x.kind, .int .i64 x.level] 108
 have HW := Lib.hid hW2
 clear hW2
 go_wp2_with fail
 rw [HW.out]
 refine (cost_bkt x.gf s.ga s.gl s.gc W2 hs3).mono ?_
 rintro e w3 ⟨rfl, hb3⟩
 clear HW hm
 go_wp2_with fail
 go_ret
 exact ⟨rfl, hB1.trans ((hB2.trans (hb3.mono hB2.size)).mono hB1.size)⟩
set_option maxRecDepth 100000 in
set_option maxHeartbeats 1000000 in
theorem ladder_Cost_any (x : Sk) (s : SS) (w : World) (hx : s.At w.heap.size w x) (hs : s.Short) (hf : x.fit) (hr : x.hr.size < 2147483648) :
  Calls Tryz.prog 36 #[.agg #[.int .i64 x.kind, .int .i64 x.level, .slice s.ea s.el s.ec, .int .i64 x.hb, .string x.hr, .int .i64 x.cr, .int .i64 x.cc, .slice s.ca s.cl s.cc, .int .i64 x.gf, .slice s.ga s.gl s.gc]] w fun e w' => e = .returned (.int .i64 (costOf x)) ∧ Below w.heap.size w w' := by
 cases hok : skOk x with
 | true =>
  cases k1 : (x.kind == 1) with
  | true =>
   cases l0 : (x.level == 0) with
   | true =>
    have e : costOf x = 8 * (s.el : Int) + 16 := by unfold costOf; rw [hok, k1, l0, hx.e.1.1]; rfl
    rw [e]
    exact Cost_num x s w hx hs hf hok (by unfold skBody; rw [k1, l0]; rfl)
   | false =>
    have e : costOf x = (x.hr.size : Int) + 16 := by unfold costOf; rw [hok, k1, l0]; rfl
    rw [e]
    exact Cost_reg x s w hx hs hf hr hok (by unfold skBody; rw [k1, l0]; rfl)
  | false =>
   cases k2 : (x.kind == 2) with
   | true =>
    have e : costOf x = 8 * (s.cl : Int) + 16 := by unfold costOf; rw [hok, k1, k2, hx.c.1.1]; rfl
    rw [e]
    exact Cost_cnt x s w hx hs hf hok (by unfold skBody; rw [k1, k2]; rfl)
   | false =>
    have e : costOf x = 16 * (s.gl : Int) + 16 := by unfold costOf; rw [hok, k1, k2, hx.g.1.1]; rfl
    rw [e]
    exact Cost_bkt x s w hx hs hf hok (by unfold skBody; rw [k1, k2]; rfl)
 | false =>
  have HC : Hid (costOf x = 0) := by unfold Hid costOf; rw [hok]; rfl
  obtain ⟨W0, hW0, hX0, hB0, hs0⟩ := boxes1 w #[.int .i64 x.kind, .int .i64 x.level, .slice s.ea s.el s.ec, .int .i64 x.hb, .string x.hr, .int .i64 x.cr, .int .i64 x.cc, .slice s.ca s.cl s.cc, .int .i64 x.gf, .slice s.ga s.gl s.gc] 39
  obtain ⟨c0, c1, c2, c3, c4, c5, c6, c7, c8, c9⟩ := cl10 hX0
  have hO := open_any x s W0 (hx.go hB0) hs hf
  rw [hok] at hO
  clear hx hX0 hs0 hok
  go_enter Tryz.func36, Tryz.ntmps36
  go_wp2_with fail
  refine hO.mono ?_
  rintro e w1 ⟨he, hb1⟩
  obtain ⟨b, rfl, -, -⟩ := (show ∃ b, _ from he)
  clear hW0 hO c0 c1 c2 c3 c4 c5 c6 c7 c8 c9
  have hB1 := hB0.trans (hb1.mono hB0.size)
  go_wp2_with fail
  go_ret
  exact ⟨by rw [HC.out]; rfl, hB1.alloc hB1.size _⟩
end Go.Proofs.YthbhmnakmhambaaGreatDoor

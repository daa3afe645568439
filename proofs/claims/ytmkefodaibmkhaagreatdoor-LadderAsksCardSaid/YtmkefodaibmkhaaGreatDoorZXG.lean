/- Package ladder: Same. Package ladder: the bodies of sketches: held.distinct, held.count, held.lie; kinds. Package ladder: held.count, held.lie; kinds. Package ladder: work.sketch. Package ladder: work.sketch, the other bodies. -/
import Derived.Test.YtmkefodaibmkhaaGreatDoorZXB
import Derived.Test.YtmkefodaibmkhaaGreatDoorZM2
namespace Go.Proofs.YtmkefodaibmkhaaGreatDoor
open Go Go.RowKit

theorem eql_hll (b1 b2 : Int) (r1 r2 : ByteArray) (w : World) : (binOp .eql 29 (.agg #[.int .i64 b1, .string r1]) (.agg #[.int .i64 b2, .string r2])).run Tryz.prog w = .ok (.bool (b1 == b2 && r1.toList == r2.toList)) w := by
  have h1 : Tryz.prog.underlying 29 = some (.struct (Tryz.prog.fieldsOf 29)) := by kernel_rfl
  have h2 : Tryz.prog.stoodInHeld 29 = false := by kernel_rfl
  have h3 : (Tryz.prog.fieldsOf 29).toList = [{ name := "Bits", type := 3, offset := 0, embedded := false, tag := "", pkgPath := "", byteOffset := 0 }, { name := "Regs", type := 9, offset := 1, embedded := false, tag := "", pkgPath := "", byteOffset := 8 }] := by kernel_rfl
  rw [run_eql_struct, run_equalIn_agg w 9999 _ _ _ h1 h2, h3]
  cases ha : (b1 == b2) <;> cases hb : (r1.toList == r2.toList) <;> simp [go_sem, ha, hb, Tryz.underlying3, Tryz.underlying9]
theorem eg_hll : Tryz.prog.eqGuardType Tryz.prog.depth 29 = false := by kernel_rfl

set_option maxRecDepth 100000 in
set_option maxHeartbeats 2000000 in
theorem ladder_Same_any (x y : Sk) (s t : SS) (w : World) (hx : s.At w.heap.size w x) (hy : t.At w.heap.size w y) :
    Calls Tryz.prog 16 #[.agg #[.int .i64 x.kind, .int .i64 x.level, .slice s.ea s.el s.ec, .int .i64 x.hb, .string x.hr, .int .i64 x.cr, .int .i64 x.cc, .slice s.ca s.cl s.cc, .int .i64 x.gf, .slice s.ga s.gl s.gc], .agg #[.int .i64 y.kind, .int .i64 y.level, .slice t.ea t.el t.ec, .int .i64 y.hb, .string y.hr, .int .i64 y.cr, .int .i64 y.cc, .slice t.ca t.cl t.cc, .int .i64 y.gf, .slice t.ga t.gl t.gc]] w fun e w' => e = .returned (.bool (skSame x y)) ∧ Below w.heap.size w w' := by
  obtain ⟨W0, hW0, hX0, hX1, hB0, hs0⟩ := boxes2 w #[.int .i64 x.kind, .int .i64 x.level, .slice s.ea s.el s.ec, .int .i64 x.hb, .string x.hr, .int .i64 x.cr, .int .i64 x.cc, .slice s.ca s.cl s.cc, .int .i64 x.gf, .slice s.ga s.gl s.gc] 36 #[.int .i64 y.kind, .int .i64 y.level, .slice t.ea t.el t.ec, .int .i64 y.hb, .string y.hr, .int .i64 y.cr, .int .i64 y.cc, .slice t.ca t.cl t.cc, .int .i64 y.gf, .slice t.ga t.gl t.gc] 36
  have c0 : W0.cell? ⟨w.heap.size, 0, none⟩ = some (.int .i64 x.kind) := cell_of_cells hX0 0
  have c1 : W0.cell? ⟨w.heap.size, 1, none⟩ = some (.int .i64 x.level) := cell_of_cells hX0 1
  have c2 : W0.cell? ⟨w.heap.size, 2, none⟩ = some (.slice s.ea s.el s.ec) := cell_of_cells hX0 2
  have c3 : W0.cell? ⟨w.heap.size, 3, none⟩ = some (.int .i64 x.hb) := cell_of_cells hX0 3
  have c4 : W0.cell? ⟨w.heap.size, 4, none⟩ = some (.string x.hr) := cell_of_cells hX0 4
  have c5 : W0.cell? ⟨w.heap.size, 5, none⟩ = some (.int .i64 x.cr) := cell_of_cells hX0 5
  have c6 : W0.cell? ⟨w.heap.size, 6, none⟩ = some (.int .i64 x.cc) := cell_of_cells hX0 6
  have c7 : W0.cell? ⟨w.heap.size, 7, none⟩ = some (.slice s.ca s.cl s.cc) := cell_of_cells hX0 7
  have c8 : W0.cell? ⟨w.heap.size, 8, none⟩ = some (.int .i64 x.gf) := cell_of_cells hX0 8
  have c9 : W0.cell? ⟨w.heap.size, 9, none⟩ = some (.slice s.ga s.gl s.gc) := cell_of_cells hX0 9
  have d0 : W0.cell? ⟨w.heap.size + 1, 0, none⟩ = some (.int .i64 y.kind) := cell_of_cells hX1 0
  have d1 : W0.cell? ⟨w.heap.size + 1, 1, none⟩ = some (.int .i64 y.level) := cell_of_cells hX1 1
  have d2 : W0.cell? ⟨w.heap.size + 1, 2, none⟩ = some (.slice t.ea t.el t.ec) := cell_of_cells hX1 2
  have d3 : W0.cell? ⟨w.heap.size + 1, 3, none⟩ = some (.int .i64 y.hb) := cell_of_cells hX1 3
  have d4 : W0.cell? ⟨w.heap.size + 1, 4, none⟩ = some (.string y.hr) := cell_of_cells hX1 4
  have d5 : W0.cell? ⟨w.heap.size + 1, 5, none⟩ = some (.int .i64 y.cr) := cell_of_cells hX1 5
  have d6 : W0.cell? ⟨w.heap.size + 1, 6, none⟩ = some (.int .i64 y.cc) := cell_of_cells hX1 6
  have d7 : W0.cell? ⟨w.heap.size + 1, 7, none⟩ = some (.slice t.ca t.cl t.cc) := cell_of_cells hX1 7
  have d8 : W0.cell? ⟨w.heap.size + 1, 8, none⟩ = some (.int .i64 y.gf) := cell_of_cells hX1 8
  have d9 : W0.cell? ⟨w.heap.size + 1, 9, none⟩ = some (.slice t.ga t.gl t.gc) := cell_of_cells hX1 9
  have n1 := eql_hll x.hb y.hb x.hr y.hr
  have n2 := eg_hll
  have gx := hx.go hB0
  have gy := hy.go hB0
  clear hx hy
  have hE := exact_Same_any s.ea s.el s.ec x.e t.ea t.el t.ec y.e W0 gx.e.1 gy.e.1 (Nat.le_trans gx.e.2.1 gx.e.2.2.1)
  cases h1 : (x.kind == y.kind) with
  | false =>
    have HR : Hid (skSame x y = false) := by simp [Hid, skSame, h1]
    clear hE gx gy
    go_enter Tryz.func16, Tryz.ntmps16
    go_wp2_with fail
    go_ret
    exact ⟨by rw [HR.out]; rfl, hB0⟩
  | true =>
    cases h2 : (x.level == y.level) with
    | false =>
      have HR : Hid (skSame x y = false) := by simp [Hid, skSame, h2]
      clear hE gx gy
      go_enter Tryz.func16, Tryz.ntmps16
      go_wp2_with fail
      go_ret
      exact ⟨by rw [HR.out]; rfl, hB0⟩
    | true =>
      cases h3 : (x.hb == y.hb && x.hr.toList == y.hr.toList) with
      | false =>
        have HR : Hid (skSame x y = false) := by simp only [Hid, skSame, h3, Bool.and_false, Bool.false_and]
        rw [h3] at n1
        clear hE gx gy h3
        go_enter Tryz.func16, Tryz.ntmps16
        go_wp2_with fail
        go_ret
        exact ⟨by rw [HR.out]; rfl, hB0⟩
      | true =>
        have HR : Hid (skSame x y = (x.e == y.e && (x.cr == y.cr && x.cc == y.cc && x.cl == y.cl) && (x.gf == y.gf && x.gl == y.gl))) := by simp only [Hid, skSame, h1, h2, h3, Bool.true_and]
        rw [h3] at n1
        have G := Lib.hid (And.intro gx gy)
        clear h3 gx gy
        go_enter Tryz.func16, Tryz.ntmps16
        go_wp2_with fail
        refine hE.mono ?_
        rintro e w1 ⟨rfl, hb1⟩
        have hX0' := known hb1 (Nat.le_refl _) hX0
        have hX1' := known hb1 (Nat.le_refl _) hX1
        have p0 : w1.cell? ⟨w.heap.size, 0, none⟩ = some (.int .i64 x.kind) := cell_of_cells hX0' 0
        have p1 : w1.cell? ⟨w.heap.size, 1, none⟩ = some (.int .i64 x.level) := cell_of_cells hX0' 1
        have p2 : w1.cell? ⟨w.heap.size, 2, none⟩ = some (.slice s.ea s.el s.ec) := cell_of_cells hX0' 2
        have p3 : w1.cell? ⟨w.heap.size, 3, none⟩ = some (.int .i64 x.hb) := cell_of_cells hX0' 3
        have p4 : w1.cell? ⟨w.heap.size, 4, none⟩ = some (.string x.hr) := cell_of_cells hX0' 4
        have p5 : w1.cell? ⟨w.heap.size, 5, none⟩ = some (.int .i64 x.cr) := cell_of_cells hX0' 5
        have p6 : w1.cell? ⟨w.heap.size, 6, none⟩ = some (.int .i64 x.cc) := cell_of_cells hX0' 6
        have p7 : w1.cell? ⟨w.heap.size, 7, none⟩ = some (.slice s.ca s.cl s.cc) := cell_of_cells hX0' 7
        have p8 : w1.cell? ⟨w.heap.size, 8, none⟩ = some (.int .i64 x.gf) := cell_of_cells hX0' 8
        have p9 : w1.cell? ⟨w.heap.size, 9, none⟩ = some (.slice s.ga s.gl s.gc) := cell_of_cells hX0' 9
        have q0 : w1.cell? ⟨w.heap.size + 1, 0, none⟩ = some (.int .i64 y.kind) := cell_of_cells hX1' 0
        have q1 : w1.cell? ⟨w.heap.size + 1, 1, none⟩ = some (.int .i64 y.level) := cell_of_cells hX1' 1
        have q2 : w1.cell? ⟨w.heap.size + 1, 2, none⟩ = some (.slice t.ea t.el t.ec) := cell_of_cells hX1' 2
        have q3 : w1.cell? ⟨w.heap.size + 1, 3, none⟩ = some (.int .i64 y.hb) := cell_of_cells hX1' 3
        have q4 : w1.cell? ⟨w.heap.size + 1, 4, none⟩ = some (.string y.hr) := cell_of_cells hX1' 4
        have q5 : w1.cell? ⟨w.heap.size + 1, 5, none⟩ = some (.int .i64 y.cr) := cell_of_cells hX1' 5
        have q6 : w1.cell? ⟨w.heap.size + 1, 6, none⟩ = some (.int .i64 y.cc) := cell_of_cells hX1' 6
        have q7 : w1.cell? ⟨w.heap.size + 1, 7, none⟩ = some (.slice t.ca t.cl t.cc) := cell_of_cells hX1' 7
        have q8 : w1.cell? ⟨w.heap.size + 1, 8, none⟩ = some (.int .i64 y.gf) := cell_of_cells hX1' 8
        have q9 : w1.cell? ⟨w.heap.size + 1, 9, none⟩ = some (.slice t.ga t.gl t.gc) := cell_of_cells hX1' 9
        have gx1 := G.out.1.go hb1
        have gy1 := G.out.2.go hb1
        have hC := cms_Same_any x.cr x.cc s.ca s.cl s.cc x.cl y.cr y.cc t.ca t.cl t.cc y.cl w1 gx1.c.1 gy1.c.1 (Nat.le_trans gx1.c.2.1 gx1.c.2.2.1)
        have G1 := Lib.hid (And.intro gx1 gy1)
        have hB1 := hB0.trans (hb1.mono hB0.size)
        clear hW0 hE c0 c1 c2 c3 c4 c5 c6 c7 c8 c9 d0 d1 d2 d3 d4 d5 d6 d7 d8 d9 gx1 gy1 G hX0 hX1 hb1
        generalize he : (x.e == y.e) = be at HR
        clear he
        cases be with
        | false =>
          clear hC
          go_wp2_with fail
          go_ret
          exact ⟨by rw [HR.out]; rfl, hB1⟩
        | true =>
          go_wp2_with fail
          refine hC.mono ?_
          rintro e w2 ⟨rfl, hb2⟩
          have hX0 := known hb2 (Nat.le_refl _) hX0'
          have hX1 := known hb2 (Nat.le_refl _) hX1'
          have r0 : w2.cell? ⟨w.heap.size, 0, none⟩ = some (.int .i64 x.kind) := cell_of_cells hX0 0
          have r1 : w2.cell? ⟨w.heap.size, 1, none⟩ = some (.int .i64 x.level) := cell_of_cells hX0 1
          have r2 : w2.cell? ⟨w.heap.size, 2, none⟩ = some (.slice s.ea s.el s.ec) := cell_of_cells hX0 2
          have r3 : w2.cell? ⟨w.heap.size, 3, none⟩ = some (.int .i64 x.hb) := cell_of_cells hX0 3
          have r4 : w2.cell? ⟨w.heap.size, 4, none⟩ = some (.string x.hr) := cell_of_cells hX0 4
          have r5 : w2.cell? ⟨w.heap.size, 5, none⟩ = some (.int .i64 x.cr) := cell_of_cells hX0 5
          have r6 : w2.cell? ⟨w.heap.size, 6, none⟩ = some (.int .i64 x.cc) := cell_of_cells hX0 6
          have r7 : w2.cell? ⟨w.heap.size, 7, none⟩ = some (.slice s.ca s.cl s.cc) := cell_of_cells hX0 7
          have r8 : w2.cell? ⟨w.heap.size, 8, none⟩ = some (.int .i64 x.gf) := cell_of_cells hX0 8
          have r9 : w2.cell? ⟨w.heap.size, 9, none⟩ = some (.slice s.ga s.gl s.gc) := cell_of_cells hX0 9
          have u0 : w2.cell? ⟨w.heap.size + 1, 0, none⟩ = some (.int .i64 y.kind) := cell_of_cells hX1 0
          have u1 : w2.cell? ⟨w.heap.size + 1, 1, none⟩ = some (.int .i64 y.level) := cell_of_cells hX1 1
          have u2 : w2.cell? ⟨w.heap.size + 1, 2, none⟩ = some (.slice t.ea t.el t.ec) := cell_of_cells hX1 2
          have u3 : w2.cell? ⟨w.heap.size + 1, 3, none⟩ = some (.int .i64 y.hb) := cell_of_cells hX1 3
          have u4 : w2.cell? ⟨w.heap.size + 1, 4, none⟩ = some (.string y.hr) := cell_of_cells hX1 4
          have u5 : w2.cell? ⟨w.heap.size + 1, 5, none⟩ = some (.int .i64 y.cr) := cell_of_cells hX1 5
          have u6 : w2.cell? ⟨w.heap.size + 1, 6, none⟩ = some (.int .i64 y.cc) := cell_of_cells hX1 6
          have u7 : w2.cell? ⟨w.heap.size + 1, 7, none⟩ = some (.slice t.ca t.cl t.cc) := cell_of_cells hX1 7
          have u8 : w2.cell? ⟨w.heap.size + 1, 8, none⟩ = some (.int .i64 y.gf) := cell_of_cells hX1 8
          have u9 : w2.cell? ⟨w.heap.size + 1, 9, none⟩ = some (.slice t.ga t.gl t.gc) := cell_of_cells hX1 9
          have gx2 := G1.out.1.go hb2
          have gy2 := G1.out.2.go hb2
          have hH := hist_Same_any x.gf s.ga s.gl s.gc x.gl y.gf t.ga t.gl t.gc y.gl w2 gx2.g.1 gy2.g.1 (Nat.le_trans gx2.g.2.1 gx2.g.2.2.1)
          have hB2 := hB1.trans (hb2.mono hB1.size)
          clear hC p0 p1 p2 p3 p4 p5 p6 p7 p8 p9 q0 q1 q2 q3 q4 q5 q6 q7 q8 q9 gx2 gy2 G1 hX0 hX1 hX0' hX1' hb2
          generalize hc : (x.cr == y.cr && x.cc == y.cc && x.cl == y.cl) = bc at HR
          clear hc
          cases bc with
          | false =>
            clear hH
            go_wp2_with fail
            go_ret
            exact ⟨by rw [HR.out]; rfl, hB2⟩
          | true =>
            go_wp2_with fail
            refine hH.mono ?_
            rintro e w3 ⟨rfl, hb3⟩
            clear hH
            go_wp2_with fail
            go_ret
            exact ⟨by rw [HR.out]; simp, hB2.trans (hb3.mono hB2.size)⟩
end Go.Proofs.YtmkefodaibmkhaaGreatDoor
namespace Go.Proofs.YtmkefodaibmkhaaGreatDoor
open Go Go.RowKit

/-- What the methods of held know. -/
structure HeldIn (x : Sk) (s : SS) (w W : World) : Prop where
  box : W.heap[w.heap.size]? = some (.cells #[.int .i64 x.kind, .int .i64 x.level, .slice s.ea s.el s.ec, .int .i64 x.hb, .string x.hr, .int .i64 x.cr, .int .i64 x.cc, .slice s.ca s.cl s.cc, .int .i64 x.gf, .slice s.ga s.gl s.gc] 138 (0, 0))
  lists : s.At W.heap.size W x
  below : Below w.heap.size w W
theorem HeldIn.go {x : Sk} {s : SS} {w W W' : World} (h : HeldIn x s w W) (hb : Below W.heap.size W W') : HeldIn x s w W' := ⟨known hb (Nat.le_refl _) h.box, h.lists.go hb, h.below.trans (hb.mono h.below.size)⟩
theorem held_in (x : Sk) (s : SS) (w : World) (hx : s.At w.heap.size w x) : HeldIn x s w (w.alloc (.cells #[.int .i64 x.kind, .int .i64 x.level, .slice s.ea s.el s.ec, .int .i64 x.hb, .string x.hr, .int .i64 x.cr, .int .i64 x.cc, .slice s.ca s.cl s.cc, .int .i64 x.gf, .slice s.ga s.gl s.gc] 138)) :=
  have hB : Below w.heap.size w (w.alloc (.cells #[.int .i64 x.kind, .int .i64 x.level, .slice s.ea s.el s.ec, .int .i64 x.hb, .string x.hr, .int .i64 x.cr, .int .i64 x.cc, .slice s.ca s.cl s.cc, .int .i64 x.gf, .slice s.ga s.gl s.gc] 138)) := (Below.refl _ w).alloc (Nat.le_refl _) _
  ⟨World.alloc_heap_new _ _, hx.go hB, hB⟩

set_option maxRecDepth 100000 in
set_option maxHeartbeats 2000000 in
theorem distinct0_any (x : Sk) (s : SS) (w : World) (hx : s.At w.heap.size w x) (h0 : (x.level == 0) = true) :
    Calls Tryz.prog 111 #[.agg #[.int .i64 x.kind, .int .i64 x.level, .slice s.ea s.el s.ec, .int .i64 x.hb, .string x.hr, .int .i64 x.cr, .int .i64 x.cc, .slice s.ca s.cl s.cc, .int .i64 x.gf, .slice s.ga s.gl s.gc]] w fun e w' => e = .returned (.tuple #[.iface 184 (.agg #[.slice s.ea s.el s.ec]), .bool (exRight x.e)]) ∧ Below w.heap.size w w' := by
  have hI := held_in x s w hx
  obtain ⟨W0, hW0⟩ : ∃ W0, w.alloc (.cells #[.int .i64 x.kind, .int .i64 x.level, .slice s.ea s.el s.ec, .int .i64 x.hb, .string x.hr, .int .i64 x.cr, .int .i64 x.cc, .slice s.ca s.cl s.cc, .int .i64 x.gf, .slice s.ga s.gl s.gc] 138) = W0 := ⟨_, rfl⟩
  rw [hW0] at hI
  have c0 : W0.cell? ⟨w.heap.size, 0, none⟩ = some (.int .i64 x.kind) := cell_of_cells hI.box 0
  have c1 : W0.cell? ⟨w.heap.size, 1, none⟩ = some (.int .i64 x.level) := cell_of_cells hI.box 1
  have c2 : W0.cell? ⟨w.heap.size, 2, none⟩ = some (.slice s.ea s.el s.ec) := cell_of_cells hI.box 2
  have c3 : W0.cell? ⟨w.heap.size, 3, none⟩ = some (.int .i64 x.hb) := cell_of_cells hI.box 3
  have c4 : W0.cell? ⟨w.heap.size, 4, none⟩ = some (.string x.hr) := cell_of_cells hI.box 4
  have c5 : W0.cell? ⟨w.heap.size, 5, none⟩ = some (.int .i64 x.cr) := cell_of_cells hI.box 5
  have c6 : W0.cell? ⟨w.heap.size, 6, none⟩ = some (.int .i64 x.cc) := cell_of_cells hI.box 6
  have c7 : W0.cell? ⟨w.heap.size, 7, none⟩ = some (.slice s.ca s.cl s.cc) := cell_of_cells hI.box 7
  have c8 : W0.cell? ⟨w.heap.size, 8, none⟩ = some (.int .i64 x.gf) := cell_of_cells hI.box 8
  have c9 : W0.cell? ⟨w.heap.size, 9, none⟩ = some (.slice s.ga s.gl s.gc) := cell_of_cells hI.box 9
  let Inv : World → Prop := HeldIn x s w
  have hgo : ∀ W W', Inv W → Below W.heap.size W W' → Inv W' := fun W W' h hb => HeldIn.go h hb
  have q0 : ∀ X : WIn Inv, X.world.cell? ⟨w.heap.size, 0, none⟩ = some (.int .i64 x.kind) := fun X => cell_of_cells X.ok.box 0
  have q1 : ∀ X : WIn Inv, X.world.cell? ⟨w.heap.size, 1, none⟩ = some (.int .i64 x.level) := fun X => cell_of_cells X.ok.box 1
  have q2 : ∀ X : WIn Inv, X.world.cell? ⟨w.heap.size, 2, none⟩ = some (.slice s.ea s.el s.ec) := fun X => cell_of_cells X.ok.box 2
  have q3 : ∀ X : WIn Inv, X.world.cell? ⟨w.heap.size, 3, none⟩ = some (.int .i64 x.hb) := fun X => cell_of_cells X.ok.box 3
  have q4 : ∀ X : WIn Inv, X.world.cell? ⟨w.heap.size, 4, none⟩ = some (.string x.hr) := fun X => cell_of_cells X.ok.box 4
  have q5 : ∀ X : WIn Inv, X.world.cell? ⟨w.heap.size, 5, none⟩ = some (.int .i64 x.cr) := fun X => cell_of_cells X.ok.box 5
  have q6 : ∀ X : WIn Inv, X.world.cell? ⟨w.heap.size, 6, none⟩ = some (.int .i64 x.cc) := fun X => cell_of_cells X.ok.box 6
  have q7 : ∀ X : WIn Inv, X.world.cell? ⟨w.heap.size, 7, none⟩ = some (.slice s.ca s.cl s.cc) := fun X => cell_of_cells X.ok.box 7
  have q8 : ∀ X : WIn Inv, X.world.cell? ⟨w.heap.size, 8, none⟩ = some (.int .i64 x.gf) := fun X => cell_of_cells X.ok.box 8
  have q9 : ∀ X : WIn Inv, X.world.cell? ⟨w.heap.size, 9, none⟩ = some (.slice s.ga s.gl s.gc) := fun X => cell_of_cells X.ok.box 9
  have K1 : Hid (∀ X : WIn Inv, Calls Tryz.prog 126 #[.agg #[.slice s.ea s.el s.ec]] X.world fun e w' => e = .returned (.bool (exRight x.e)) ∧ ∃ Y : WIn Inv, w' = Y.world) := fun X => calls_class_below hgo (exact_Right_any x.e s.ea s.el s.ec X.world (HeldIn.lists X.ok).e.1)
  have hfin : Hid (∀ X : WIn Inv, Below w.heap.size w X.world) := fun X => HeldIn.below X.ok
  have hI0 : Hid (Inv W0.drew) := hI.go (Below.refl _ _).drew
  have hne : Nonempty (WIn Inv) := ⟨⟨_, hI0.out⟩⟩
  clear hx hI hgo
  clear_value Inv
  go_enter Tryz.func111, Tryz.ntmps111
  go_wp2_with fail
  refine wp_region_class Inv (by kernel_rfl) (by kernel_rfl) hI0.out ?_
  repeat (first | go_big_quiet_step ((go_at_call 126; with_reducible exact K1.out _)) | quiet_step ((go_at_call 126; with_reducible exact K1.out _)))
  refine wpQuiet_nil ?_
  rintro _ ⟨X, rfl⟩
  go_wp2_with fail
  go_ret2
  exact ⟨rfl, hfin.out X⟩

set_option maxRecDepth 100000 in
set_option maxHeartbeats 2000000 in
theorem distinct1_any (x : Sk) (s : SS) (w : World) (hx : s.At w.heap.size w x) (h0 : (x.level == 0) = false) (h1 : 0 ≤ x.level) (h2 : x.level ≤ 4) :
    Calls Tryz.prog 111 #[.agg #[.int .i64 x.kind, .int .i64 x.level, .slice s.ea s.el s.ec, .int .i64 x.hb, .string x.hr, .int .i64 x.cr, .int .i64 x.cc, .slice s.ca s.cl s.cc, .int .i64 x.gf, .slice s.ga s.gl s.gc]] w fun e w' => e = .returned (.tuple #[.iface 187 (.agg #[.int .i64 x.hb, .string x.hr]), .bool (hlRight x.hb x.hr && (x.hb == 8 - x.level))]) ∧ Below w.heap.size w w' := by
  have hI := held_in x s w hx
  obtain ⟨W0, hW0⟩ : ∃ W0, w.alloc (.cells #[.int .i64 x.kind, .int .i64 x.level, .slice s.ea s.el s.ec, .int .i64 x.hb, .string x.hr, .int .i64 x.cr, .int .i64 x.cc, .slice s.ca s.cl s.cc, .int .i64 x.gf, .slice s.ga s.gl s.gc] 138) = W0 := ⟨_, rfl⟩
  rw [hW0] at hI
  have c0 : W0.cell? ⟨w.heap.size, 0, none⟩ = some (.int .i64 x.kind) := cell_of_cells hI.box 0
  have c1 : W0.cell? ⟨w.heap.size, 1, none⟩ = some (.int .i64 x.level) := cell_of_cells hI.box 1
  have c2 : W0.cell? ⟨w.heap.size, 2, none⟩ = some (.slice s.ea s.el s.ec) := cell_of_cells hI.box 2
  have c3 : W0.cell? ⟨w.heap.size, 3, none⟩ = some (.int .i64 x.hb) := cell_of_cells hI.box 3
  have c4 : W0.cell? ⟨w.heap.size, 4, none⟩ = some (.string x.hr) := cell_of_cells hI.box 4
  have c5 : W0.cell? ⟨w.heap.size, 5, none⟩ = some (.int .i64 x.cr) := cell_of_cells hI.box 5
  have c6 : W0.cell? ⟨w.heap.size, 6, none⟩ = some (.int .i64 x.cc) := cell_of_cells hI.box 6
  have c7 : W0.cell? ⟨w.heap.size, 7, none⟩ = some (.slice s.ca s.cl s.cc) := cell_of_cells hI.box 7
  have c8 : W0.cell? ⟨w.heap.size, 8, none⟩ = some (.int .i64 x.gf) := cell_of_cells hI.box 8
  have c9 : W0.cell? ⟨w.heap.size, 9, none⟩ = some (.slice s.ga s.gl s.gc) := cell_of_cells hI.box 9
  let Inv : World → Prop := HeldIn x s w
  have hgo : ∀ W W', Inv W → Below W.heap.size W W' → Inv W' := fun W W' h hb => HeldIn.go h hb
  have q0 : ∀ X : WIn Inv, X.world.cell? ⟨w.heap.size, 0, none⟩ = some (.int .i64 x.kind) := fun X => cell_of_cells X.ok.box 0
  have q1 : ∀ X : WIn Inv, X.world.cell? ⟨w.heap.size, 1, none⟩ = some (.int .i64 x.level) := fun X => cell_of_cells X.ok.box 1
  have q2 : ∀ X : WIn Inv, X.world.cell? ⟨w.heap.size, 2, none⟩ = some (.slice s.ea s.el s.ec) := fun X => cell_of_cells X.ok.box 2
  have q3 : ∀ X : WIn Inv, X.world.cell? ⟨w.heap.size, 3, none⟩ = some (.int .i64 x.hb) := fun X => cell_of_cells X.ok.box 3
  have q4 : ∀ X : WIn Inv, X.world.cell? ⟨w.heap.size, 4, none⟩ = some (.string x.hr) := fun X => cell_of_cells X.ok.box 4
  have q5 : ∀ X : WIn Inv, X.world.cell? ⟨w.heap.size, 5, none⟩ = some (.int .i64 x.cr) := fun X => cell_of_cells X.ok.box 5
  have q6 : ∀ X : WIn Inv, X.world.cell? ⟨w.heap.size, 6, none⟩ = some (.int .i64 x.cc) := fun X => cell_of_cells X.ok.box 6
  have q7 : ∀ X : WIn Inv, X.world.cell? ⟨w.heap.size, 7, none⟩ = some (.slice s.ca s.cl s.cc) := fun X => cell_of_cells X.ok.box 7
  have q8 : ∀ X : WIn Inv, X.world.cell? ⟨w.heap.size, 8, none⟩ = some (.int .i64 x.gf) := fun X => cell_of_cells X.ok.box 8
  have q9 : ∀ X : WIn Inv, X.world.cell? ⟨w.heap.size, 9, none⟩ = some (.slice s.ga s.gl s.gc) := fun X => cell_of_cells X.ok.box 9
  have K0 : Hid (∀ X : WIn Inv, Calls Tryz.prog 127 #[.agg #[.int .i64 x.hb, .string x.hr]] X.world fun e w' => e = .returned (.bool (hlRight x.hb x.hr)) ∧ ∃ Y : WIn Inv, w' = Y.world) := fun X => calls_class_below hgo (hll_Right_any x.hb x.hr X.world)
  have hfin : Hid (∀ X : WIn Inv, Below w.heap.size w X.world) := fun X => HeldIn.below X.ok
  have hI0 : Hid (Inv W0.drew) := hI.go (Below.refl _ _).drew
  have hne : Nonempty (WIn Inv) := ⟨⟨_, hI0.out⟩⟩
  have hw : IntKind.i64.wrap (8 - x.level) = 8 - x.level := IntWalk.i64_in _ (by omega)
  clear hx hI hgo
  clear_value Inv
  generalize hlRight x.hb x.hr = b1 at K0 ⊢
  cases b1
  · have K1 := Lib.hid K0.out
    clear K0
    go_enter Tryz.func111, Tryz.ntmps111
    go_wp2_with fail
    refine wp_region_class Inv (by kernel_rfl) (by kernel_rfl) hI0.out ?_
    repeat (first | go_big_quiet_step ((go_at_call 127; with_reducible exact K1.out _)) | quiet_step ((go_at_call 127; with_reducible exact K1.out _)))
    refine wpQuiet_nil ?_
    rintro _ ⟨X, rfl⟩
    go_wp2_with fail
    go_ret2
    exact ⟨rfl, hfin.out X⟩
  · have K1 := Lib.hid K0.out
    clear K0
    go_enter Tryz.func111, Tryz.ntmps111
    go_wp2_with fail
    refine wp_region_class Inv (by kernel_rfl) (by kernel_rfl) hI0.out ?_
    repeat (first | go_big_quiet_step ((go_at_call 127; with_reducible exact K1.out _)) | quiet_step ((go_at_call 127; with_reducible exact K1.out _)))
    refine wpQuiet_nil ?_
    rintro _ ⟨X, rfl⟩
    go_wp2_with fail
    go_ret2
    exact ⟨by simp, hfin.out X⟩
end Go.Proofs.YtmkefodaibmkhaaGreatDoor
namespace Go.Proofs.YtmkefodaibmkhaaGreatDoor
open Go Go.RowKit

set_option maxRecDepth 100000 in
set_option maxHeartbeats 4000000 in
theorem count_any (x : Sk) (s : SS) (w : World) (hx : s.At w.heap.size w x) (h1 : 0 ≤ x.level) (h2 : x.level ≤ 3) :
    Calls Tryz.prog 112 #[.agg #[.int .i64 x.kind, .int .i64 x.level, .slice s.ea s.el s.ec, .int .i64 x.hb, .string x.hr, .int .i64 x.cr, .int .i64 x.cc, .slice s.ca s.cl s.cc, .int .i64 x.gf, .slice s.ga s.gl s.gc]] w fun e w' => e = .returned (.tuple #[.iface 188 (.agg #[.int .i64 x.cr, .int .i64 x.cc, .slice s.ca s.cl s.cc]), .bool (cmRight x.cr x.cc x.cl && (x.cr == 2) && (x.cc == 32 / 2 ^ x.level.toNat))]) ∧ Below w.heap.size w w' := by
  have hI := held_in x s w hx
  obtain ⟨W0, hW0⟩ : ∃ W0, w.alloc (.cells #[.int .i64 x.kind, .int .i64 x.level, .slice s.ea s.el s.ec, .int .i64 x.hb, .string x.hr, .int .i64 x.cr, .int .i64 x.cc, .slice s.ca s.cl s.cc, .int .i64 x.gf, .slice s.ga s.gl s.gc] 138) = W0 := ⟨_, rfl⟩
  rw [hW0] at hI
  have c0 : W0.cell? ⟨w.heap.size, 0, none⟩ = some (.int .i64 x.kind) := cell_of_cells hI.box 0
  have c1 : W0.cell? ⟨w.heap.size, 1, none⟩ = some (.int .i64 x.level) := cell_of_cells hI.box 1
  have c2 : W0.cell? ⟨w.heap.size, 2, none⟩ = some (.slice s.ea s.el s.ec) := cell_of_cells hI.box 2
  have c3 : W0.cell? ⟨w.heap.size, 3, none⟩ = some (.int .i64 x.hb) := cell_of_cells hI.box 3
  have c4 : W0.cell? ⟨w.heap.size, 4, none⟩ = some (.string x.hr) := cell_of_cells hI.box 4
  have c5 : W0.cell? ⟨w.heap.size, 5, none⟩ = some (.int .i64 x.cr) := cell_of_cells hI.box 5
  have c6 : W0.cell? ⟨w.heap.size, 6, none⟩ = some (.int .i64 x.cc) := cell_of_cells hI.box 6
  have c7 : W0.cell? ⟨w.heap.size, 7, none⟩ = some (.slice s.ca s.cl s.cc) := cell_of_cells hI.box 7
  have c8 : W0.cell? ⟨w.heap.size, 8, none⟩ = some (.int .i64 x.gf) := cell_of_cells hI.box 8
  have c9 : W0.cell? ⟨w.heap.size, 9, none⟩ = some (.slice s.ga s.gl s.gc) := cell_of_cells hI.box 9
  let Inv : World → Prop := HeldIn x s w
  have hgo : ∀ W W', Inv W → Below W.heap.size W W' → Inv W' := fun W W' h hb => HeldIn.go h hb
  have q0 : ∀ X : WIn Inv, X.world.cell? ⟨w.heap.size, 0, none⟩ = some (.int .i64 x.kind) := fun X => cell_of_cells X.ok.box 0
  have q1 : ∀ X : WIn Inv, X.world.cell? ⟨w.heap.size, 1, none⟩ = some (.int .i64 x.level) := fun X => cell_of_cells X.ok.box 1
  have q2 : ∀ X : WIn Inv, X.world.cell? ⟨w.heap.size, 2, none⟩ = some (.slice s.ea s.el s.ec) := fun X => cell_of_cells X.ok.box 2
  have q3 : ∀ X : WIn Inv, X.world.cell? ⟨w.heap.size, 3, none⟩ = some (.int .i64 x.hb) := fun X => cell_of_cells X.ok.box 3
  have q4 : ∀ X : WIn Inv, X.world.cell? ⟨w.heap.size, 4, none⟩ = some (.string x.hr) := fun X => cell_of_cells X.ok.box 4
  have q5 : ∀ X : WIn Inv, X.world.cell? ⟨w.heap.size, 5, none⟩ = some (.int .i64 x.cr) := fun X => cell_of_cells X.ok.box 5
  have q6 : ∀ X : WIn Inv, X.world.cell? ⟨w.heap.size, 6, none⟩ = some (.int .i64 x.cc) := fun X => cell_of_cells X.ok.box 6
  have q7 : ∀ X : WIn Inv, X.world.cell? ⟨w.heap.size, 7, none⟩ = some (.slice s.ca s.cl s.cc) := fun X => cell_of_cells X.ok.box 7
  have q8 : ∀ X : WIn Inv, X.world.cell? ⟨w.heap.size, 8, none⟩ = some (.int .i64 x.gf) := fun X => cell_of_cells X.ok.box 8
  have q9 : ∀ X : WIn Inv, X.world.cell? ⟨w.heap.size, 9, none⟩ = some (.slice s.ga s.gl s.gc) := fun X => cell_of_cells X.ok.box 9
  have K0 : Hid (∀ X : WIn Inv, Calls Tryz.prog 128 #[.agg #[.int .i64 x.cr, .int .i64 x.cc, .slice s.ca s.cl s.cc]] X.world fun e w' => e = .returned (.bool (cmRight x.cr x.cc x.cl)) ∧ ∃ Y : WIn Inv, w' = Y.world) := fun X => calls_class_below hgo (cms_Right_any x.cr x.cc x.cl s.ca s.cl s.cc X.world (HeldIn.lists X.ok).c.1.1)
  have hfin : Hid (∀ X : WIn Inv, Below w.heap.size w X.world) := fun X => HeldIn.below X.ok
  have hI0 : Hid (Inv W0.drew) := hI.go (Below.refl _ _).drew
  have hne : Nonempty (WIn Inv) := ⟨⟨_, hI0.out⟩⟩
  clear hx hI hgo
  clear_value Inv
  generalize cmRight x.cr x.cc x.cl = b1 at K0 ⊢
  have hcs : b1 = false ∨ (b1 = true ∧ (x.cr == 2) = false) ∨ (b1 = true ∧ (x.cr == 2) = true) := by cases b1 <;> cases h : (x.cr == 2) <;> simp_all
  have K1 := Lib.hid K0.out
  clear K0
  rcases hcs with rfl | ⟨rfl, t2⟩ | ⟨rfl, t2⟩
  · go_enter Tryz.func112, Tryz.ntmps112
    go_wp2_with fail
    refine wp_region_class Inv (by kernel_rfl) (by kernel_rfl) hI0.out ?_
    repeat (first | go_big_quiet_step ((go_at_call 128; with_reducible exact K1.out _)) | quiet_step ((go_at_call 128; with_reducible exact K1.out _)))
    refine wpQuiet_nil ?_
    rintro _ ⟨X, rfl⟩
    go_wp2_with fail
    go_ret2
    exact ⟨rfl, hfin.out X⟩
  · go_enter Tryz.func112, Tryz.ntmps112
    go_wp2_with fail
    refine wp_region_class Inv (by kernel_rfl) (by kernel_rfl) hI0.out ?_
    repeat (first | go_big_quiet_step ((go_at_call 128; with_reducible exact K1.out _)) | quiet_step ((go_at_call 128; with_reducible exact K1.out _)))
    refine wpQuiet_nil ?_
    rintro _ ⟨X, rfl⟩
    go_wp2_with fail
    go_ret2
    exact ⟨by simp [t2], hfin.out X⟩
  · go_enter Tryz.func112, Tryz.ntmps112
    go_wp2_with fail
    refine wp_region_class Inv (by kernel_rfl) (by kernel_rfl) hI0.out ?_
    repeat (first | go_big_quiet_step ((go_at_call 128; with_reducible exact K1.out _)) | quiet_step ((go_at_call 128; with_reducible exact K1.out _)))
    refine wpQuiet_nil ?_
    rintro _ ⟨X, rfl⟩
    go_wp2_with fail
    go_ret2
    exact ⟨by simp [t2], hfin.out X⟩

set_option maxRecDepth 100000 in
set_option maxHeartbeats 4000000 in
theorem lie_any (x : Sk) (s : SS) (w : World) (hx : s.At w.heap.size w x) (h1 : 0 ≤ x.level) (h2 : x.level ≤ 3) (hb : ∀ b ∈ x.gl, b.1 ≤ 9223372036854775807) :
    Calls Tryz.prog 113 #[.agg #[.int .i64 x.kind, .int .i64 x.level, .slice s.ea s.el s.ec, .int .i64 x.hb, .string x.hr, .int .i64 x.cr, .int .i64 x.cc, .slice s.ca s.cl s.cc, .int .i64 x.gf, .slice s.ga s.gl s.gc]] w fun e w' => e = .returned (.tuple #[.iface 190 (.agg #[.int .i64 x.gf, .slice s.ga s.gl s.gc]), .bool (hiRight x.gf x.gl && (x.gf == 3 - x.level))]) ∧ Below w.heap.size w w' := by
  have hI := held_in x s w hx
  obtain ⟨W0, hW0⟩ : ∃ W0, w.alloc (.cells #[.int .i64 x.kind, .int .i64 x.level, .slice s.ea s.el s.ec, .int .i64 x.hb, .string x.hr, .int .i64 x.cr, .int .i64 x.cc, .slice s.ca s.cl s.cc, .int .i64 x.gf, .slice s.ga s.gl s.gc] 138) = W0 := ⟨_, rfl⟩
  rw [hW0] at hI
  have c0 : W0.cell? ⟨w.heap.size, 0, none⟩ = some (.int .i64 x.kind) := cell_of_cells hI.box 0
  have c1 : W0.cell? ⟨w.heap.size, 1, none⟩ = some (.int .i64 x.level) := cell_of_cells hI.box 1
  have c2 : W0.cell? ⟨w.heap.size, 2, none⟩ = some (.slice s.ea s.el s.ec) := cell_of_cells hI.box 2
  have c3 : W0.cell? ⟨w.heap.size, 3, none⟩ = some (.int .i64 x.hb) := cell_of_cells hI.box 3
  have c4 : W0.cell? ⟨w.heap.size, 4, none⟩ = some (.string x.hr) := cell_of_cells hI.box 4
  have c5 : W0.cell? ⟨w.heap.size, 5, none⟩ = some (.int .i64 x.cr) := cell_of_cells hI.box 5
  have c6 : W0.cell? ⟨w.heap.size, 6, none⟩ = some (.int .i64 x.cc) := cell_of_cells hI.box 6
  have c7 : W0.cell? ⟨w.heap.size, 7, none⟩ = some (.slice s.ca s.cl s.cc) := cell_of_cells hI.box 7
  have c8 : W0.cell? ⟨w.heap.size, 8, none⟩ = some (.int .i64 x.gf) := cell_of_cells hI.box 8
  have c9 : W0.cell? ⟨w.heap.size, 9, none⟩ = some (.slice s.ga s.gl s.gc) := cell_of_cells hI.box 9
  let Inv : World → Prop := HeldIn x s w
  have hgo : ∀ W W', Inv W → Below W.heap.size W W' → Inv W' := fun W W' h hb => HeldIn.go h hb
  have q0 : ∀ X : WIn Inv, X.world.cell? ⟨w.heap.size, 0, none⟩ = some (.int .i64 x.kind) := fun X => cell_of_cells X.ok.box 0
  have q1 : ∀ X : WIn Inv, X.world.cell? ⟨w.heap.size, 1, none⟩ = some (.int .i64 x.level) := fun X => cell_of_cells X.ok.box 1
  have q2 : ∀ X : WIn Inv, X.world.cell? ⟨w.heap.size, 2, none⟩ = some (.slice s.ea s.el s.ec) := fun X => cell_of_cells X.ok.box 2
  have q3 : ∀ X : WIn Inv, X.world.cell? ⟨w.heap.size, 3, none⟩ = some (.int .i64 x.hb) := fun X => cell_of_cells X.ok.box 3
  have q4 : ∀ X : WIn Inv, X.world.cell? ⟨w.heap.size, 4, none⟩ = some (.string x.hr) := fun X => cell_of_cells X.ok.box 4
  have q5 : ∀ X : WIn Inv, X.world.cell? ⟨w.heap.size, 5, none⟩ = some (.int .i64 x.cr) := fun X => cell_of_cells X.ok.box 5
  have q6 : ∀ X : WIn Inv, X.world.cell? ⟨w.heap.size, 6, none⟩ = some (.int .i64 x.cc) := fun X => cell_of_cells X.ok.box 6
  have q7 : ∀ X : WIn Inv, X.world.cell? ⟨w.heap.size, 7, none⟩ = some (.slice s.ca s.cl s.cc) := fun X => cell_of_cells X.ok.box 7
  have q8 : ∀ X : WIn Inv, X.world.cell? ⟨w.heap.size, 8, none⟩ = some (.int .i64 x.gf) := fun X => cell_of_cells X.ok.box 8
  have q9 : ∀ X : WIn Inv, X.world.cell? ⟨w.heap.size, 9, none⟩ = some (.slice s.ga s.gl s.gc) := fun X => cell_of_cells X.ok.box 9
  have K0 : Hid (∀ X : WIn Inv, Calls Tryz.prog 129 #[.agg #[.int .i64 x.gf, .slice s.ga s.gl s.gc]] X.world fun e w' => e = .returned (.bool (hiRight x.gf x.gl)) ∧ ∃ Y : WIn Inv, w' = Y.world) := fun X => calls_class_below hgo (hist_Right_any x.gf x.gl s.ga s.gl s.gc X.world (HeldIn.lists X.ok).g.1 (Nat.le_trans (HeldIn.lists X.ok).g.2.1 (HeldIn.lists X.ok).g.2.2.1) hb)
  have hfin : Hid (∀ X : WIn Inv, Below w.heap.size w X.world) := fun X => HeldIn.below X.ok
  have hI0 : Hid (Inv W0.drew) := hI.go (Below.refl _ _).drew
  have hne : Nonempty (WIn Inv) := ⟨⟨_, hI0.out⟩⟩
  have hw : IntKind.i64.wrap (3 - x.level) = 3 - x.level := IntWalk.i64_in _ (by omega)
  clear hx hI hgo hb
  clear_value Inv
  generalize hiRight x.gf x.gl = b1 at K0 ⊢
  have K1 := Lib.hid K0.out
  clear K0
  cases b1
  · go_enter Tryz.func113, Tryz.ntmps113
    go_wp2_with fail
    refine wp_region_class Inv (by kernel_rfl) (by kernel_rfl) hI0.out ?_
    repeat (first | go_big_quiet_step ((go_at_call 129; with_reducible exact K1.out _)) | quiet_step ((go_at_call 129; with_reducible exact K1.out _)))
    refine wpQuiet_nil ?_
    rintro _ ⟨X, rfl⟩
    go_wp2_with fail
    go_ret2
    exact ⟨rfl, hfin.out X⟩
  · go_enter Tryz.func113, Tryz.ntmps113
    go_wp2_with fail
    refine wp_region_class Inv (by kernel_rfl) (by kernel_rfl) hI0.out ?_
    repeat (first | go_big_quiet_step ((go_at_call 129; with_reducible exact K1.out _)) | quiet_step ((go_at_call 129; with_reducible exact K1.out _)))
    refine wpQuiet_nil ?_
    rintro _ ⟨X, rfl⟩
    go_wp2_with fail
    go_ret2
    exact ⟨by simp, hfin.out X⟩

/-! ### kinds -/
def kindsMap : Array MapEntry := #[{ key := .int .i64 1, val := .func (.func 111) #[] #[], born := 0 }, { key := .int .i64 2, val := .func (.func 112) #[] #[], born := 1 }, { key := .int .i64 3, val := .func (.func 113) #[] #[], born := 2 }]
theorem und_kinds : Tryz.prog.underlying 134 = some (.map 3 132) := by kernel_rfl
theorem kinds_any (w : World) : Calls Tryz.prog 80 #[] w fun e w' => e = .returned (.map (some w.heap.size)) ∧ w' = w.alloc (.map kindsMap 3) := by
  have hmm := @run_makeMap Tryz.prog
  have u1 := mapUpd_alloc (P := Tryz.prog) w (clock := 0) (es := #[]) (n := 1) (.func (.func 111) #[] #[]) und_kinds Tryz.underlying3 rfl
  have u2 := mapUpd_alloc (P := Tryz.prog) w (clock := 1) (es := #[{ key := .int .i64 1, val := .func (.func 111) #[] #[], born := 0 }]) (n := 2) (.func (.func 112) #[] #[]) und_kinds Tryz.underlying3 rfl
  have u3 := mapUpd_alloc (P := Tryz.prog) w (clock := 2) (es := #[{ key := .int .i64 1, val := .func (.func 111) #[] #[], born := 0 }, { key := .int .i64 2, val := .func (.func 112) #[] #[], born := 1 }]) (n := 3) (.func (.func 113) #[] #[]) und_kinds Tryz.underlying3 rfl
  simp only [List.push_toArray, List.nil_append, List.cons_append, Nat.zero_add, Nat.reduceAdd] at u1 u2 u3
  go_enter Tryz.func80, Tryz.ntmps80
  go_wp2_with fail
  go_ret
  exact ⟨rfl, rfl⟩
end Go.Proofs.YtmkefodaibmkhaaGreatDoor
namespace Go.Proofs.YtmkefodaibmkhaaGreatDoor
open Go Go.RowKit

theorem isNum (v : Value) (w : World) (a : Option Addr) (l c : Nat) (hv : v = .agg #[.slice a l c]) : (Instr.typeAssert (.iface 184 v) 66 184 true).run Tryz.prog w = .ok (.tuple #[v, .bool true]) w := by subst hv; kernel_rfl
theorem set10 {W : World} {B : Nat} {x0 x1 x2 x3 x4 x5 x6 x7 x8 x9 v0 v1 v2 v3 v4 v5 v6 v7 v8 v9 : Value} {t : TypeId} (h : W.heap[B]? = some (.cells #[x0, x1, x2, x3, x4, x5, x6, x7, x8, x9] t (0, 0))) :
    ((((((((((W.setCell ⟨B, 0, none⟩ v0).setCell ⟨B, 1, none⟩ v1).setCell ⟨B, 2, none⟩ v2).setCell ⟨B, 3, none⟩ v3).setCell ⟨B, 4, none⟩ v4).setCell ⟨B, 5, none⟩ v5).setCell ⟨B, 6, none⟩ v6).setCell ⟨B, 7, none⟩ v7).setCell ⟨B, 8, none⟩ v8).setCell ⟨B, 9, none⟩ v9).heap[B]? = some (.cells #[v0, v1, v2, v3, v4, v5, v6, v7, v8, v9] t (0, 0)) := by
  replace h : (W.setCell ⟨B, 0, none⟩ v0).heap[B]? = some (.cells #[v0, x1, x2, x3, x4, x5, x6, x7, x8, x9] t (0, 0)) := heap_set_known h v0
  generalize W.setCell ⟨B, 0, none⟩ v0 = W at h ⊢
  replace h : (W.setCell ⟨B, 1, none⟩ v1).heap[B]? = some (.cells #[v0, v1, x2, x3, x4, x5, x6, x7, x8, x9] t (0, 0)) := heap_set_known h v1
  generalize W.setCell ⟨B, 1, none⟩ v1 = W at h ⊢
  replace h : (W.setCell ⟨B, 2, none⟩ v2).heap[B]? = some (.cells #[v0, v1, v2, x3, x4, x5, x6, x7, x8, x9] t (0, 0)) := heap_set_known h v2
  generalize W.setCell ⟨B, 2, none⟩ v2 = W at h ⊢
  replace h : (W.setCell ⟨B, 3, none⟩ v3).heap[B]? = some (.cells #[v0, v1, v2, v3, x4, x5, x6, x7, x8, x9] t (0, 0)) := heap_set_known h v3
  generalize W.setCell ⟨B, 3, none⟩ v3 = W at h ⊢
  replace h : (W.setCell ⟨B, 4, none⟩ v4).heap[B]? = some (.cells #[v0, v1, v2, v3, v4, x5, x6, x7, x8, x9] t (0, 0)) := heap_set_known h v4
  generalize W.setCell ⟨B, 4, none⟩ v4 = W at h ⊢
  replace h : (W.setCell ⟨B, 5, none⟩ v5).heap[B]? = some (.cells #[v0, v1, v2, v3, v4, v5, x6, x7, x8, x9] t (0, 0)) := heap_set_known h v5
  generalize W.setCell ⟨B, 5, none⟩ v5 = W at h ⊢
  replace h : (W.setCell ⟨B, 6, none⟩ v6).heap[B]? = some (.cells #[v0, v1, v2, v3, v4, v5, v6, x7, x8, x9] t (0, 0)) := heap_set_known h v6
  generalize W.setCell ⟨B, 6, none⟩ v6 = W at h ⊢
  replace h : (W.setCell ⟨B, 7, none⟩ v7).heap[B]? = some (.cells #[v0, v1, v2, v3, v4, v5, v6, v7, x8, x9] t (0, 0)) := heap_set_known h v7
  generalize W.setCell ⟨B, 7, none⟩ v7 = W at h ⊢
  replace h : (W.setCell ⟨B, 8, none⟩ v8).heap[B]? = some (.cells #[v0, v1, v2, v3, v4, v5, v6, v7, v8, x9] t (0, 0)) := heap_set_known h v8
  generalize W.setCell ⟨B, 8, none⟩ v8 = W at h ⊢
  replace h : (W.setCell ⟨B, 9, none⟩ v9).heap[B]? = some (.cells #[v0, v1, v2, v3, v4, v5, v6, v7, v8, v9] t (0, 0)) := heap_set_known h v9
  generalize W.setCell ⟨B, 9, none⟩ v9 = W at h ⊢
  exact h
/-- What sketch hands back: a sketch whose lists lie in new memory. -/
def SkPost (y : Sk) (w : World) (e : Ending) (w' : World) : Prop := ∃ s : SS, e = .returned (.agg #[.int .i64 y.kind, .int .i64 y.level, .slice s.ea s.el s.ec, .int .i64 y.hb, .string y.hr, .int .i64 y.cr, .int .i64 y.cc, .slice s.ca s.cl s.cc, .int .i64 y.gf, .slice s.ga s.gl s.gc]) ∧ s.At w'.heap.size w' y ∧ (∀ z, s.ea = some z → w.heap.size ≤ z.block) ∧ (∀ z, s.ca = some z → w.heap.size ≤ z.block) ∧ (∀ z, s.ga = some z → w.heap.size ≤ z.block) ∧ Below w.heap.size w w'
def skNum (kind level : Int) (l : List Int) : Sk := ⟨kind, level, l, 0, ⟨#[]⟩, 0, 0, [], 0, []⟩

/-- The lists of s do not lie in block b. -/
def SS.Far (s : SS) (b : Nat) : Prop := (∀ z, s.ea = some z → b ≠ z.block) ∧ (∀ z, s.ca = some z → b ≠ z.block) ∧ (∀ z, s.ga = some z → b ≠ z.block)
theorem SS.At.set {s : SS} {n : Nat} {W : World} {x : Sk} (h : s.At n W x) {b o : Nat} (hf : s.Far b) (v : Value) : s.At n (W.setCell ⟨b, o, none⟩ v) x :=
  ⟨h.e.set_far (p := ⟨b, o, none⟩) hf.1 v, h.c.set_far (p := ⟨b, o, none⟩) hf.2.1 v, h.g.set_far (p := ⟨b, o, none⟩) hf.2.2 v⟩
theorem heap_set_other {W : World} {p : Addr} {b : Nat} (h : p.block ≠ b) (v : Value) : (W.setCell p v).heap[b]? = W.heap[b]? := by
  show (W.heap.modify p.block _)[b]? = _
  rw [Array.getElem?_modify]
  simp [h]
theorem size_set (W : World) (p : Addr) (v : Value) : (W.setCell p v).heap.size = W.heap.size := by simp [World.setCell]
/-- The way out of a function whose result is a sketch in the block behind its first one. -/
theorem sk_ret {w W : World} {y : Sk} {s : SS} {tm : Array Value} {x0 x1 x2 x3 x4 x5 x6 x7 x8 x9 : Value} (hY : W.heap[w.heap.size + 1]? = some (.cells #[x0, x1, x2, x3, x4, x5, x6, x7, x8, x9] 36 (0, 0))) (hB : Below w.heap.size w W) (hA : s.At W.heap.size W y)
    (h1 : ∀ z, s.ea = some z → w.heap.size + 2 ≤ z.block) (h2 : ∀ z, s.ca = some z → w.heap.size + 2 ≤ z.block) (h3 : ∀ z, s.ga = some z → w.heap.size + 2 ≤ z.block)
    (t2 : tm[2]?.getD undef = .pointer (some ⟨w.heap.size + 1, 0, none⟩)) :
    bodyPost Tryz.prog Tryz.f81 (SkPost y w) Exit.ret { tmps := tm, defers := [] }
      ((((((((((W.setCell ⟨w.heap.size + 1, 0, none⟩ (.int .i64 y.kind)).setCell ⟨w.heap.size + 1, 1, none⟩ (.int .i64 y.level)).setCell ⟨w.heap.size + 1, 2, none⟩ (.slice s.ea s.el s.ec)).setCell ⟨w.heap.size + 1, 3, none⟩ (.int .i64 y.hb)).setCell ⟨w.heap.size + 1, 4, none⟩ (.string y.hr)).setCell ⟨w.heap.size + 1, 5, none⟩ (.int .i64 y.cr)).setCell ⟨w.heap.size + 1, 6, none⟩ (.int .i64 y.cc)).setCell ⟨w.heap.size + 1, 7, none⟩ (.slice s.ca s.cl s.cc)).setCell ⟨w.heap.size + 1, 8, none⟩ (.int .i64 y.gf)).setCell ⟨w.heap.size + 1, 9, none⟩ (.slice s.ga s.gl s.gc)) := by
  have hf : s.Far (w.heap.size + 1) := ⟨fun z hz => by have := h1 z hz; omega, fun z hz => by have := h2 z hz; omega, fun z hz => by have := h3 z hz; omega⟩
  have hX := set10 (v0 := .int .i64 y.kind) (v1 := .int .i64 y.level) (v2 := .slice s.ea s.el s.ec) (v3 := .int .i64 y.hb) (v4 := .string y.hr) (v5 := .int .i64 y.cr) (v6 := .int .i64 y.cc) (v7 := .slice s.ca s.cl s.cc) (v8 := .int .i64 y.gf) (v9 := .slice s.ga s.gl s.gc) hY
  have hA' := (((((((((hA.set (o := 0) hf (.int .i64 y.kind)).set (o := 1) hf (.int .i64 y.level)).set (o := 2) hf (.slice s.ea s.el s.ec)).set (o := 3) hf (.int .i64 y.hb)).set (o := 4) hf (.string y.hr)).set (o := 5) hf (.int .i64 y.cr)).set (o := 6) hf (.int .i64 y.cc)).set (o := 7) hf (.slice s.ca s.cl s.cc)).set (o := 8) hf (.int .i64 y.gf)).set (o := 9) hf (.slice s.ga s.gl s.gc)
  have hB' := (((((((((hB.setCell (p := ⟨w.heap.size + 1, 0, none⟩) (Nat.le_succ _) (.int .i64 y.kind)).setCell (p := ⟨w.heap.size + 1, 1, none⟩) (Nat.le_succ _) (.int .i64 y.level)).setCell (p := ⟨w.heap.size + 1, 2, none⟩) (Nat.le_succ _) (.slice s.ea s.el s.ec)).setCell (p := ⟨w.heap.size + 1, 3, none⟩) (Nat.le_succ _) (.int .i64 y.hb)).setCell (p := ⟨w.heap.size + 1, 4, none⟩) (Nat.le_succ _) (.string y.hr)).setCell (p := ⟨w.heap.size + 1, 5, none⟩) (Nat.le_succ _) (.int .i64 y.cr)).setCell (p := ⟨w.heap.size + 1, 6, none⟩) (Nat.le_succ _) (.int .i64 y.cc)).setCell (p := ⟨w.heap.size + 1, 7, none⟩) (Nat.le_succ _) (.slice s.ca s.cl s.cc)).setCell (p := ⟨w.heap.size + 1, 8, none⟩) (Nat.le_succ _) (.int .i64 y.gf)).setCell (p := ⟨w.heap.size + 1, 9, none⟩) (Nat.le_succ _) (.slice s.ga s.gl s.gc)
  rw [show W.heap.size = _ from (by simp only [size_set] : W.heap.size = ((((((((((W.setCell ⟨w.heap.size + 1, 0, none⟩ (.int .i64 y.kind)).setCell ⟨w.heap.size + 1, 1, none⟩ (.int .i64 y.level)).setCell ⟨w.heap.size + 1, 2, none⟩ (.slice s.ea s.el s.ec)).setCell ⟨w.heap.size + 1, 3, none⟩ (.int .i64 y.hb)).setCell ⟨w.heap.size + 1, 4, none⟩ (.string y.hr)).setCell ⟨w.heap.size + 1, 5, none⟩ (.int .i64 y.cr)).setCell ⟨w.heap.size + 1, 6, none⟩ (.int .i64 y.cc)).setCell ⟨w.heap.size + 1, 7, none⟩ (.slice s.ca s.cl s.cc)).setCell ⟨w.heap.size + 1, 8, none⟩ (.int .i64 y.gf)).setCell ⟨w.heap.size + 1, 9, none⟩ (.slice s.ga s.gl s.gc)).heap.size)] at hA'
  generalize ((((((((((W.setCell ⟨w.heap.size + 1, 0, none⟩ (.int .i64 y.kind)).setCell ⟨w.heap.size + 1, 1, none⟩ (.int .i64 y.level)).setCell ⟨w.heap.size + 1, 2, none⟩ (.slice s.ea s.el s.ec)).setCell ⟨w.heap.size + 1, 3, none⟩ (.int .i64 y.hb)).setCell ⟨w.heap.size + 1, 4, none⟩ (.string y.hr)).setCell ⟨w.heap.size + 1, 5, none⟩ (.int .i64 y.cr)).setCell ⟨w.heap.size + 1, 6, none⟩ (.int .i64 y.cc)).setCell ⟨w.heap.size + 1, 7, none⟩ (.slice s.ca s.cl s.cc)).setCell ⟨w.heap.size + 1, 8, none⟩ (.int .i64 y.gf)).setCell ⟨w.heap.size + 1, 9, none⟩ (.slice s.ga s.gl s.gc)) = Z at hX hA' hB' ⊢
  have k0 : Z.cell? ⟨w.heap.size + 1, 0, none⟩ = some (.int .i64 y.kind) := cell_of_cells hX 0
  have k1 : Z.cell? ⟨w.heap.size + 1, 1, none⟩ = some (.int .i64 y.level) := cell_of_cells hX 1
  have k2 : Z.cell? ⟨w.heap.size + 1, 2, none⟩ = some (.slice s.ea s.el s.ec) := cell_of_cells hX 2
  have k3 : Z.cell? ⟨w.heap.size + 1, 3, none⟩ = some (.int .i64 y.hb) := cell_of_cells hX 3
  have k4 : Z.cell? ⟨w.heap.size + 1, 4, none⟩ = some (.string y.hr) := cell_of_cells hX 4
  have k5 : Z.cell? ⟨w.heap.size + 1, 5, none⟩ = some (.int .i64 y.cr) := cell_of_cells hX 5
  have k6 : Z.cell? ⟨w.heap.size + 1, 6, none⟩ = some (.int .i64 y.cc) := cell_of_cells hX 6
  have k7 : Z.cell? ⟨w.heap.size + 1, 7, none⟩ = some (.slice s.ca s.cl s.cc) := cell_of_cells hX 7
  have k8 : Z.cell? ⟨w.heap.size + 1, 8, none⟩ = some (.int .i64 y.gf) := cell_of_cells hX 8
  have k9 : Z.cell? ⟨w.heap.size + 1, 9, none⟩ = some (.slice s.ga s.gl s.gc) := cell_of_cells hX 9
  refine bodyPost_ret (v := .agg #[.int .i64 y.kind, .int .i64 y.level, .slice s.ea s.el s.ec, .int .i64 y.hb, .string y.hr, .int .i64 y.cr, .int .i64 y.cc, .slice s.ca s.cl s.cc, .int .i64 y.gf, .slice s.ga s.gl s.gc]) (by simp [results, Tryz.f81, go_sem, t2, k0, k1, k2, k3, k4, k5, k6, k7, k8, k9]) rfl ⟨s, rfl, hA', fun z hz => by have := h1 z hz; omega, fun z hz => by have := h2 z hz; omega, fun z hz => by have := h3 z hz; omega, hB'⟩

set_option maxRecDepth 100000 in
set_option maxHeartbeats 4000000 in
theorem sketch_num (kind level : Int) (l : List Int) (a : Option Addr) (len cap : Nat) (w : World) (hL : SlE encU 1 w.heap.size w a len l) (hll : len < 2147483648) :
    Calls Tryz.prog 81 #[.agg #[.iface 184 (.agg #[.slice a len cap]), .int .i64 kind, .int .i64 level]] w (SkPost (skNum kind level l) w) := by
  obtain ⟨W0, hW0, hX0, hX1, hX2, hB0, hs0⟩ := boxes3 w #[.iface 184 (.agg #[.slice a len cap]), .int .i64 kind, .int .i64 level] 68 #[.int .i64 0, .int .i64 0, .slice none 0 0, .int .i64 0, .string ⟨#[]⟩, .int .i64 0, .int .i64 0, .slice none 0 0, .int .i64 0, .slice none 0 0] 36 #[.int .i64 kind, .int .i64 level, .slice none 0 0, .int .i64 0, .string ⟨#[]⟩, .int .i64 0, .int .i64 0, .slice none 0 0, .int .i64 0, .slice none 0 0] 36
  have ht := fun w => isNum (.agg #[.slice a len cap]) w a len cap rfl
  obtain ⟨W1, hW1, hX3, hB1, hs1⟩ := boxes1 W0 #[.slice a len cap] 184
  have hB01 := hB0.trans (hB1.mono hB0.size)
  have hC := clone_u64 a len cap l W1 (hL.go hB01) hll
  have HW0 := Lib.hid hW0
  have HW1 := Lib.hid hW1
  have HX1 := Lib.hid (known hB1 (Nat.le_refl _) hX1)
  have HX2 := Lib.hid (known hB1 (Nat.le_refl _) hX2)
  have hz : w.heap.size + 3 < W1.heap.size := by omega
  clear hL hW0 hW1 hX0 hX1 hX2 hX3 hs1 hs0
  go_enter Tryz.func81, Tryz.ntmps81
  go_wp2_with fail
  rw [HW0.out, HW1.out]
  refine hC.mono ?_
  rintro e w2 ⟨a', cap', rfl, hs2, hlo, hb2⟩
  have hY1 := known hb2 (Nat.le_refl _) HX1.out
  have hY2 := known hb2 (Nat.le_refl _) HX2.out
  have p0 : w2.cell? ⟨w.heap.size + 1, 0, none⟩ = some (.int .i64 0) := cell_of_cells hY1 0
  have p1 : w2.cell? ⟨w.heap.size + 1, 1, none⟩ = some (.int .i64 0) := cell_of_cells hY1 1
  have p2 : w2.cell? ⟨w.heap.size + 1, 2, none⟩ = some (.slice none 0 0) := cell_of_cells hY1 2
  have p3 : w2.cell? ⟨w.heap.size + 1, 3, none⟩ = some (.int .i64 0) := cell_of_cells hY1 3
  have p4 : w2.cell? ⟨w.heap.size + 1, 4, none⟩ = some (.string ⟨#[]⟩) := cell_of_cells hY1 4
  have p5 : w2.cell? ⟨w.heap.size + 1, 5, none⟩ = some (.int .i64 0) := cell_of_cells hY1 5
  have p6 : w2.cell? ⟨w.heap.size + 1, 6, none⟩ = some (.int .i64 0) := cell_of_cells hY1 6
  have p7 : w2.cell? ⟨w.heap.size + 1, 7, none⟩ = some (.slice none 0 0) := cell_of_cells hY1 7
  have p8 : w2.cell? ⟨w.heap.size + 1, 8, none⟩ = some (.int .i64 0) := cell_of_cells hY1 8
  have p9 : w2.cell? ⟨w.heap.size + 1, 9, none⟩ = some (.slice none 0 0) := cell_of_cells hY1 9
  have f0 : w2.frozen? ⟨w.heap.size + 1, 0, none⟩ = false := frozen_of_cells hY1 0
  have f1 : w2.frozen? ⟨w.heap.size + 1, 1, none⟩ = false := frozen_of_cells hY1 1
  have f2 : w2.frozen? ⟨w.heap.size + 1, 2, none⟩ = false := frozen_of_cells hY1 2
  have f3 : w2.frozen? ⟨w.heap.size + 1, 3, none⟩ = false := frozen_of_cells hY1 3
  have f4 : w2.frozen? ⟨w.heap.size + 1, 4, none⟩ = false := frozen_of_cells hY1 4
  have f5 : w2.frozen? ⟨w.heap.size + 1, 5, none⟩ = false := frozen_of_cells hY1 5
  have f6 : w2.frozen? ⟨w.heap.size + 1, 6, none⟩ = false := frozen_of_cells hY1 6
  have f7 : w2.frozen? ⟨w.heap.size + 1, 7, none⟩ = false := frozen_of_cells hY1 7
  have f8 : w2.frozen? ⟨w.heap.size + 1, 8, none⟩ = false := frozen_of_cells hY1 8
  have f9 : w2.frozen? ⟨w.heap.size + 1, 9, none⟩ = false := frozen_of_cells hY1 9
  have q0 : w2.cell? ⟨w.heap.size + 1 + 1, 0, none⟩ = some (.int .i64 kind) := cell_of_cells hY2 0
  have q1 : w2.cell? ⟨w.heap.size + 1 + 1, 1, none⟩ = some (.int .i64 level) := cell_of_cells hY2 1
  have q2 : w2.cell? ⟨w.heap.size + 1 + 1, 2, none⟩ = some (.slice none 0 0) := cell_of_cells hY2 2
  have q3 : w2.cell? ⟨w.heap.size + 1 + 1, 3, none⟩ = some (.int .i64 0) := cell_of_cells hY2 3
  have q4 : w2.cell? ⟨w.heap.size + 1 + 1, 4, none⟩ = some (.string ⟨#[]⟩) := cell_of_cells hY2 4
  have q5 : w2.cell? ⟨w.heap.size + 1 + 1, 5, none⟩ = some (.int .i64 0) := cell_of_cells hY2 5
  have q6 : w2.cell? ⟨w.heap.size + 1 + 1, 6, none⟩ = some (.int .i64 0) := cell_of_cells hY2 6
  have q7 : w2.cell? ⟨w.heap.size + 1 + 1, 7, none⟩ = some (.slice none 0 0) := cell_of_cells hY2 7
  have q8 : w2.cell? ⟨w.heap.size + 1 + 1, 8, none⟩ = some (.int .i64 0) := cell_of_cells hY2 8
  have q9 : w2.cell? ⟨w.heap.size + 1 + 1, 9, none⟩ = some (.slice none 0 0) := cell_of_cells hY2 9
  have g2 : w2.frozen? ⟨w.heap.size + 1 + 1, 2, none⟩ = false := frozen_of_cells hY2 2
  have hne : w.heap.size + 1 ≠ w.heap.size + 1 + 1 := by omega
  clear hC ht HX1 HX2 HW0 HW1
  go_wp2_with fail
  have hBw2 : Below w.heap.size w w2 := hB01.trans (hb2.mono hB01.size)
  have hA : SS.At ⟨a', len, cap', none, 0, 0, none, 0, 0⟩ w2.heap.size w2 (skNum kind level l) := ⟨hs2, SlC.nil, SlC.nil⟩
  have hfar : SS.Far ⟨a', len, cap', none, 0, 0, none, 0, 0⟩ (w.heap.size + 1 + 1) := ⟨(fun z hz => by have := hlo z hz; omega), (fun z hz => by cases hz), (fun z hz => by cases hz)⟩
  have hA2 := hA.set (o := 2) hfar (.slice a' len cap')
  rw [← size_set w2 ⟨w.heap.size + 1 + 1, 2, none⟩ (.slice a' len cap')] at hA2
  have hY3 := (heap_set_other (W := w2) (p := ⟨w.heap.size + 1 + 1, 2, none⟩) (b := w.heap.size + 1) (by show w.heap.size + 1 + 1 ≠ _; omega) (.slice a' len cap')).trans hY1
  exact sk_ret (y := skNum kind level l) (s := ⟨a', len, cap', none, 0, 0, none, 0, 0⟩) hY3 (hBw2.setCell (p := ⟨w.heap.size + 1 + 1, 2, none⟩) (by show w.heap.size ≤ w.heap.size + 1 + 1; omega) _) hA2 (fun z hz => by have := hlo z hz; omega) (fun z hz => by cases hz) (fun z hz => by cases hz) rfl
end Go.Proofs.YtmkefodaibmkhaaGreatDoor
namespace Go.Proofs.YtmkefodaibmkhaaGreatDoor
open Go Go.RowKit

theorem asReg (b : Int) (r : ByteArray) (w : World) : (Instr.typeAssert (.iface 187 (.agg #[.int .i64 b, .string r])) 66 184 true).run Tryz.prog w = .ok (.tuple #[.agg #[.slice none 0 0], .bool false]) w ∧
    (Instr.typeAssert (.iface 187 (.agg #[.int .i64 b, .string r])) 66 187 true).run Tryz.prog w = .ok (.tuple #[.agg #[.int .i64 b, .string r], .bool true]) w := ⟨by kernel_rfl, by kernel_rfl⟩
theorem asCnt (r c : Int) (a : Option Addr) (n m : Nat) (w : World) : (Instr.typeAssert (.iface 188 (.agg #[.int .i64 r, .int .i64 c, .slice a n m])) 66 184 true).run Tryz.prog w = .ok (.tuple #[.agg #[.slice none 0 0], .bool false]) w ∧
    (Instr.typeAssert (.iface 188 (.agg #[.int .i64 r, .int .i64 c, .slice a n m])) 66 187 true).run Tryz.prog w = .ok (.tuple #[.agg #[.int .i64 0, .string ⟨#[]⟩], .bool false]) w ∧
    (Instr.typeAssert (.iface 188 (.agg #[.int .i64 r, .int .i64 c, .slice a n m])) 66 188 true).run Tryz.prog w = .ok (.tuple #[.agg #[.int .i64 r, .int .i64 c, .slice a n m], .bool true]) w := ⟨by kernel_rfl, by kernel_rfl, by kernel_rfl⟩
theorem asBkt (f : Int) (a : Option Addr) (n m : Nat) (w : World) : (Instr.typeAssert (.iface 190 (.agg #[.int .i64 f, .slice a n m])) 66 184 true).run Tryz.prog w = .ok (.tuple #[.agg #[.slice none 0 0], .bool false]) w ∧
    (Instr.typeAssert (.iface 190 (.agg #[.int .i64 f, .slice a n m])) 66 187 true).run Tryz.prog w = .ok (.tuple #[.agg #[.int .i64 0, .string ⟨#[]⟩], .bool false]) w ∧
    (Instr.typeAssert (.iface 190 (.agg #[.int .i64 f, .slice a n m])) 66 188 true).run Tryz.prog w = .ok (.tuple #[.agg #[.int .i64 0, .int .i64 0, .slice none 0 0], .bool false]) w ∧
    (Instr.typeAssert (.iface 190 (.agg #[.int .i64 f, .slice a n m])) 66 190 true).run Tryz.prog w = .ok (.tuple #[.agg #[.int .i64 f, .slice a n m], .bool true]) w := ⟨by kernel_rfl, by kernel_rfl, by kernel_rfl, by kernel_rfl⟩
def skReg (kind level : Int) (b : Int) (r : ByteArray) : Sk := ⟨kind, level, [], b, r, 0, 0, [], 0, []⟩
def skCnt (kind level : Int) (r c : Int) (l : List Int) : Sk := ⟨kind, level, [], 0, ⟨#[]⟩, r, c, l, 0, []⟩
def skBkt (kind level : Int) (f : Int) (l : List (Int × Int)) : Sk := ⟨kind, level, [], 0, ⟨#[]⟩, 0, 0, [], f, l⟩

set_option maxRecDepth 100000 in
set_option maxHeartbeats 4000000 in
theorem sketch_reg (kind level b : Int) (r : ByteArray) (w : World) :
    Calls Tryz.prog 81 #[.agg #[.iface 187 (.agg #[.int .i64 b, .string r]), .int .i64 kind, .int .i64 level]] w (SkPost (skReg kind level b r) w) := by
  have h1 := fun w => (asReg b r w).1
  have h2 := fun w => (asReg b r w).2
  go_enter Tryz.func81, Tryz.ntmps81
  go_wp2_with fail
  refine bodyPost_ret (v := .agg #[.int .i64 kind, .int .i64 level, .slice none 0 0, .int .i64 b, .string r, .int .i64 0, .int .i64 0, .slice none 0 0, .int .i64 0, .slice none 0 0]) (by simp [results, Tryz.f81, go_sem]) rfl ⟨⟨none, 0, 0, none, 0, 0, none, 0, 0⟩, rfl, ⟨SlC.nil, SlC.nil, SlC.nil⟩, (fun z hz => by cases hz), (fun z hz => by cases hz), (fun z hz => by cases hz), ?_⟩
  exact ((((Below.refl _ w).alloc (Nat.le_refl _) _).alloc (by simp) _).alloc (by simp; omega) _).alloc (by simp; omega) _

set_option maxRecDepth 100000 in
set_option maxHeartbeats 4000000 in
theorem sketch_cnt (kind level r c : Int) (l : List Int) (a : Option Addr) (len cap : Nat) (w : World) (hL : SlE encU 1 w.heap.size w a len l) (hll : len < 2147483648) :
    Calls Tryz.prog 81 #[.agg #[.iface 188 (.agg #[.int .i64 r, .int .i64 c, .slice a len cap]), .int .i64 kind, .int .i64 level]] w (SkPost (skCnt kind level r c l) w) := by
  obtain ⟨W0, hW0, hX0, hX1, hX2, hB0, hs0⟩ := boxes3 w #[.iface 188 (.agg #[.int .i64 r, .int .i64 c, .slice a len cap]), .int .i64 kind, .int .i64 level] 68 #[.int .i64 0, .int .i64 0, .slice none 0 0, .int .i64 0, .string ⟨#[]⟩, .int .i64 0, .int .i64 0, .slice none 0 0, .int .i64 0, .slice none 0 0] 36 #[.int .i64 kind, .int .i64 level, .slice none 0 0, .int .i64 0, .string ⟨#[]⟩, .int .i64 r, .int .i64 c, .slice a len cap, .int .i64 0, .slice none 0 0] 36
  have h1 := fun w => (asCnt r c a len cap w).1
  have h2 := fun w => (asCnt r c a len cap w).2.1
  have h3 := fun w => (asCnt r c a len cap w).2.2
  obtain ⟨W1, hW1, hX3, hB1, hs1⟩ := boxes1 W0 #[.int .i64 r, .int .i64 c, .slice a len cap] 188
  have hB01 := hB0.trans (hB1.mono hB0.size)
  have hC := clone_u64 a len cap l W1 (hL.go hB01) hll
  have HW0 := Lib.hid hW0
  have HW1 := Lib.hid hW1
  have HX1 := Lib.hid (known hB1 (Nat.le_refl _) hX1)
  have HX2 := Lib.hid (known hB1 (Nat.le_refl _) hX2)
  have hz : w.heap.size + 3 < W1.heap.size := by omega
  clear hL hW0 hW1 hX0 hX1 hX2 hX3 hs1 hs0
  go_enter Tryz.func81, Tryz.ntmps81
  go_wp2_with fail
  rw [HW0.out, HW1.out]
  refine hC.mono ?_
  rintro e w2 ⟨a', cap', rfl, hs2, hlo, hb2⟩
  have hY1 := known hb2 (Nat.le_refl _) HX1.out
  have hY2 := known hb2 (Nat.le_refl _) HX2.out
  have p0 : w2.cell? ⟨w.heap.size + 1, 0, none⟩ = some (.int .i64 0) := cell_of_cells hY1 0
  have p1 : w2.cell? ⟨w.heap.size + 1, 1, none⟩ = some (.int .i64 0) := cell_of_cells hY1 1
  have p2 : w2.cell? ⟨w.heap.size + 1, 2, none⟩ = some (.slice none 0 0) := cell_of_cells hY1 2
  have p3 : w2.cell? ⟨w.heap.size + 1, 3, none⟩ = some (.int .i64 0) := cell_of_cells hY1 3
  have p4 : w2.cell? ⟨w.heap.size + 1, 4, none⟩ = some (.string ⟨#[]⟩) := cell_of_cells hY1 4
  have p5 : w2.cell? ⟨w.heap.size + 1, 5, none⟩ = some (.int .i64 0) := cell_of_cells hY1 5
  have p6 : w2.cell? ⟨w.heap.size + 1, 6, none⟩ = some (.int .i64 0) := cell_of_cells hY1 6
  have p7 : w2.cell? ⟨w.heap.size + 1, 7, none⟩ = some (.slice none 0 0) := cell_of_cells hY1 7
  have p8 : w2.cell? ⟨w.heap.size + 1, 8, none⟩ = some (.int .i64 0) := cell_of_cells hY1 8
  have p9 : w2.cell? ⟨w.heap.size + 1, 9, none⟩ = some (.slice none 0 0) := cell_of_cells hY1 9
  have f0 : w2.frozen? ⟨w.heap.size + 1, 0, none⟩ = false := frozen_of_cells hY1 0
  have f1 : w2.frozen? ⟨w.heap.size + 1, 1, none⟩ = false := frozen_of_cells hY1 1
  have f2 : w2.frozen? ⟨w.heap.size + 1, 2, none⟩ = false := frozen_of_cells hY1 2
  have f3 : w2.frozen? ⟨w.heap.size + 1, 3, none⟩ = false := frozen_of_cells hY1 3
  have f4 : w2.frozen? ⟨w.heap.size + 1, 4, none⟩ = false := frozen_of_cells hY1 4
  have f5 : w2.frozen? ⟨w.heap.size + 1, 5, none⟩ = false := frozen_of_cells hY1 5
  have f6 : w2.frozen? ⟨w.heap.size + 1, 6, none⟩ = false := frozen_of_cells hY1 6
  have f7 : w2.frozen? ⟨w.heap.size + 1, 7, none⟩ = false := frozen_of_cells hY1 7
  have f8 : w2.frozen? ⟨w.heap.size + 1, 8, none⟩ = false := frozen_of_cells hY1 8
  have f9 : w2.frozen? ⟨w.heap.size + 1, 9, none⟩ = false := frozen_of_cells hY1 9
  have q0 : w2.cell? ⟨w.heap.size + 1 + 1, 0, none⟩ = some (.int .i64 kind) := cell_of_cells hY2 0
  have q1 : w2.cell? ⟨w.heap.size + 1 + 1, 1, none⟩ = some (.int .i64 level) := cell_of_cells hY2 1
  have q2 : w2.cell? ⟨w.heap.size + 1 + 1, 2, none⟩ = some (.slice none 0 0) := cell_of_cells hY2 2
  have q3 : w2.cell? ⟨w.heap.size + 1 + 1, 3, none⟩ = some (.int .i64 0) := cell_of_cells hY2 3
  have q4 : w2.cell? ⟨w.heap.size + 1 + 1, 4, none⟩ = some (.string ⟨#[]⟩) := cell_of_cells hY2 4
  have q5 : w2.cell? ⟨w.heap.size + 1 + 1, 5, none⟩ = some (.int .i64 r) := cell_of_cells hY2 5
  have q6 : w2.cell? ⟨w.heap.size + 1 + 1, 6, none⟩ = some (.int .i64 c) := cell_of_cells hY2 6
  have q7 : w2.cell? ⟨w.heap.size + 1 + 1, 7, none⟩ = some (.slice a len cap) := cell_of_cells hY2 7
  have q8 : w2.cell? ⟨w.heap.size + 1 + 1, 8, none⟩ = some (.int .i64 0) := cell_of_cells hY2 8
  have q9 : w2.cell? ⟨w.heap.size + 1 + 1, 9, none⟩ = some (.slice none 0 0) := cell_of_cells hY2 9
  have g2 : w2.frozen? ⟨w.heap.size + 1 + 1, 7, none⟩ = false := frozen_of_cells hY2 7
  have hne : w.heap.size + 1 ≠ w.heap.size + 1 + 1 := by omega
  clear hC h1 h2 h3 HX1 HX2 HW0 HW1
  go_wp2_with fail
  have hBw2 : Below w.heap.size w w2 := hB01.trans (hb2.mono hB01.size)
  have hA : SS.At ⟨none, 0, 0, a', len, cap', none, 0, 0⟩ w2.heap.size w2 (skCnt kind level r c l) := ⟨SlC.nil, hs2, SlC.nil⟩
  have hfar : SS.Far ⟨none, 0, 0, a', len, cap', none, 0, 0⟩ (w.heap.size + 1 + 1) := ⟨(fun z hz => by cases hz), (fun z hz => by have := hlo z hz; omega), (fun z hz => by cases hz)⟩
  have hA2 := hA.set (o := 7) hfar (.slice a' len cap')
  rw [← size_set w2 ⟨w.heap.size + 1 + 1, 7, none⟩ (.slice a' len cap')] at hA2
  have hY3 := (heap_set_other (W := w2) (p := ⟨w.heap.size + 1 + 1, 7, none⟩) (b := w.heap.size + 1) (by show w.heap.size + 1 + 1 ≠ _; omega) (.slice a' len cap')).trans hY1
  exact sk_ret (y := skCnt kind level r c l) (s := ⟨none, 0, 0, a', len, cap', none, 0, 0⟩) hY3 (hBw2.setCell (p := ⟨w.heap.size + 1 + 1, 7, none⟩) (by show w.heap.size ≤ w.heap.size + 1 + 1; omega) _) hA2 (fun z hz => by cases hz) (fun z hz => by have := hlo z hz; omega) (fun z hz => by cases hz) rfl

set_option maxRecDepth 100000 in
set_option maxHeartbeats 4000000 in
theorem sketch_bkt (kind level f : Int) (l : List (Int × Int)) (a : Option Addr) (len cap : Nat) (w : World) (hL : SlE encB 2 w.heap.size w a len l) (hll : len < 2147483648) :
    Calls Tryz.prog 81 #[.agg #[.iface 190 (.agg #[.int .i64 f, .slice a len cap]), .int .i64 kind, .int .i64 level]] w (SkPost (skBkt kind level f l) w) := by
  obtain ⟨W0, hW0, hX0, hX1, hX2, hB0, hs0⟩ := boxes3 w #[.iface 190 (.agg #[.int .i64 f, .slice a len cap]), .int .i64 kind, .int .i64 level] 68 #[.int .i64 0, .int .i64 0, .slice none 0 0, .int .i64 0, .string ⟨#[]⟩, .int .i64 0, .int .i64 0, .slice none 0 0, .int .i64 0, .slice none 0 0] 36 #[.int .i64 kind, .int .i64 level, .slice none 0 0, .int .i64 0, .string ⟨#[]⟩, .int .i64 0, .int .i64 0, .slice none 0 0, .int .i64 f, .slice a len cap] 36
  have h1 := fun w => (asBkt f a len cap w).1
  have h2 := fun w => (asBkt f a len cap w).2.1
  have h3 := fun w => (asBkt f a len cap w).2.2.1
  have h4 := fun w => (asBkt f a len cap w).2.2.2
  obtain ⟨W1, hW1, hX3, hB1, hs1⟩ := boxes1 W0 #[.int .i64 f, .slice a len cap] 190
  have hB01 := hB0.trans (hB1.mono hB0.size)
  have hC := clone_bin a len cap l W1 (hL.go hB01) hll
  have HW0 := Lib.hid hW0
  have HW1 := Lib.hid hW1
  have HX1 := Lib.hid (known hB1 (Nat.le_refl _) hX1)
  have HX2 := Lib.hid (known hB1 (Nat.le_refl _) hX2)
  have hz : w.heap.size + 3 < W1.heap.size := by omega
  clear hL hW0 hW1 hX0 hX1 hX2 hX3 hs1 hs0
  go_enter Tryz.func81, Tryz.ntmps81
  go_wp2_with fail
  rw [HW0.out, HW1.out]
  refine hC.mono ?_
  rintro e w2 ⟨a', cap', rfl, hs2, hlo, hb2⟩
  have hY1 := known hb2 (Nat.le_refl _) HX1.out
  have hY2 := known hb2 (Nat.le_refl _) HX2.out
  have p0 : w2.cell? ⟨w.heap.size + 1, 0, none⟩ = some (.int .i64 0) := cell_of_cells hY1 0
  have p1 : w2.cell? ⟨w.heap.size + 1, 1, none⟩ = some (.int .i64 0) := cell_of_cells hY1 1
  have p2 : w2.cell? ⟨w.heap.size + 1, 2, none⟩ = some (.slice none 0 0) := cell_of_cells hY1 2
  have p3 : w2.cell? ⟨w.heap.size + 1, 3, none⟩ = some (.int .i64 0) := cell_of_cells hY1 3
  have p4 : w2.cell? ⟨w.heap.size + 1, 4, none⟩ = some (.string ⟨#[]⟩) := cell_of_cells hY1 4
  have p5 : w2.cell? ⟨w.heap.size + 1, 5, none⟩ = some (.int .i64 0) := cell_of_cells hY1 5
  have p6 : w2.cell? ⟨w.heap.size + 1, 6, none⟩ = some (.int .i64 0) := cell_of_cells hY1 6
  have p7 : w2.cell? ⟨w.heap.size + 1, 7, none⟩ = some (.slice none 0 0) := cell_of_cells hY1 7
  have p8 : w2.cell? ⟨w.heap.size + 1, 8, none⟩ = some (.int .i64 0) := cell_of_cells hY1 8
  have p9 : w2.cell? ⟨w.heap.size + 1, 9, none⟩ = some (.slice none 0 0) := cell_of_cells hY1 9
  have f0 : w2.frozen? ⟨w.heap.size + 1, 0, none⟩ = false := frozen_of_cells hY1 0
  have f1 : w2.frozen? ⟨w.heap.size + 1, 1, none⟩ = false := frozen_of_cells hY1 1
  have f2 : w2.frozen? ⟨w.heap.size + 1, 2, none⟩ = false := frozen_of_cells hY1 2
  have f3 : w2.frozen? ⟨w.heap.size + 1, 3, none⟩ = false := frozen_of_cells hY1 3
  have f4 : w2.frozen? ⟨w.heap.size + 1, 4, none⟩ = false := frozen_of_cells hY1 4
  have f5 : w2.frozen? ⟨w.heap.size + 1, 5, none⟩ = false := frozen_of_cells hY1 5
  have f6 : w2.frozen? ⟨w.heap.size + 1, 6, none⟩ = false := frozen_of_cells hY1 6
  have f7 : w2.frozen? ⟨w.heap.size + 1, 7, none⟩ = false := frozen_of_cells hY1 7
  have f8 : w2.frozen? ⟨w.heap.size + 1, 8, none⟩ = false := frozen_of_cells hY1 8
  have f9 : w2.frozen? ⟨w.heap.size + 1, 9, none⟩ = false := frozen_of_cells hY1 9
  have q0 : w2.cell? ⟨w.heap.size + 1 + 1, 0, none⟩ = some (.int .i64 kind) := cell_of_cells hY2 0
  have q1 : w2.cell? ⟨w.heap.size + 1 + 1, 1, none⟩ = some (.int .i64 level) := cell_of_cells hY2 1
  have q2 : w2.cell? ⟨w.heap.size + 1 + 1, 2, none⟩ = some (.slice none 0 0) := cell_of_cells hY2 2
  have q3 : w2.cell? ⟨w.heap.size + 1 + 1, 3, none⟩ = some (.int .i64 0) := cell_of_cells hY2 3
  have q4 : w2.cell? ⟨w.heap.size + 1 + 1, 4, none⟩ = some (.string ⟨#[]⟩) := cell_of_cells hY2 4
  have q5 : w2.cell? ⟨w.heap.size + 1 + 1, 5, none⟩ = some (.int .i64 0) := cell_of_cells hY2 5
  have q6 : w2.cell? ⟨w.heap.size + 1 + 1, 6, none⟩ = some (.int .i64 0) := cell_of_cells hY2 6
  have q7 : w2.cell? ⟨w.heap.size + 1 + 1, 7, none⟩ = some (.slice none 0 0) := cell_of_cells hY2 7
  have q8 : w2.cell? ⟨w.heap.size + 1 + 1, 8, none⟩ = some (.int .i64 f) := cell_of_cells hY2 8
  have q9 : w2.cell? ⟨w.heap.size + 1 + 1, 9, none⟩ = some (.slice a len cap) := cell_of_cells hY2 9
  have g2 : w2.frozen? ⟨w.heap.size + 1 + 1, 9, none⟩ = false := frozen_of_cells hY2 9
  have hne : w.heap.size + 1 ≠ w.heap.size + 1 + 1 := by omega
  clear hC h1 h2 h3 h4 HX1 HX2 HW0 HW1
  go_wp2_with fail
  have hBw2 : Below w.heap.size w w2 := hB01.trans (hb2.mono hB01.size)
  have hA : SS.At ⟨none, 0, 0, none, 0, 0, a', len, cap'⟩ w2.heap.size w2 (skBkt kind level f l) := ⟨SlC.nil, SlC.nil, hs2⟩
  have hfar : SS.Far ⟨none, 0, 0, none, 0, 0, a', len, cap'⟩ (w.heap.size + 1 + 1) := ⟨(fun z hz => by cases hz), (fun z hz => by cases hz), (fun z hz => by have := hlo z hz; omega)⟩
  have hA2 := hA.set (o := 9) hfar (.slice a' len cap')
  rw [← size_set w2 ⟨w.heap.size + 1 + 1, 9, none⟩ (.slice a' len cap')] at hA2
  have hY3 := (heap_set_other (W := w2) (p := ⟨w.heap.size + 1 + 1, 9, none⟩) (b := w.heap.size + 1) (by show w.heap.size + 1 + 1 ≠ _; omega) (.slice a' len cap')).trans hY1
  exact sk_ret (y := skBkt kind level f l) (s := ⟨none, 0, 0, none, 0, 0, a', len, cap'⟩) hY3 (hBw2.setCell (p := ⟨w.heap.size + 1 + 1, 9, none⟩) (by show w.heap.size ≤ w.heap.size + 1 + 1; omega) _) hA2 (fun z hz => by cases hz) (fun z hz => by cases hz) (fun z hz => by have := hlo z hz; omega) rfl
end Go.Proofs.YtmkefodaibmkhaaGreatDoor

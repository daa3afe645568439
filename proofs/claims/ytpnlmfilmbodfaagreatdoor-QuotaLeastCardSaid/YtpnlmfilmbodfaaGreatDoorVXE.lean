/- Package ladder: Same. Package ladder: the bodies of sketches: held.distinct, held.count, held.lie; kinds. Package ladder: held.count, held.lie; kinds. -/
import Derived.Test.YtpnlmfilmbodfaaGreatDoorVH1
import Derived.Test.YtpnlmfilmbodfaaGreatDoorVM2
namespace Go.Proofs.YtpnlmfilmbodfaaGreatDoor
open Go Go.RowKit
theorem eql_hll (b1 b2 : Int) (r1 r2 : ByteArray) (w : World) : (binOp .eql 26 (.agg #[.int .i64 b1, .string r1]) (.agg #[.int .i64 b2, .string r2])).run Tryz.prog w = .ok (.bool (b1 == b2 && r1.toList == r2.toList)) w := by
  have h1 : Tryz.prog.underlying 26 = some (.struct (Tryz.prog.fieldsOf 26)) := by kernel_rfl
  have h2 : Tryz.prog.stoodInHeld 26 = false := by kernel_rfl
  have h3 : (Tryz.prog.fieldsOf 26).toList = [{ name := "Bits", type := 3, offset := 0, embedded := false, tag := "", pkgPath := "", byteOffset := 0 }, { name := "Regs", type := 9, offset := 1, embedded := false, tag := "", pkgPath := "", byteOffset := 8 }] := by kernel_rfl
  rw [run_eql_struct, run_equalIn_agg w 9999 _ _ _ h1 h2, h3]
  cases ha : (b1 == b2) <;> cases hb : (r1.toList == r2.toList) <;> simp [go_sem, ha, hb, Tryz.underlying3, Tryz.underlying9]
theorem eg_hll : Tryz.prog.eqGuardType Tryz.prog.depth 26 = false := by kernel_rfl
set_option maxRecDepth 100000 in
set_option maxHeartbeats 2000000 in
theorem ladder_Same_any (x y : Sk) (s t : SS) (w : World) (hx : s.At w.heap.size w x) (hy : t.At w.heap.size w y) :
    Calls Tryz.prog 24 #[.agg #[.int .i64 x.kind, .int .i64 x.level, .slice s.ea s.el s.ec, .int .i64 x.hb, .string x.hr, .int .i64 x.cr, .int .i64 x.cc, .slice s.ca s.cl s.cc, .int .i64 x.gf, .slice s.ga s.gl s.gc], .agg #[.int .i64 y.kind, .int .i64 y.level, .slice t.ea t.el t.ec, .int .i64 y.hb, .string y.hr, .int .i64 y.cr, .int .i64 y.cc, .slice t.ca t.cl t.cc, .int .i64 y.gf, .slice t.ga t.gl t.gc]] w fun e w' => e = .returned (.bool (skSame x y)) ∧ Below w.heap.size w w' := by
  obtain ⟨W0, hW0, hX0, hX1, hB0, hs0⟩ := boxes2 w #[.int .i64 x.kind, .int .i64 x.level, .slice s.ea s.el s.ec, .int .i64 x.hb, .string x.hr, .int .i64 x.cr, .int .i64 x.cc, .slice s.ca s.cl s.cc, .int .i64 x.gf, .slice s.ga s.gl s.gc] 33 #[.int .i64 y.kind, .int .i64 y.level, .slice t.ea t.el t.ec, .int .i64 y.hb, .string y.hr, .int .i64 y.cr, .int .i64 y.cc, .slice t.ca t.cl t.cc, .int .i64 y.gf, .slice t.ga t.gl t.gc] 33
  have c0 : W0.cell? ⟨w.heap.size, 0, none⟩ = some (.int .i64 x.kind) := cCc hX0 0
  have c1 : W0.cell? ⟨w.heap.size, 1, none⟩ = some (.int .i64 x.level) := cCc hX0 1
  have c2 : W0.cell? ⟨w.heap.size, 2, none⟩ = some (.slice s.ea s.el s.ec) := cCc hX0 2
  have c3 : W0.cell? ⟨w.heap.size, 3, none⟩ = some (.int .i64 x.hb) := cCc hX0 3
  have c4 : W0.cell? ⟨w.heap.size, 4, none⟩ = some (.string x.hr) := cCc hX0 4
  have c5 : W0.cell? ⟨w.heap.size, 5, none⟩ = some (.int .i64 x.cr) := cCc hX0 5
  have c6 : W0.cell? ⟨w.heap.size, 6, none⟩ = some (.int .i64 x.cc) := cCc hX0 6
  have c7 : W0.cell? ⟨w.heap.size, 7, none⟩ = some (.slice s.ca s.cl s.cc) := cCc hX0 7
  have c8 : W0.cell? ⟨w.heap.size, 8, none⟩ = some (.int .i64 x.gf) := cCc hX0 8
  have c9 : W0.cell? ⟨w.heap.size, 9, none⟩ = some (.slice s.ga s.gl s.gc) := cCc hX0 9
  have d0 : W0.cell? ⟨w.heap.size + 1, 0, none⟩ = some (.int .i64 y.kind) := cCc hX1 0
  have d1 : W0.cell? ⟨w.heap.size + 1, 1, none⟩ = some (.int .i64 y.level) := cCc hX1 1
  have d2 : W0.cell? ⟨w.heap.size + 1, 2, none⟩ = some (.slice t.ea t.el t.ec) := cCc hX1 2
  have d3 : W0.cell? ⟨w.heap.size + 1, 3, none⟩ = some (.int .i64 y.hb) := cCc hX1 3
  have d4 : W0.cell? ⟨w.heap.size + 1, 4, none⟩ = some (.string y.hr) := cCc hX1 4
  have d5 : W0.cell? ⟨w.heap.size + 1, 5, none⟩ = some (.int .i64 y.cr) := cCc hX1 5
  have d6 : W0.cell? ⟨w.heap.size + 1, 6, none⟩ = some (.int .i64 y.cc) := cCc hX1 6
  have d7 : W0.cell? ⟨w.heap.size + 1, 7, none⟩ = some (.slice t.ca t.cl t.cc) := cCc hX1 7
  have d8 : W0.cell? ⟨w.heap.size + 1, 8, none⟩ = some (.int .i64 y.gf) := cCc hX1 8
  have d9 : W0.cell? ⟨w.heap.size + 1, 9, none⟩ = some (.slice t.ga t.gl t.gc) := cCc hX1 9
  have n1 := eql_hll x.hb y.hb x.hr y.hr
  have n2 := eg_hll
  have gx := hx.go hB0
  have gy := hy.go hB0
  clear hx hy
  have hE := exact_Same_any s.ea s.el s.ec x.e t.ea t.el t.ec y.e W0 gx.e.1 gy.e.1 (Nat.le_trans gx.e.2.1 gx.e.2.2.1)
  cases h1 : (x.kind == y.kind) with
  | false =>
    have HR : Hid (skSame x y = false) := by simp [Hid, skSame, h1]
    clear hE gx gy
    go_enter Tryz.func24, Tryz.ntmps24
    go_wp2_with fail
    go_ret
    exact ⟨by rw [HR.out]; rfl, hB0⟩
  | true =>
    cases h2 : (x.level == y.level) with
    | false =>
      have HR : Hid (skSame x y = false) := by simp [Hid, skSame, h2]
      clear hE gx gy
      go_enter Tryz.func24, Tryz.ntmps24
      go_wp2_with fail
      go_ret
      exact ⟨by rw [HR.out]; rfl, hB0⟩
    | true =>
      cases h3 : (x.hb == y.hb && x.hr.toList == y.hr.toList) with
      | false =>
        have HR : Hid (skSame x y = false) := by simp only [Hid, skSame, h3, Bool.and_false, Bool.false_and]
        rw [h3] at n1
        clear hE gx gy h3
        go_enter Tryz.func24, Tryz.ntmps24
        go_wp2_with fail
        go_ret
        exact ⟨by rw [HR.out]; rfl, hB0⟩
      | true =>
        have HR : Hid (skSame x y = (x.e == y.e && (x.cr == y.cr && x.cc == y.cc && x.cl == y.cl) && (x.gf == y.gf && x.gl == y.gl))) := by simp only [Hid, skSame, h1, h2, h3, Bool.true_and]
        rw [h3] at n1
        have G := Lib.hid (And.intro gx gy)
        clear h3 gx gy
        go_enter Tryz.func24, Tryz.ntmps24
        go_wp2_with fail
        refine hE.mono ?_
        rintro e w1 ⟨rfl, hb1⟩
        have hX0' := known hb1 (Nat.le_refl _) hX0
        have hX1' := known hb1 (Nat.le_refl _) hX1
        have p0 : w1.cell? ⟨w.heap.size, 0, none⟩ = some (.int .i64 x.kind) := cCc hX0' 0
        have p1 : w1.cell? ⟨w.heap.size, 1, none⟩ = some (.int .i64 x.level) := cCc hX0' 1
        have p2 : w1.cell? ⟨w.heap.size, 2, none⟩ = some (.slice s.ea s.el s.ec) := cCc hX0' 2
        have p3 : w1.cell? ⟨w.heap.size, 3, none⟩ = some (.int .i64 x.hb) := cCc hX0' 3
        have p4 : w1.cell? ⟨w.heap.size, 4, none⟩ = some (.string x.hr) := cCc hX0' 4
        have p5 : w1.cell? ⟨w.heap.size, 5, none⟩ = some (.int .i64 x.cr) := cCc hX0' 5
        have p6 : w1.cell? ⟨w.heap.size, 6, none⟩ = some (.int .i64 x.cc) := cCc hX0' 6
        have p7 : w1.cell? ⟨w.heap.size, 7, none⟩ = some (.slice s.ca s.cl s.cc) := cCc hX0' 7
        have p8 : w1.cell? ⟨w.heap.size, 8, none⟩ = some (.int .i64 x.gf) := cCc hX0' 8
        have p9 : w1.cell? ⟨w.heap.size, 9, none⟩ = some (.slice s.ga s.gl s.gc) := cCc hX0' 9
        have q0 : w1.cell? ⟨w.heap.size + 1, 0, none⟩ = some (.int .i64 y.kind) := cCc hX1' 0
        have q1 : w1.cell? ⟨w.heap.size + 1, 1, none⟩ = some (.int .i64 y.level) := cCc hX1' 1
        have q2 : w1.cell? ⟨w.heap.size + 1, 2, none⟩ = some (.slice t.ea t.el t.ec) := cCc hX1' 2
        have q3 : w1.cell? ⟨w.heap.size + 1, 3, none⟩ = some (.int .i64 y.hb) := cCc hX1' 3
        have q4 : w1.cell? ⟨w.heap.size + 1, 4, none⟩ = some (.string y.hr) := cCc hX1' 4
        have q5 : w1.cell? ⟨w.heap.size + 1, 5, none⟩ = some (.int .i64 y.cr) := cCc hX1' 5
        have q6 : w1.cell? ⟨w.heap.size + 1, 6, none⟩ = some (.int .i64 y.cc) := cCc hX1' 6
        have q7 : w1.cell? ⟨w.heap.size + 1, 7, none⟩ = some (.slice t.ca t.cl t.cc) := cCc hX1' 7
        have q8 : w1.cell? ⟨w.heap.size + 1, 8, none⟩ = some (.int .i64 y.gf) := cCc hX1' 8
        have q9 : w1.cell? ⟨w.heap.size + 1, 9, none⟩ = some (.slice t.ga t.gl t.gc) := cCc hX1' 9
        have gx1 := G.out.1.go hb1
        have gy1 := G.out.2.go hb1
        have hC := cms_Same_any x.cr x.cc s.ca s.cl s.cc x.cl y.cr y.cc t.ca t.cl t.cc y.cl w1 gx1.c.1 gy1.c.1 (Nat.le_trans gx1.c.2.1 gx1.c.2.2.1)
        have G1 := Lib.hid (And.intro gx1 gy1)
        have hB1 := hB0.trans (hb1.mono hB0.size)
        clear hW0 hE c0 c1 c2 c3 c4 c5 c6 c7 c8 c9 d0 d1 d2 d3 d4 d5 d6 d7 d8 d9 gx1 gy1 G hX0 hX1 hb1
        generalize he : (x.e == y.e) = be at HR
        clear he
        cases be with
        | false =>
          clear hC
          go_wp2_with fail
          go_ret
          exact ⟨by rw [HR.out]; rfl, hB1⟩
        | true =>
          go_wp2_with fail
          refine hC.mono ?_
          rintro e w2 ⟨rfl, hb2⟩
          have hX0 := known hb2 (Nat.le_refl _) hX0'
          have hX1 := known hb2 (Nat.le_refl _) hX1'
          have r0 : w2.cell? ⟨w.heap.size, 0, none⟩ = some (.int .i64 x.kind) := cCc hX0 0
          have r1 : w2.cell? ⟨w.heap.size, 1, none⟩ = some (.int .i64 x.level) := cCc hX0 1
          have r2 : w2.cell? ⟨w.heap.size, 2, none⟩ = some (.slice s.ea s.el s.ec) := cCc hX0 2
          have r3 : w2.cell? ⟨w.heap.size, 3, none⟩ = some (.int .i64 x.hb) := cCc hX0 3
          have r4 : w2.cell? ⟨w.heap.size, 4, none⟩ = some (.string x.hr) := cCc hX0 4
          have r5 : w2.cell? ⟨w.heap.size, 5, none⟩ = some (.int .i64 x.cr) := cCc hX0 5
          have r6 : w2.cell? ⟨w.heap.size, 6, none⟩ = some (.int .i64 x.cc) := cCc hX0 6
          have r7 : w2.cell? ⟨w.heap.size, 7, none⟩ = some (.slice s.ca s.cl s.cc) := cCc hX0 7
          have r8 : w2.cell? ⟨w.heap.size, 8, none⟩ = some (.int .i64 x.gf) := cCc hX0 8
          have r9 : w2.cell? ⟨w.heap.size, 9, none⟩ = some (.slice s.ga s.gl s.gc) := cCc hX0 9
          have u0 : w2.cell? ⟨w.heap.size + 1, 0, none⟩ = some (.int .i64 y.kind) := cCc hX1 0
          have u1 : w2.cell? ⟨w.heap.size + 1, 1, none⟩ = some (.int .i64 y.level) := cCc hX1 1
          have u2 : w2.cell? ⟨w.heap.size + 1, 2, none⟩ = some (.slice t.ea t.el t.ec) := cCc hX1 2
          have u3 : w2.cell? ⟨w.heap.size + 1, 3, none⟩ = some (.int .i64 y.hb) := cCc hX1 3
          have u4 : w2.cell? ⟨w.heap.size + 1, 4, none⟩ = some (.string y.hr) := cCc hX1 4
          have u5 : w2.cell? ⟨w.heap.size + 1, 5, none⟩ = some (.int .i64 y.cr) := cCc hX1 5
          have u6 : w2.cell? ⟨w.heap.size + 1, 6, none⟩ = some (.int .i64 y.cc) := cCc hX1 6
          have u7 : w2.cell? ⟨w.heap.size + 1, 7, none⟩ = some (.slice t.ca t.cl t.cc) := cCc hX1 7
          have u8 : w2.cell? ⟨w.heap.size + 1, 8, none⟩ = some (.int .i64 y.gf) := cCc hX1 8
          have u9 : w2.cell? ⟨w.heap.size + 1, 9, none⟩ = some (.slice t.ga t.gl t.gc) := cCc hX1 9
          have gx2 := G1.out.1.go hb2
          have gy2 := G1.out.2.go hb2
          have hH := hist_Same_any x.gf s.ga s.gl s.gc x.gl y.gf t.ga t.gl t.gc y.gl w2 gx2.g.1 gy2.g.1 (Nat.le_trans gx2.g.2.1 gx2.g.2.2.1)
          have hB2 := hB1.trans (hb2.mono hB1.size)
          clear hC p0 p1 p2 p3 p4 p5 p6 p7 p8 p9 q0 q1 q2 q3 q4 q5 q6 q7 q8 q9 gx2 gy2 G1 hX0 hX1 hX0' hX1' hb2
          generalize hc : (x.cr == y.cr && x.cc == y.cc && x.cl == y.cl) = bc at HR
          clear hc
          cases bc with
          | false =>
            clear hH
            go_wp2_with fail
            go_ret
            exact ⟨by rw [HR.out]; rfl, hB2⟩
          | true =>
            go_wp2_with fail
            refine hH.mono ?_
            rintro e w3 ⟨rfl, hb3⟩
            clear hH
            go_wp2_with fail
            go_ret
            exact ⟨by rw [HR.out]; simp, hB2.trans (hb3.mono hB2.size)⟩
end Go.Proofs.YtpnlmfilmbodfaaGreatDoor
namespace Go.Proofs.YtpnlmfilmbodfaaGreatDoor
open Go Go.RowKit
structure HeldIn (x : Sk) (s : SS) (w W : World) : Prop where
  box : W.heap[w.heap.size]? = some (.cells #[.int .i64 x.kind, .int .i64 x.level, .slice s.ea s.el s.ec, .int .i64 x.hb, .string x.hr, .int .i64 x.cr, .int .i64 x.cc, .slice s.ca s.cl s.cc, .int .i64 x.gf, .slice s.ga s.gl s.gc] 176 (0, 0))
  lists : s.At W.heap.size W x
  below : Below w.heap.size w W
theorem HeldIn.go {x : Sk} {s : SS} {w W W' : World} (h : HeldIn x s w W) (hb : Below W.heap.size W W') : HeldIn x s w W' := ⟨known hb (Nat.le_refl _) h.box, h.lists.go hb, h.below.trans (hb.mono h.below.size)⟩
theorem held_in (x : Sk) (s : SS) (w : World) (hx : s.At w.heap.size w x) : HeldIn x s w (w.alloc (.cells #[.int .i64 x.kind, .int .i64 x.level, .slice s.ea s.el s.ec, .int .i64 x.hb, .string x.hr, .int .i64 x.cr, .int .i64 x.cc, .slice s.ca s.cl s.cc, .int .i64 x.gf, .slice s.ga s.gl s.gc] 176)) :=
  have hB : Below w.heap.size w (w.alloc (.cells #[.int .i64 x.kind, .int .i64 x.level, .slice s.ea s.el s.ec, .int .i64 x.hb, .string x.hr, .int .i64 x.cr, .int .i64 x.cc, .slice s.ca s.cl s.cc, .int .i64 x.gf, .slice s.ga s.gl s.gc] 176)) := (Below.refl _ w).alloc (Nat.le_refl _) _
  ⟨World.alloc_heap_new _ _, hx.go hB, hB⟩
set_option maxRecDepth 100000 in
set_option maxHeartbeats 2000000 in
theorem distinct0_any (x : Sk) (s : SS) (w : World) (hx : s.At w.heap.size w x) (h0 : (x.level == 0) = true) :
    Calls Tryz.prog 181 #[.agg #[.int .i64 x.kind, .int .i64 x.level, .slice s.ea s.el s.ec, .int .i64 x.hb, .string x.hr, .int .i64 x.cr, .int .i64 x.cc, .slice s.ca s.cl s.cc, .int .i64 x.gf, .slice s.ga s.gl s.gc]] w fun e w' => e = .returned (.tuple #[.iface 246 (.agg #[.slice s.ea s.el s.ec]), .bool (exRight x.e)]) ∧ Below w.heap.size w w' := by
  have hI := held_in x s w hx
  obtain ⟨W0, hW0⟩ : ∃ W0, w.alloc (.cells #[.int .i64 x.kind, .int .i64 x.level, .slice s.ea s.el s.ec, .int .i64 x.hb, .string x.hr, .int .i64 x.cr, .int .i64 x.cc, .slice s.ca s.cl s.cc, .int .i64 x.gf, .slice s.ga s.gl s.gc] 176) = W0 := ⟨_, rfl⟩
  rw [hW0] at hI
  have c0 : W0.cell? ⟨w.heap.size, 0, none⟩ = some (.int .i64 x.kind) := cCc hI.box 0
  have c1 : W0.cell? ⟨w.heap.size, 1, none⟩ = some (.int .i64 x.level) := cCc hI.box 1
  have c2 : W0.cell? ⟨w.heap.size, 2, none⟩ = some (.slice s.ea s.el s.ec) := cCc hI.box 2
  have c3 : W0.cell? ⟨w.heap.size, 3, none⟩ = some (.int .i64 x.hb) := cCc hI.box 3
  have c4 : W0.cell? ⟨w.heap.size, 4, none⟩ = some (.string x.hr) := cCc hI.box 4
  have c5 : W0.cell? ⟨w.heap.size, 5, none⟩ = some (.int .i64 x.cr) := cCc hI.box 5
  have c6 : W0.cell? ⟨w.heap.size, 6, none⟩ = some (.int .i64 x.cc) := cCc hI.box 6
  have c7 : W0.cell? ⟨w.heap.size, 7, none⟩ = some (.slice s.ca s.cl s.cc) := cCc hI.box 7
  have c8 : W0.cell? ⟨w.heap.size, 8, none⟩ = some (.int .i64 x.gf) := cCc hI.box 8
  have c9 : W0.cell? ⟨w.heap.size, 9, none⟩ = some (.slice s.ga s.gl s.gc) := cCc hI.box 9
  let Inv : World → Prop := HeldIn x s w
  have hgo : ∀ W W', Inv W → Below W.heap.size W W' → Inv W' := fun W W' h hb => HeldIn.go h hb
  have q0 : ∀ X : WIn Inv, X.world.cell? ⟨w.heap.size, 0, none⟩ = some (.int .i64 x.kind) := fun X => cCc X.ok.box 0
  have q1 : ∀ X : WIn Inv, X.world.cell? ⟨w.heap.size, 1, none⟩ = some (.int .i64 x.level) := fun X => cCc X.ok.box 1
  have q2 : ∀ X : WIn Inv, X.world.cell? ⟨w.heap.size, 2, none⟩ = some (.slice s.ea s.el s.ec) := fun X => cCc X.ok.box 2
  have q3 : ∀ X : WIn Inv, X.world.cell? ⟨w.heap.size, 3, none⟩ = some (.int .i64 x.hb) := fun X => cCc X.ok.box 3
  have q4 : ∀ X : WIn Inv, X.world.cell? ⟨w.heap.size, 4, none⟩ = some (.string x.hr) := fun X => cCc X.ok.box 4
  have q5 : ∀ X : WIn Inv, X.world.cell? ⟨w.heap.size, 5, none⟩ = some (.int .i64 x.cr) := fun X => cCc X.ok.box 5
  have q6 : ∀ X : WIn Inv, X.world.cell? ⟨w.heap.size, 6, none⟩ = some (.int .i64 x.cc) := fun X => cCc X.ok.box 6
  have q7 : ∀ X : WIn Inv, X.world.cell? ⟨w.heap.size, 7, none⟩ = some (.slice s.ca s.cl s.cc) := fun X => cCc X.ok.box 7
  have q8 : ∀ X : WIn Inv, X.world.cell? ⟨w.heap.size, 8, none⟩ = some (.int .i64 x.gf) := fun X => cCc X.ok.box 8
  have q9 : ∀ X : WIn Inv, X.world.cell? ⟨w.heap.size, 9, none⟩ = some (.slice s.ga s.gl s.gc) := fun X => cCc X.ok.box 9
  have K1 : Hid (∀ X : WIn Inv, Calls Tryz.prog 211 #[.agg #[.slice s.ea s.el s.ec]] X.world fun e w' => e = .returned (.bool (exRight x.e)) ∧ ∃ Y : WIn Inv, w' = Y.world) := fun X => calls_class_below hgo (exact_Right_any x.e s.ea s.el s.ec X.world (HeldIn.lists X.ok).e.1)
  have hfin : Hid (∀ X : WIn Inv, Below w.heap.size w X.world) := fun X => HeldIn.below X.ok
  have hI0 : Hid (Inv W0.drew) := hI.go (Below.refl _ _).drew
  have hne : Nonempty (WIn Inv) := ⟨⟨_, hI0.out⟩⟩
  clear hx hI hgo
  clear_value Inv
  go_enter Tryz.func181, Tryz.ntmps181
  go_wp2_with fail
  refine wp_region_class Inv (by kernel_rfl) (by kernel_rfl) hI0.out ?_
  repeat (first | go_big_quiet_step ((go_at_call 211; with_reducible exact K1.out _)) | quiet_step ((go_at_call 211; with_reducible exact K1.out _)))
  refine wpQuiet_nil ?_
  rintro _ ⟨X, rfl⟩
  go_wp2_with fail
  go_ret2
  exact ⟨rfl, hfin.out X⟩
set_option maxRecDepth 100000 in
set_option maxHeartbeats 2000000 in
theorem distinct1_any (x : Sk) (s : SS) (w : World) (hx : s.At w.heap.size w x) (h0 : (x.level == 0) = false) (h1 : 0 ≤ x.level) (h2 : x.level ≤ 4) :
    Calls Tryz.prog 181 #[.agg #[.int .i64 x.kind, .int .i64 x.level, .slice s.ea s.el s.ec, .int .i64 x.hb, .string x.hr, .int .i64 x.cr, .int .i64 x.cc, .slice s.ca s.cl s.cc, .int .i64 x.gf, .slice s.ga s.gl s.gc]] w fun e w' => e = .returned (.tuple #[.iface 248 (.agg #[.int .i64 x.hb, .string x.hr]), .bool (hlRight x.hb x.hr && (x.hb == 8 - x.level))]) ∧ Below w.heap.size w w' := by
  have hI := held_in x s w hx
  obtain ⟨W0, hW0⟩ : ∃ W0, w.alloc (.cells #[.int .i64 x.kind, .int .i64 x.level, .slice s.ea s.el s.ec, .int .i64 x.hb, .string x.hr, .int .i64 x.cr, .int .i64 x.cc, .slice s.ca s.cl s.cc, .int .i64 x.gf, .slice s.ga s.gl s.gc] 176) = W0 := ⟨_, rfl⟩
  rw [hW0] at hI
  have c0 : W0.cell? ⟨w.heap.size, 0, none⟩ = some (.int .i64 x.kind) := cCc hI.box 0
  have c1 : W0.cell? ⟨w.heap.size, 1, none⟩ = some (.int .i64 x.level) := cCc hI.box 1
  have c2 : W0.cell? ⟨w.heap.size, 2, none⟩ = some (.slice s.ea s.el s.ec) := cCc hI.box 2
  have c3 : W0.cell? ⟨w.heap.size, 3, none⟩ = some (.int .i64 x.hb) := cCc hI.box 3
  have c4 : W0.cell? ⟨w.heap.size, 4, none⟩ = some (.string x.hr) := cCc hI.box 4
  have c5 : W0.cell? ⟨w.heap.size, 5, none⟩ = some (.int .i64 x.cr) := cCc hI.box 5
  have c6 : W0.cell? ⟨w.heap.size, 6, none⟩ = some (.int .i64 x.cc) := cCc hI.box 6
  have c7 : W0.cell? ⟨w.heap.size, 7, none⟩ = some (.slice s.ca s.cl s.cc) := cCc hI.box 7
  have c8 : W0.cell? ⟨w.heap.size, 8, none⟩ = some (.int .i64 x.gf) := cCc hI.box 8
  have c9 : W0.cell? ⟨w.heap.size, 9, none⟩ = some (.slice s.ga s.gl s.gc) := cCc hI.box 9
  let Inv : World → Prop := HeldIn x s w
  have hgo : ∀ W W', Inv W → Below W.heap.size W W' → Inv W' := fun W W' h hb => HeldIn.go h hb
  have q0 : ∀ X : WIn Inv, X.world.cell? ⟨w.heap.size, 0, none⟩ = some (.int .i64 x.kind) := fun X => cCc X.ok.box 0
  have q1 : ∀ X : WIn Inv, X.world.cell? ⟨w.heap.size, 1, none⟩ = some (.int .i64 x.level) := fun X => cCc X.ok.box 1
  have q2 : ∀ X : WIn Inv, X.world.cell? ⟨w.heap.size, 2, none⟩ = some (.slice s.ea s.el s.ec) := fun X => cCc X.ok.box 2
  have q3 : ∀ X : WIn Inv, X.world.cell? ⟨w.heap.size, 3, none⟩ = some (.int .i64 x.hb) := fun X => cCc X.ok.box 3
  have q4 : ∀ X : WIn Inv, X.world.cell? ⟨w.heap.size, 4, none⟩ = some (.string x.hr) := fun X => cCc X.ok.box 4
  have q5 : ∀ X : WIn Inv, X.world.cell? ⟨w.heap.size, 5, none⟩ = some (.int .i64 x.cr) := fun X => cCc X.ok.box 5
  have q6 : ∀ X : WIn Inv, X.world.cell? ⟨w.heap.size, 6, none⟩ = some (.int .i64 x.cc) := fun X => cCc X.ok.box 6
  have q7 : ∀ X : WIn Inv, X.world.cell? ⟨w.heap.size, 7, none⟩ = some (.slice s.ca s.cl s.cc) := fun X => cCc X.ok.box 7
  have q8 : ∀ X : WIn Inv, X.world.cell? ⟨w.heap.size, 8, none⟩ = some (.int .i64 x.gf) := fun X => cCc X.ok.box 8
  have q9 : ∀ X : WIn Inv, X.world.cell? ⟨w.heap.size, 9, none⟩ = some (.slice s.ga s.gl s.gc) := fun X => cCc X.ok.box 9
  have K0 : Hid (∀ X : WIn Inv, Calls Tryz.prog 212 #[.agg #[.int .i64 x.hb, .string x.hr]] X.world fun e w' => e = .returned (.bool (hlRight x.hb x.hr)) ∧ ∃ Y : WIn Inv, w' = Y.world) := fun X => calls_class_below hgo (hll_Right_any x.hb x.hr X.world)
  have hfin : Hid (∀ X : WIn Inv, Below w.heap.size w X.world) := fun X => HeldIn.below X.ok
  have hI0 : Hid (Inv W0.drew) := hI.go (Below.refl _ _).drew
  have hne : Nonempty (WIn Inv) := ⟨⟨_, hI0.out⟩⟩
  have hw : IntKind.i64.wrap (8 - x.level) = 8 - x.level := IntWalk.i64_in _ (by omega)
  clear hx hI hgo
  clear_value Inv
  generalize hlRight x.hb x.hr = b1 at K0 ⊢
  cases b1
  · have K1 := Lib.hid K0.out
    clear K0
    go_enter Tryz.func181, Tryz.ntmps181
    go_wp2_with fail
    refine wp_region_class Inv (by kernel_rfl) (by kernel_rfl) hI0.out ?_
    repeat (first | go_big_quiet_step ((go_at_call 212; with_reducible exact K1.out _)) | quiet_step ((go_at_call 212; with_reducible exact K1.out _)))
    refine wpQuiet_nil ?_
    rintro _ ⟨X, rfl⟩
    go_wp2_with fail
    go_ret2
    exact ⟨rfl, hfin.out X⟩
  · have K1 := Lib.hid K0.out
    clear K0
    go_enter Tryz.func181, Tryz.ntmps181
    go_wp2_with fail
    refine wp_region_class Inv (by kernel_rfl) (by kernel_rfl) hI0.out ?_
    repeat (first | go_big_quiet_step ((go_at_call 212; with_reducible exact K1.out _)) | quiet_step ((go_at_call 212; with_reducible exact K1.out _)))
    refine wpQuiet_nil ?_
    rintro _ ⟨X, rfl⟩
    go_wp2_with fail
    go_ret2
    exact ⟨by simp, hfin.out X⟩
end Go.Proofs.YtpnlmfilmbodfaaGreatDoor
namespace Go.Proofs.YtpnlmfilmbodfaaGreatDoor
open Go Go.RowKit
set_option maxRecDepth 100000 in
set_option maxHeartbeats 4000000 in
theorem count_any (x : Sk) (s : SS) (w : World) (hx : s.At w.heap.size w x) (h1 : 0 ≤ x.level) (h2 : x.level ≤ 3) :
    Calls Tryz.prog 182 #[.agg #[.int .i64 x.kind, .int .i64 x.level, .slice s.ea s.el s.ec, .int .i64 x.hb, .string x.hr, .int .i64 x.cr, .int .i64 x.cc, .slice s.ca s.cl s.cc, .int .i64 x.gf, .slice s.ga s.gl s.gc]] w fun e w' => e = .returned (.tuple #[.iface 249 (.agg #[.int .i64 x.cr, .int .i64 x.cc, .slice s.ca s.cl s.cc]), .bool (cmRight x.cr x.cc x.cl && (x.cr == 2) && (x.cc == 32 / 2 ^ x.level.toNat))]) ∧ Below w.heap.size w w' := by
  have hI := held_in x s w hx
  obtain ⟨W0, hW0⟩ : ∃ W0, w.alloc (.cells #[.int .i64 x.kind, .int .i64 x.level, .slice s.ea s.el s.ec, .int .i64 x.hb, .string x.hr, .int .i64 x.cr, .int .i64 x.cc, .slice s.ca s.cl s.cc, .int .i64 x.gf, .slice s.ga s.gl s.gc] 176) = W0 := ⟨_, rfl⟩
  rw [hW0] at hI
  have c0 : W0.cell? ⟨w.heap.size, 0, none⟩ = some (.int .i64 x.kind) := cCc hI.box 0
  have c1 : W0.cell? ⟨w.heap.size, 1, none⟩ = some (.int .i64 x.level) := cCc hI.box 1
  have c2 : W0.cell? ⟨w.heap.size, 2, none⟩ = some (.slice s.ea s.el s.ec) := cCc hI.box 2
  have c3 : W0.cell? ⟨w.heap.size, 3, none⟩ = some (.int .i64 x.hb) := cCc hI.box 3
  have c4 : W0.cell? ⟨w.heap.size, 4, none⟩ = some (.string x.hr) := cCc hI.box 4
  have c5 : W0.cell? ⟨w.heap.size, 5, none⟩ = some (.int .i64 x.cr) := cCc hI.box 5
  have c6 : W0.cell? ⟨w.heap.size, 6, none⟩ = some (.int .i64 x.cc) := cCc hI.box 6
  have c7 : W0.cell? ⟨w.heap.size, 7, none⟩ = some (.slice s.ca s.cl s.cc) := cCc hI.box 7
  have c8 : W0.cell? ⟨w.heap.size, 8, none⟩ = some (.int .i64 x.gf) := cCc hI.box 8
  have c9 : W0.cell? ⟨w.heap.size, 9, none⟩ = some (.slice s.ga s.gl s.gc) := cCc hI.box 9
  let Inv : World → Prop := HeldIn x s w
  have hgo : ∀ W W', Inv W → Below W.heap.size W W' → Inv W' := fun W W' h hb => HeldIn.go h hb
  have q0 : ∀ X : WIn Inv, X.world.cell? ⟨w.heap.size, 0, none⟩ = some (.int .i64 x.kind) := fun X => cCc X.ok.box 0
  have q1 : ∀ X : WIn Inv, X.world.cell? ⟨w.heap.size, 1, none⟩ = some (.int .i64 x.level) := fun X => cCc X.ok.box 1
  have q2 : ∀ X : WIn Inv, X.world.cell? ⟨w.heap.size, 2, none⟩ = some (.slice s.ea s.el s.ec) := fun X => cCc X.ok.box 2
  have q3 : ∀ X : WIn Inv, X.world.cell? ⟨w.heap.size, 3, none⟩ = some (.int .i64 x.hb) := fun X => cCc X.ok.box 3
  have q4 : ∀ X : WIn Inv, X.world.cell? ⟨w.heap.size, 4, none⟩ = some (.string x.hr) := fun X => cCc X.ok.box 4
  have q5 : ∀ X : WIn Inv, X.world.cell? ⟨w.heap.size, 5, none⟩ = some (.int .i64 x.cr) := fun X => cCc X.ok.box 5
  have q6 : ∀ X : WIn Inv, X.world.cell? ⟨w.heap.size, 6, none⟩ = some (.int .i64 x.cc) := fun X => cCc X.ok.box 6
  have q7 : ∀ X : WIn Inv, X.world.cell? ⟨w.heap.size, 7, none⟩ = some (.slice s.ca s.cl s.cc) := fun X => cCc X.ok.box 7
  have q8 : ∀ X : WIn Inv, X.world.cell? ⟨w.heap.size, 8, none⟩ = some (.int .i64 x.gf) := fun X => cCc X.ok.box 8
  have q9 : ∀ X : WIn Inv, X.world.cell? ⟨w.heap.size, 9, none⟩ = some (.slice s.ga s.gl s.gc) := fun X => cCc X.ok.box 9
  have K0 : Hid (∀ X : WIn Inv, Calls Tryz.prog 213 #[.agg #[.int .i64 x.cr, .int .i64 x.cc, .slice s.ca s.cl s.cc]] X.world fun e w' => e = .returned (.bool (cmRight x.cr x.cc x.cl)) ∧ ∃ Y : WIn Inv, w' = Y.world) := fun X => calls_class_below hgo (cms_Right_any x.cr x.cc x.cl s.ca s.cl s.cc X.world (HeldIn.lists X.ok).c.1.1)
  have hfin : Hid (∀ X : WIn Inv, Below w.heap.size w X.world) := fun X => HeldIn.below X.ok
  have hI0 : Hid (Inv W0.drew) := hI.go (Below.refl _ _).drew
  have hne : Nonempty (WIn Inv) := ⟨⟨_, hI0.out⟩⟩
  clear hx hI hgo
  clear_value Inv
  generalize cmRight x.cr x.cc x.cl = b1 at K0 ⊢
  have hcs : b1 = false ∨ (b1 = true ∧ (x.cr == 2) = false) ∨ (b1 = true ∧ (x.cr == 2) = true) := by cases b1 <;> cases h : (x.cr == 2) <;> simp_all
  have K1 := Lib.hid K0.out
  clear K0
  rcases hcs with rfl | ⟨rfl, t2⟩ | ⟨rfl, t2⟩
  · go_enter Tryz.func182, Tryz.ntmps182
    go_wp2_with fail
    refine wp_region_class Inv (by kernel_rfl) (by kernel_rfl) hI0.out ?_
    repeat (first | go_big_quiet_step ((go_at_call 213; with_reducible exact K1.out _)) | quiet_step ((go_at_call 213; with_reducible exact K1.out _)))
    refine wpQuiet_nil ?_
    rintro _ ⟨X, rfl⟩
    go_wp2_with fail
    go_ret2
    exact ⟨rfl, hfin.out X⟩
  · go_enter Tryz.func182, Tryz.ntmps182
    go_wp2_with fail
    refine wp_region_class Inv (by kernel_rfl) (by kernel_rfl) hI0.out ?_
    repeat (first | go_big_quiet_step ((go_at_call 213; with_reducible exact K1.out _)) | quiet_step ((go_at_call 213; with_reducible exact K1.out _)))
    refine wpQuiet_nil ?_
    rintro _ ⟨X, rfl⟩
    go_wp2_with fail
    go_ret2
    exact ⟨by simp [t2], hfin.out X⟩
  · go_enter Tryz.func182, Tryz.ntmps182
    go_wp2_with fail
    refine wp_region_class Inv (by kernel_rfl) (by kernel_rfl) hI0.out ?_
    repeat (first | go_big_quiet_step ((go_at_call 213; with_reducible exact K1.out _)) | quiet_step ((go_at_call 213; with_reducible exact K1.out _)))
    refine wpQuiet_nil ?_
    rintro _ ⟨X, rfl⟩
    go_wp2_with fail
    go_ret2
    exact ⟨by simp [t2], hfin.out X⟩
set_option maxRecDepth 100000 in
set_option maxHeartbeats 4000000 in
theorem lie_any (x : Sk) (s : SS) (w : World) (hx : s.At w.heap.size w x) (h1 : 0 ≤ x.level) (h2 : x.level ≤ 3) (hb : ∀ b ∈ x.gl, b.1 ≤ 9223372036854775807) :
    Calls Tryz.prog 183 #[.agg #[.int .i64 x.kind, .int .i64 x.level, .slice s.ea s.el s.ec, .int .i64 x.hb, .string x.hr, .int .i64 x.cr, .int .i64 x.cc, .slice s.ca s.cl s.cc, .int .i64 x.gf, .slice s.ga s.gl s.gc]] w fun e w' => e = .returned (.tuple #[.iface 251 (.agg #[.int .i64 x.gf, .slice s.ga s.gl s.gc]), .bool (hiRight x.gf x.gl && (x.gf == 3 - x.level))]) ∧ Below w.heap.size w w' := by
  have hI := held_in x s w hx
  obtain ⟨W0, hW0⟩ : ∃ W0, w.alloc (.cells #[.int .i64 x.kind, .int .i64 x.level, .slice s.ea s.el s.ec, .int .i64 x.hb, .string x.hr, .int .i64 x.cr, .int .i64 x.cc, .slice s.ca s.cl s.cc, .int .i64 x.gf, .slice s.ga s.gl s.gc] 176) = W0 := ⟨_, rfl⟩
  rw [hW0] at hI
  have c0 : W0.cell? ⟨w.heap.size, 0, none⟩ = some (.int .i64 x.kind) := cCc hI.box 0
  have c1 : W0.cell? ⟨w.heap.size, 1, none⟩ = some (.int .i64 x.level) := cCc hI.box 1
  have c2 : W0.cell? ⟨w.heap.size, 2, none⟩ = some (.slice s.ea s.el s.ec) := cCc hI.box 2
  have c3 : W0.cell? ⟨w.heap.size, 3, none⟩ = some (.int .i64 x.hb) := cCc hI.box 3
  have c4 : W0.cell? ⟨w.heap.size, 4, none⟩ = some (.string x.hr) := cCc hI.box 4
  have c5 : W0.cell? ⟨w.heap.size, 5, none⟩ = some (.int .i64 x.cr) := cCc hI.box 5
  have c6 : W0.cell? ⟨w.heap.size, 6, none⟩ = some (.int .i64 x.cc) := cCc hI.box 6
  have c7 : W0.cell? ⟨w.heap.size, 7, none⟩ = some (.slice s.ca s.cl s.cc) := cCc hI.box 7
  have c8 : W0.cell? ⟨w.heap.size, 8, none⟩ = some (.int .i64 x.gf) := cCc hI.box 8
  have c9 : W0.cell? ⟨w.heap.size, 9, none⟩ = some (.slice s.ga s.gl s.gc) := cCc hI.box 9
  let Inv : World → Prop := HeldIn x s w
  have hgo : ∀ W W', Inv W → Below W.heap.size W W' → Inv W' := fun W W' h hb => HeldIn.go h hb
  have q0 : ∀ X : WIn Inv, X.world.cell? ⟨w.heap.size, 0, none⟩ = some (.int .i64 x.kind) := fun X => cCc X.ok.box 0
  have q1 : ∀ X : WIn Inv, X.world.cell? ⟨w.heap.size, 1, none⟩ = some (.int .i64 x.level) := fun X => cCc X.ok.box 1
  have q2 : ∀ X : WIn Inv, X.world.cell? ⟨w.heap.size, 2, none⟩ = some (.slice s.ea s.el s.ec) := fun X => cCc X.ok.box 2
  have q3 : ∀ X : WIn Inv, X.world.cell? ⟨w.heap.size, 3, none⟩ = some (.int .i64 x.hb) := fun X => cCc X.ok.box 3
  have q4 : ∀ X : WIn Inv, X.world.cell? ⟨w.heap.size, 4, none⟩ = some (.string x.hr) := fun X => cCc X.ok.box 4
  have q5 : ∀ X : WIn Inv, X.world.cell? ⟨w.heap.size, 5, none⟩ = some (.int .i64 x.cr) := fun X => cCc X.ok.box 5
  have q6 : ∀ X : WIn Inv, X.world.cell? ⟨w.heap.size, 6, none⟩ = some (.int .i64 x.cc) := fun X => cCc X.ok.box 6
  have q7 : ∀ X : WIn Inv, X.world.cell? ⟨w.heap.size, 7, none⟩ = some (.slice s.ca s.cl s.cc) := fun X => cCc X.ok.box 7
  have q8 : ∀ X : WIn Inv, X.world.cell? ⟨w.heap.size, 8, none⟩ = some (.int .i64 x.gf) := fun X => cCc X.ok.box 8
  have q9 : ∀ X : WIn Inv, X.world.cell? ⟨w.heap.size, 9, none⟩ = some (.slice s.ga s.gl s.gc) := fun X => cCc X.ok.box 9
  have K0 : Hid (∀ X : WIn Inv, Calls Tryz.prog 214 #[.agg #[.int .i64 x.gf, .slice s.ga s.gl s.gc]] X.world fun e w' => e = .returned (.bool (hiRight x.gf x.gl)) ∧ ∃ Y : WIn Inv, w' = Y.world) := fun X => calls_class_below hgo (hist_Right_any x.gf x.gl s.ga s.gl s.gc X.world (HeldIn.lists X.ok).g.1 (Nat.le_trans (HeldIn.lists X.ok).g.2.1 (HeldIn.lists X.ok).g.2.2.1) hb)
  have hfin : Hid (∀ X : WIn Inv, Below w.heap.size w X.world) := fun X => HeldIn.below X.ok
  have hI0 : Hid (Inv W0.drew) := hI.go (Below.refl _ _).drew
  have hne : Nonempty (WIn Inv) := ⟨⟨_, hI0.out⟩⟩
  have hw : IntKind.i64.wrap (3 - x.level) = 3 - x.level := IntWalk.i64_in _ (by omega)
  clear hx hI hgo hb
  clear_value Inv
  generalize hiRight x.gf x.gl = b1 at K0 ⊢
  have K1 := Lib.hid K0.out
  clear K0
  cases b1
  · go_enter Tryz.func183, Tryz.ntmps183
    go_wp2_with fail
    refine wp_region_class Inv (by kernel_rfl) (by kernel_rfl) hI0.out ?_
    repeat (first | go_big_quiet_step ((go_at_call 214; with_reducible exact K1.out _)) | quiet_step ((go_at_call 214; with_reducible exact K1.out _)))
    refine wpQuiet_nil ?_
    rintro _ ⟨X, rfl⟩
    go_wp2_with fail
    go_ret2
    exact ⟨rfl, hfin.out X⟩
  · go_enter Tryz.func183, Tryz.ntmps183
    go_wp2_with fail
    refine wp_region_class Inv (by kernel_rfl) (by kernel_rfl) hI0.out ?_
    repeat (first | go_big_quiet_step ((go_at_call 214; with_reducible exact K1.out _)) | quiet_step ((go_at_call 214; with_reducible exact K1.out _)))
    refine wpQuiet_nil ?_
    rintro _ ⟨X, rfl⟩
    go_wp2_with fail
    go_ret2
    exact ⟨by simp, hfin.out X⟩
def kindsMap : Array MapEntry := #[{ key := .int .i64 1, val := .func (.func 181) #[] #[], born := 0 }, { key := .int .i64 2, val := .func (.func 182) #[] #[], born := 1 }, { key := .int .i64 3, val := .func (.func 183) #[] #[], born := 2 }]
theorem und_kinds : Tryz.prog.underlying 172 = some (.map 3 170) := by kernel_rfl
theorem kinds_any (w : World) : Calls Tryz.prog 127 #[] w fun e w' => e = .returned (.map (some w.heap.size)) ∧ w' = w.alloc (.map kindsMap 3) := by
  have hmm := @run_makeMap Tryz.prog
  have u1 := mapUpd_alloc (P := Tryz.prog) w (clock := 0) (es := #[]) (n := 1) (.func (.func 181) #[] #[]) und_kinds Tryz.underlying3 rfl
  have u2 := mapUpd_alloc (P := Tryz.prog) w (clock := 1) (es := #[{ key := .int .i64 1, val := .func (.func 181) #[] #[], born := 0 }]) (n := 2) (.func (.func 182) #[] #[]) und_kinds Tryz.underlying3 rfl
  have u3 := mapUpd_alloc (P := Tryz.prog) w (clock := 2) (es := #[{ key := .int .i64 1, val := .func (.func 181) #[] #[], born := 0 }, { key := .int .i64 2, val := .func (.func 182) #[] #[], born := 1 }]) (n := 3) (.func (.func 183) #[] #[]) und_kinds Tryz.underlying3 rfl
  simp only [List.push_toArray, List.nil_append, List.cons_append, Nat.zero_add, Nat.reduceAdd] at u1 u2 u3
  go_enter Tryz.func127, Tryz.ntmps127
  go_wp2_with fail
  go_ret
  exact ⟨rfl, rfl⟩
end Go.Proofs.YtpnlmfilmbodfaaGreatDoor

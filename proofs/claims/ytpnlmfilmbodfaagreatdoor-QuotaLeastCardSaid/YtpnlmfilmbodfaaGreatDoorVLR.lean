/- Package ladder: told, Lower, To: the lists of what is told lie in new memory. Printed by gen_lr.py. -/
import Derived.Test.YtpnlmfilmbodfaaGreatDoorVLI
import Derived.Test.YtpnlmfilmbodfaaGreatDoorVH1
namespace Go.Proofs.YtpnlmfilmbodfaaGreatDoor
open Go Go.RowKit Go.Shelf
def SS.From (s : SS) (n : Nat) : Prop := (∀ z, s.ea = some z → n ≤ z.block) ∧ (∀ z, s.ca = some z → n ≤ z.block) ∧ (∀ z, s.ga = some z → n ≤ z.block)
theorem SS.From.mono {s : SS} {n m : Nat} (h : s.From m) (hn : n ≤ m) : s.From n := ⟨fun z hz => Nat.le_trans hn (h.1 z hz), fun z hz => Nat.le_trans hn (h.2.1 z hz), fun z hz => Nat.le_trans hn (h.2.2 z hz)⟩
def SkN (n : Nat) (W : World) (v : Value) (k L : Nat) (B : Bd) : Prop := ∃ (y : Sk) (s : SS), y = skOf k L B ∧ v = .agg #[.int .i64 y.kind, .int .i64 y.level, .slice s.ea s.el s.ec, .int .i64 y.hb, .string y.hr, .int .i64 y.cr, .int .i64 y.cc, .slice s.ca s.cl s.cc, .int .i64 y.gf, .slice s.ga s.gl s.gc] ∧ s.At W.heap.size W y ∧ s.From n
theorem SkN.mono {n m : Nat} {W : World} {v : Value} {k L : Nat} {B : Bd} (h : SkN m W v k L B) (hn : n ≤ m) : SkN n W v k L B := by
  obtain ⟨y, s, h0, h1, h2, h3⟩ := h
  exact ⟨y, s, h0, h1, h2, h3.mono hn⟩
theorem SkN.go {n : Nat} {W W' : World} {v : Value} {k L : Nat} {B : Bd} (h : SkN n W v k L B) (hb : Below W.heap.size W W') : SkN n W' v k L B := by
  obtain ⟨y, s, h0, h1, h2, h3⟩ := h
  exact ⟨y, s, h0, h1, h2.go hb, h3⟩
theorem SkN.apart {n : Nat} {W V : World} {v : Value} {k L : Nat} {B : Bd} (h : SkN n W v k L B) {b : Nat} {cs : Array Value} {t : TypeId} (hX : W.heap[b]? = some (.cells cs t (0, 0))) (hc : ∀ (i : Nat) (u : Int), cs[i]? ≠ some (Value.int .u64 u)) (hV : OnlyAt b W V) : SkN n V v k L B := by
  obtain ⟨y, s, h0, h1, h2, h3⟩ := h
  exact ⟨y, s, h0, h1, ⟨slC_apart (i0 := 0) (by decide) (fun x => ⟨x, rfl⟩) hX hc hV h2.e, slC_apart (i0 := 0) (by decide) (fun x => ⟨x, rfl⟩) hX hc hV h2.c, slC_apart (i0 := 1) (by decide) (fun x => ⟨x.2, rfl⟩) hX hc hV h2.g⟩, h3⟩
theorem sketch_skN {k L : Nat} {B : Bd} {v : Value} {w : World} (h : B.Ok k L) (hv : BdAt w v B) :
    Calls Tryz.prog 128 #[.agg #[v, .int .i64 k, .int .i64 L]] w fun e w' => ∃ x, e = .returned x ∧ SkN w.heap.size w' x k L B ∧ Below w.heap.size w w' := by
  cases B with
  | num l =>
    obtain ⟨a, len, cap, rfl, hS⟩ := hv
    refine (sketch_num k L l a len cap w hS.1 (by have := h.2.2.2.1; have := hS.1.1; omega)).mono ?_
    rintro e w' ⟨s, rfl, hs, f1, f2, f3, hb⟩
    exact ⟨_, rfl, ⟨_, s, rfl, rfl, hs, f1, f2, f3⟩, hb⟩
  | reg b r =>
    obtain rfl : v = _ := hv
    refine (sketch_reg k L b (hlStr r) w).mono ?_
    rintro e w' ⟨s, rfl, hs, f1, f2, f3, hb⟩
    exact ⟨_, rfl, ⟨_, s, rfl, rfl, hs, f1, f2, f3⟩, hb⟩
  | cnt c l =>
    obtain ⟨a, len, cap, rfl, hS⟩ := hv
    refine (sketch_cnt k L 2 c l a len cap w hS.1 (by have := cols_of h.2.2.1 h.2.1; have := h.2.2.2.1; have := hS.1.1; omega)).mono ?_
    rintro e w' ⟨s, rfl, hs, f1, f2, f3, hb⟩
    exact ⟨_, rfl, ⟨_, s, rfl, rfl, hs, f1, f2, f3⟩, hb⟩
  | bkt f l =>
    obtain ⟨a, len, cap, rfl, hS⟩ := hv
    refine (sketch_bkt k L f l a len cap w hS.1 (by have := bins_len f l (by have := h.2.2.1; omega) h.2.2.2.1 h.2.2.2.2.2.2; have := hS.1.1; omega)).mono ?_
    rintro e w' ⟨s, rfl, hs, f1, f2, f3, hb⟩
    exact ⟨_, rfl, ⟨_, s, rfl, rfl, hs, f1, f2, f3⟩, hb⟩
set_option maxRecDepth 100000 in
set_option maxHeartbeats 2000000 in
theorem told_nilN (v : Value) (B : Bd) (kind level : Nat) (w : World) (hb : BdAt w v B) (hok : B.Ok kind level) :
    Calls Tryz.prog 69 #[.agg #[v, .int .i64 kind, .int .i64 level], .nilIface] w fun e w' => ∃ x, e = .returned (.tuple #[x, .int .i64 0]) ∧ SkN w.heap.size w' x kind level B ∧ Below w.heap.size w w' := by
  obtain ⟨T, rv, rfl⟩ := bd_iface hb
  obtain ⟨W0, hW0, hXp, hXr, hB0, hs0⟩ := boxes2 w #[.iface T rv, .int .i64 kind, .int .i64 level] 88 #[.int .i64 0, .int .i64 0, .slice none 0 0, .int .i64 0, .string ⟨#[]⟩, .int .i64 0, .int .i64 0, .slice none 0 0, .int .i64 0, .slice none 0 0] 33
  have c0 : W0.cell? ⟨w.heap.size, 0, none⟩ = some (.iface T rv) := cCc hXp 0
  have c1 : W0.cell? ⟨w.heap.size, 1, none⟩ = some (.int .i64 kind) := cCc hXp 1
  have c2 : W0.cell? ⟨w.heap.size, 2, none⟩ = some (.int .i64 level) := cCc hXp 2
  have HS := Lib.hid (sketch_skN (w := W0) hok (hb.go hB0))
  have HXR := Lib.hid hXr
  have HB0 := Lib.hid hB0
  clear hXp hXr hB0 hb hok
  go_enter Tryz.func69, Tryz.ntmps69
  go_wp2_with fail
  refine HS.out.mono ?_
  rintro e w1 ⟨x, rfl, ⟨y, s, hy, rfl, hA, hFr⟩, hb1⟩
  have hR1 := known hb1 (Nat.le_refl _) HXR.out
  have HY := Lib.hid hy
  have HFr := Lib.hid (hFr.mono (n := w.heap.size) (by omega))
  clear hy hFr
  have r0 : w1.cell? ⟨w.heap.size + 1, 0, none⟩ = some (.int .i64 0) := cCc hR1 0
  have r1 : w1.cell? ⟨w.heap.size + 1, 1, none⟩ = some (.int .i64 0) := cCc hR1 1
  have r2 : w1.cell? ⟨w.heap.size + 1, 2, none⟩ = some (.slice none 0 0) := cCc hR1 2
  have r3 : w1.cell? ⟨w.heap.size + 1, 3, none⟩ = some (.int .i64 0) := cCc hR1 3
  have r4 : w1.cell? ⟨w.heap.size + 1, 4, none⟩ = some (.string ⟨#[]⟩) := cCc hR1 4
  have r5 : w1.cell? ⟨w.heap.size + 1, 5, none⟩ = some (.int .i64 0) := cCc hR1 5
  have r6 : w1.cell? ⟨w.heap.size + 1, 6, none⟩ = some (.int .i64 0) := cCc hR1 6
  have r7 : w1.cell? ⟨w.heap.size + 1, 7, none⟩ = some (.slice none 0 0) := cCc hR1 7
  have r8 : w1.cell? ⟨w.heap.size + 1, 8, none⟩ = some (.int .i64 0) := cCc hR1 8
  have r9 : w1.cell? ⟨w.heap.size + 1, 9, none⟩ = some (.slice none 0 0) := cCc hR1 9
  have g0 : w1.frozen? ⟨w.heap.size + 1, 0, none⟩ = false := cFz hR1 0
  have g1 : w1.frozen? ⟨w.heap.size + 1, 1, none⟩ = false := cFz hR1 1
  have g2 : w1.frozen? ⟨w.heap.size + 1, 2, none⟩ = false := cFz hR1 2
  have g3 : w1.frozen? ⟨w.heap.size + 1, 3, none⟩ = false := cFz hR1 3
  have g4 : w1.frozen? ⟨w.heap.size + 1, 4, none⟩ = false := cFz hR1 4
  have g5 : w1.frozen? ⟨w.heap.size + 1, 5, none⟩ = false := cFz hR1 5
  have g6 : w1.frozen? ⟨w.heap.size + 1, 6, none⟩ = false := cFz hR1 6
  have g7 : w1.frozen? ⟨w.heap.size + 1, 7, none⟩ = false := cFz hR1 7
  have g8 : w1.frozen? ⟨w.heap.size + 1, 8, none⟩ = false := cFz hR1 8
  have g9 : w1.frozen? ⟨w.heap.size + 1, 9, none⟩ = false := cFz hR1 9
  obtain ⟨V, hV, hVX, hVO, hVB⟩ := store10 (.int .i64 y.kind) (.int .i64 y.level) (.slice s.ea s.el s.ec) (.int .i64 y.hb) (.string y.hr) (.int .i64 y.cr) (.int .i64 y.cc) (.slice s.ca s.cl s.cc) (.int .i64 y.gf) (.slice s.ga s.gl s.gc) hR1
  have HR1 := Lib.hid hR1
  have HV := Lib.hid (And.intro hVO hVB)
  have HA := Lib.hid hA
  have Hb1 := Lib.hid hb1
  have k0 : V.cell? ⟨w.heap.size + 1, 0, none⟩ = some (.int .i64 y.kind) := cCc hVX 0
  have k1 : V.cell? ⟨w.heap.size + 1, 1, none⟩ = some (.int .i64 y.level) := cCc hVX 1
  have k2 : V.cell? ⟨w.heap.size + 1, 2, none⟩ = some (.slice s.ea s.el s.ec) := cCc hVX 2
  have k3 : V.cell? ⟨w.heap.size + 1, 3, none⟩ = some (.int .i64 y.hb) := cCc hVX 3
  have k4 : V.cell? ⟨w.heap.size + 1, 4, none⟩ = some (.string y.hr) := cCc hVX 4
  have k5 : V.cell? ⟨w.heap.size + 1, 5, none⟩ = some (.int .i64 y.cr) := cCc hVX 5
  have k6 : V.cell? ⟨w.heap.size + 1, 6, none⟩ = some (.int .i64 y.cc) := cCc hVX 6
  have k7 : V.cell? ⟨w.heap.size + 1, 7, none⟩ = some (.slice s.ca s.cl s.cc) := cCc hVX 7
  have k8 : V.cell? ⟨w.heap.size + 1, 8, none⟩ = some (.int .i64 y.gf) := cCc hVX 8
  have k9 : V.cell? ⟨w.heap.size + 1, 9, none⟩ = some (.slice s.ga s.gl s.gc) := cCc hVX 9
  clear hR1 hVO hVB hA hb1 hVX
  go_wp2_with fail
  obtain ⟨hVO, hVB⟩ := HV.out
  have hS2 : SkN w.heap.size w1 (.agg #[.int .i64 y.kind, .int .i64 y.level, .slice s.ea s.el s.ec, .int .i64 y.hb, .string y.hr, .int .i64 y.cr, .int .i64 y.cc, .slice s.ca s.cl s.cc, .int .i64 y.gf, .slice s.ga s.gl s.gc]) kind level B := ⟨y, s, HY.out, rfl, HA.out, HFr.out⟩
  exact bodyPost_ret (v := .tuple #[.agg #[.int .i64 y.kind, .int .i64 y.level, .slice s.ea s.el s.ec, .int .i64 y.hb, .string y.hr, .int .i64 y.cr, .int .i64 y.cc, .slice s.ca s.cl s.cc, .int .i64 y.gf, .slice s.ga s.gl s.gc], .int .i64 0]) (by simp [results, Tryz.f69, go_sem, k0, k1, k2, k3, k4, k5, k6, k7, k8, k9]) rfl ⟨_, rfl, hS2.apart HR1.out (fun i u => noU_zero u) hVO, hVB _ _ (HB0.out.trans (Hb1.out.mono HB0.out.size)) (Nat.le_succ _)⟩
set_option maxRecDepth 100000 in
set_option maxHeartbeats 2000000 in
theorem Lower_anyN {k L : Nat}  {B : Bd} {v : Value} {w : World} (hok : B.Ok k L) (hlv : L < botN k) (hv : SkB w v k L B) :
    Calls Tryz.prog 19 #[v] w fun e w' => ∃ x, e = .returned (.tuple #[x, .int .i64 0]) ∧ SkN w.heap.size w' x k (L + 1) B.low ∧ Below w.heap.size w w' := by
  have hok2 : (B.low).Ok k ((L + 1)) := bd_low_ok hok hlv
  obtain ⟨y, s, hy, rfl, hA⟩ := hv
  obtain ⟨W0, hW0, hXp, hXr, hB0, hs0⟩ := boxes2 w #[.int .i64 y.kind, .int .i64 y.level, .slice s.ea s.el s.ec, .int .i64 y.hb, .string y.hr, .int .i64 y.cr, .int .i64 y.cc, .slice s.ca s.cl s.cc, .int .i64 y.gf, .slice s.ga s.gl s.gc] 33 #[.int .i64 0, .int .i64 0, .slice none 0 0, .int .i64 0, .string ⟨#[]⟩, .int .i64 0, .int .i64 0, .slice none 0 0, .int .i64 0, .slice none 0 0] 33
  have HO := Lib.hid (open_sk_any (w := W0) hok ⟨y, s, hy, rfl, hA.go hB0⟩)
  obtain ⟨L2, hL2⟩ : ∃ L2 : Nat, L + 1 = L2 := ⟨_, rfl⟩
  obtain ⟨B2, hB2⟩ : ∃ B2 : Bd, B.low = B2 := ⟨_, rfl⟩
  rw [hL2, hB2] at hok2 ⊢
  have HT : Hid (∀ b W, BdAt W b B → Calls Tryz.prog 76 #[.agg #[b, .int .i64 k, .int .i64 L]] W fun e w' => ∃ v', e = .returned (.tuple #[.agg #[v', .int .i64 k, .int .i64 L2], .nilIface]) ∧ BdAt w' v' B2 ∧ Below W.heap.size W w') := by
    rw [← hB2, ← hL2]
    rw [Int.natCast_add]
    exact fun b W h => lowered_any b B k L W h hok hlv
  have HN : Hid (∀ b W, BdAt W b B2 → Calls Tryz.prog 69 #[.agg #[b, .int .i64 k, .int .i64 L2], .nilIface] W fun e w' => ∃ x, e = .returned (.tuple #[x, .int .i64 0]) ∧ SkN W.heap.size w' x k L2 B2 ∧ Below W.heap.size W w') := fun b W h => told_nilN b B2 k L2 W h hok2
  have c0 : W0.cell? ⟨w.heap.size, 0, none⟩ = some (.int .i64 y.kind) := cCc hXp 0
  have c1 : W0.cell? ⟨w.heap.size, 1, none⟩ = some (.int .i64 y.level) := cCc hXp 1
  have c2 : W0.cell? ⟨w.heap.size, 2, none⟩ = some (.slice s.ea s.el s.ec) := cCc hXp 2
  have c3 : W0.cell? ⟨w.heap.size, 3, none⟩ = some (.int .i64 y.hb) := cCc hXp 3
  have c4 : W0.cell? ⟨w.heap.size, 4, none⟩ = some (.string y.hr) := cCc hXp 4
  have c5 : W0.cell? ⟨w.heap.size, 5, none⟩ = some (.int .i64 y.cr) := cCc hXp 5
  have c6 : W0.cell? ⟨w.heap.size, 6, none⟩ = some (.int .i64 y.cc) := cCc hXp 6
  have c7 : W0.cell? ⟨w.heap.size, 7, none⟩ = some (.slice s.ca s.cl s.cc) := cCc hXp 7
  have c8 : W0.cell? ⟨w.heap.size, 8, none⟩ = some (.int .i64 y.gf) := cCc hXp 8
  have c9 : W0.cell? ⟨w.heap.size, 9, none⟩ = some (.slice s.ga s.gl s.gc) := cCc hXp 9
  have HXR := Lib.hid hXr
  have HB0 := Lib.hid hB0
  clear hXp hXr hB0 hA hy hok hok2 hL2 hB2 hlv
  go_enter Tryz.func19, Tryz.ntmps19
  go_wp2_with fail
  refine HO.out.mono ?_
  rintro e w1 ⟨b, rfl, hb, hb1⟩
  obtain ⟨T, rv, rfl⟩ := bd_iface hb
  obtain ⟨W2, hW2, hX2, hB2, hs2⟩ := boxes1 w1 #[.iface T rv, .int .i64 k, .int .i64 L] 88
  have d0 : W2.cell? ⟨w1.heap.size, 0, none⟩ = some (.iface T rv) := cCc hX2 0
  have d1 : W2.cell? ⟨w1.heap.size, 1, none⟩ = some (.int .i64 k) := cCc hX2 1
  have d2 : W2.cell? ⟨w1.heap.size, 2, none⟩ = some (.int .i64 L) := cCc hX2 2
  have HT2 := Lib.hid (HT.out _ W2 (hb.go hB2))
  have HX2 := Lib.hid hX2
  have HB2 := Lib.hid hB2
  have HB1 := Lib.hid hb1
  clear hX2 hB2 hb1 hb
  go_wp2_with fail
  refine HT2.out.mono ?_
  rintro e w3 ⟨b3, rfl, hv3, hb3⟩
  obtain ⟨T3, rv3, rfl⟩ := bd_iface hv3
  have hX3 := known hb3 (Nat.le_refl _) HX2.out
  have p0 : w3.cell? ⟨w1.heap.size, 0, none⟩ = some (.iface T rv) := cCc hX3 0
  have p1 : w3.cell? ⟨w1.heap.size, 1, none⟩ = some (.int .i64 k) := cCc hX3 1
  have p2 : w3.cell? ⟨w1.heap.size, 2, none⟩ = some (.int .i64 L) := cCc hX3 2
  have g0 : w3.frozen? ⟨w1.heap.size, 0, none⟩ = false := cFz hX3 0
  have g1 : w3.frozen? ⟨w1.heap.size, 1, none⟩ = false := cFz hX3 1
  have g2 : w3.frozen? ⟨w1.heap.size, 2, none⟩ = false := cFz hX3 2
  obtain ⟨V, hV, hVX, hVO, hVB⟩ := store3 (.iface T3 rv3) (.int .i64 k) (.int .i64 L2) hX3
  have HN2 := Lib.hid (HN.out _ V (BdAt.set_work hv3 hX3 (by simp) (by simp) (by simp) hVO))
  have hsz := HB1.out.size
  have HB3 : Hid (Below w.heap.size w V) := hVB _ _ (HB0.out.trans ((HB1.out.trans ((HB2.out.trans (hb3.mono HB2.out.size)).mono HB1.out.size)).mono HB0.out.size)) (by omega)
  have HR3 : Hid (V.heap[w.heap.size + 1]? = some (.cells #[.int .i64 0, .int .i64 0, .slice none 0 0, .int .i64 0, .string ⟨#[]⟩, .int .i64 0, .int .i64 0, .slice none 0 0, .int .i64 0, .slice none 0 0] 33 (0, 0))) := by
    refine (hVO.2 _ (by omega)).trans ?_
    exact known (HB1.out.trans ((HB2.out.trans (hb3.mono HB2.out.size)).mono HB1.out.size)) (Nat.le_refl _) HXR.out
  have q0 : V.cell? ⟨w1.heap.size, 0, none⟩ = some (.iface T3 rv3) := cCc hVX 0
  have q1 : V.cell? ⟨w1.heap.size, 1, none⟩ = some (.int .i64 k) := cCc hVX 1
  have q2 : V.cell? ⟨w1.heap.size, 2, none⟩ = some (.int .i64 L2) := cCc hVX 2
  clear hX3 hVX hVO hVB hv3 hb3
  go_wp2_with fail
  refine HN2.out.mono ?_
  rintro e w5 ⟨x, rfl, ⟨y5, s5, hy5, rfl, hA5, hF5⟩, hb5⟩
  have hR5 := known hb5 (Nat.le_refl _) HR3.out
  have r0 : w5.cell? ⟨w.heap.size + 1, 0, none⟩ = some (.int .i64 0) := cCc hR5 0
  have r1 : w5.cell? ⟨w.heap.size + 1, 1, none⟩ = some (.int .i64 0) := cCc hR5 1
  have r2 : w5.cell? ⟨w.heap.size + 1, 2, none⟩ = some (.slice none 0 0) := cCc hR5 2
  have r3 : w5.cell? ⟨w.heap.size + 1, 3, none⟩ = some (.int .i64 0) := cCc hR5 3
  have r4 : w5.cell? ⟨w.heap.size + 1, 4, none⟩ = some (.string ⟨#[]⟩) := cCc hR5 4
  have r5 : w5.cell? ⟨w.heap.size + 1, 5, none⟩ = some (.int .i64 0) := cCc hR5 5
  have r6 : w5.cell? ⟨w.heap.size + 1, 6, none⟩ = some (.int .i64 0) := cCc hR5 6
  have r7 : w5.cell? ⟨w.heap.size + 1, 7, none⟩ = some (.slice none 0 0) := cCc hR5 7
  have r8 : w5.cell? ⟨w.heap.size + 1, 8, none⟩ = some (.int .i64 0) := cCc hR5 8
  have r9 : w5.cell? ⟨w.heap.size + 1, 9, none⟩ = some (.slice none 0 0) := cCc hR5 9
  have f0 : w5.frozen? ⟨w.heap.size + 1, 0, none⟩ = false := cFz hR5 0
  have f1 : w5.frozen? ⟨w.heap.size + 1, 1, none⟩ = false := cFz hR5 1
  have f2 : w5.frozen? ⟨w.heap.size + 1, 2, none⟩ = false := cFz hR5 2
  have f3 : w5.frozen? ⟨w.heap.size + 1, 3, none⟩ = false := cFz hR5 3
  have f4 : w5.frozen? ⟨w.heap.size + 1, 4, none⟩ = false := cFz hR5 4
  have f5 : w5.frozen? ⟨w.heap.size + 1, 5, none⟩ = false := cFz hR5 5
  have f6 : w5.frozen? ⟨w.heap.size + 1, 6, none⟩ = false := cFz hR5 6
  have f7 : w5.frozen? ⟨w.heap.size + 1, 7, none⟩ = false := cFz hR5 7
  have f8 : w5.frozen? ⟨w.heap.size + 1, 8, none⟩ = false := cFz hR5 8
  have f9 : w5.frozen? ⟨w.heap.size + 1, 9, none⟩ = false := cFz hR5 9
  obtain ⟨U, hU, hUX, hUO, hUB⟩ := store10 (.int .i64 y5.kind) (.int .i64 y5.level) (.slice s5.ea s5.el s5.ec) (.int .i64 y5.hb) (.string y5.hr) (.int .i64 y5.cr) (.int .i64 y5.cc) (.slice s5.ca s5.cl s5.cc) (.int .i64 y5.gf) (.slice s5.ga s5.gl s5.gc) hR5
  have k0 : U.cell? ⟨w.heap.size + 1, 0, none⟩ = some (.int .i64 y5.kind) := cCc hUX 0
  have k1 : U.cell? ⟨w.heap.size + 1, 1, none⟩ = some (.int .i64 y5.level) := cCc hUX 1
  have k2 : U.cell? ⟨w.heap.size + 1, 2, none⟩ = some (.slice s5.ea s5.el s5.ec) := cCc hUX 2
  have k3 : U.cell? ⟨w.heap.size + 1, 3, none⟩ = some (.int .i64 y5.hb) := cCc hUX 3
  have k4 : U.cell? ⟨w.heap.size + 1, 4, none⟩ = some (.string y5.hr) := cCc hUX 4
  have k5 : U.cell? ⟨w.heap.size + 1, 5, none⟩ = some (.int .i64 y5.cr) := cCc hUX 5
  have k6 : U.cell? ⟨w.heap.size + 1, 6, none⟩ = some (.int .i64 y5.cc) := cCc hUX 6
  have k7 : U.cell? ⟨w.heap.size + 1, 7, none⟩ = some (.slice s5.ca s5.cl s5.cc) := cCc hUX 7
  have k8 : U.cell? ⟨w.heap.size + 1, 8, none⟩ = some (.int .i64 y5.gf) := cCc hUX 8
  have k9 : U.cell? ⟨w.heap.size + 1, 9, none⟩ = some (.slice s5.ga s5.gl s5.gc) := cCc hUX 9
  have HS2 : Hid (SkN w.heap.size U (.agg #[.int .i64 y5.kind, .int .i64 y5.level, .slice s5.ea s5.el s5.ec, .int .i64 y5.hb, .string y5.hr, .int .i64 y5.cr, .int .i64 y5.cc, .slice s5.ca s5.cl s5.cc, .int .i64 y5.gf, .slice s5.ga s5.gl s5.gc]) k L2 B2) := SkN.apart ⟨y5, s5, hy5, rfl, hA5, hF5.mono (by have := HB3.out.size; omega)⟩ hR5 (fun i u => noU_zero u) hUO
  have HBU : Hid (Below w.heap.size w U) := hUB _ _ (HB3.out.trans (hb5.mono HB3.out.size)) (by omega)
  clear hR5 hUX hUO hUB hy5 hA5 hF5 hb5
  go_wp2_with fail
  exact bodyPost_ret (v := .tuple #[.agg #[.int .i64 y5.kind, .int .i64 y5.level, .slice s5.ea s5.el s5.ec, .int .i64 y5.hb, .string y5.hr, .int .i64 y5.cr, .int .i64 y5.cc, .slice s5.ca s5.cl s5.cc, .int .i64 y5.gf, .slice s5.ga s5.gl s5.gc], .int .i64 0]) (by simp [results, Tryz.f19, go_sem, k0, k1, k2, k3, k4, k5, k6, k7, k8, k9]) rfl ⟨_, rfl, HS2.out, HBU.out⟩
end Go.Proofs.YtpnlmfilmbodfaaGreatDoor

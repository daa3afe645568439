/- Package ladder: a sketch as a value and its body at work. Package ladder: stores into a box, kept bodies and sketches; lowered at the bottom; told. Package ladder: to. Package ladder: with one item. Package ladder: Add on sketches at work. Printed by gen_ll.py. Package ladder: New. Printed by gen_lj.py. Package ladder: what sketches cost, in plain data. Laws of layer 10: items; New, whatever the kind. What rows have in common: items opened. Printed by gen_rz.py. What rows have in common: sketches opened, with their counters' columns. Printed by gen_rkw.py. -/
import Derived.Test.YtcbbenncdainfaaGreatDoorYLD
namespace Go.Proofs.YtcbbenncdainfaaGreatDoor
open Go Go.RowKit Go.Shelf
def skOf (kind level : Nat) : Bd → Sk
 | .num l => skNum kind level l
 | .reg b r => skReg kind level b (hlStr r)
 | .cnt c l => skCnt kind level 2 c l
 | .bkt f l => skBkt kind level f l
theorem sk_same (x : Sk) : skSame x x = true := by simp [skSame]
theorem skOf_kind (k L : Nat) (B : Bd) : (skOf k L B).kind = k ∧ (skOf k L B).level = L := by cases B <;> exact ⟨rfl, rfl⟩
theorem ok_kind {B : Bd} {k L : Nat} (h : B.Ok k L) : k = 1 ∨ k = 2 ∨ k = 3 := by
 cases B with
 | num l => exact .inl h.1
 | reg b r => exact .inl h.1
 | cnt c l => exact .inr (.inl h.1)
 | bkt f l => exact .inr (.inr h.1)
theorem cols_div {c level : Nat} (h : c * 2 ^ level = 32) (hl : level ≤ 3) : ((c : Int) == 32 / 2 ^ level) = true := by
 rw [beq_iff_eq]
 rcases (by omega : level = 0 ∨ level = 1 ∨ level = 2 ∨ level = 3) with rfl | rfl | rfl | rfl <;> simp at h ⊢ <;> omega
theorem skOf_canon {B : Bd} {k L : Nat} (h : B.Ok k L) : skCanon (skOf k L B) = skOf k L B := by
 cases B with
 | num l =>
  obtain ⟨rfl, rfl, -⟩ := h
  rfl
 | reg b r =>
  obtain ⟨rfl, h1, -⟩ := h
  have h0 : (((L : Nat) : Int) == 0) = false := by simp; omega
  show (if ((1 : Nat) : Int) == 1 then if (L : Int) == 0 then _ else _ else _) = _
  rw [h0]
  rfl
 | cnt c l =>
  obtain ⟨rfl, -⟩ := h
  rfl
 | bkt f l =>
  obtain ⟨rfl, -⟩ := h
  rfl
theorem skOf_body {B : Bd} {k L : Nat} (h : B.Ok k L) : bodyRight (skOf k L B) = true := by
 cases B with
 | num l =>
  obtain ⟨rfl, rfl, h3, h4, -⟩ := h
  exact up_right l h3 h4
 | reg b r =>
  obtain ⟨rfl, h1, h2, h3, h4, h5⟩ := h
  have h0 : (((L : Nat) : Int) == 0) = false := by simp; omega
  show (if ((1 : Nat) : Int) == 1 then if (L : Int) == 0 then _ else hlRight (b : Int) (hlStr r) && ((b : Int) == 8 - (L : Int)) else _) = true
  rw [h0, hlRight_str b r (by omega) (by omega) h4 h5]
  simp
  omega
 | cnt c l =>
  obtain ⟨rfl, h2, h3, h4, -⟩ := h
  show (cmRight 2 (c : Int) l && ((2 : Int) == 2) && ((c : Int) == 32 / 2 ^ ((L : Int)).toNat)) = true
  rw [Int.toNat_natCast, cols_div h3 h2]
  unfold cmRight
  rw [shape_any c (cols_of h3 h2)]
  simp
  omega
 | bkt f l =>
  obtain ⟨rfl, h2, h3, h4, h5, -, h7⟩ := h
  show (hiRight (f : Int) l && ((f : Int) == 3 - (L : Int))) = true
  rw [hiRight_of f l (by omega) h4 h5 h7]
  simp
  omega
theorem skOf_ok {B : Bd} {k L : Nat} (h : B.Ok k L) : skOk (skOf k L B) = true := by
 unfold skOk
 rw [skOf_body h, skOf_canon h, sk_same, (skOf_kind k L B).1, (skOf_kind k L B).2, (bot_eq h).1]
 have h1 := (bot_eq h).2
 have h2 := ok_kind h
 simp
 omega
theorem skOf_fit {B : Bd} {k L : Nat} (h : B.Ok k L) : (skOf k L B).fit := by
 cases B with
 | bkt f l =>
  obtain ⟨rfl, h2, h3, h4, h5, -, h7⟩ := h
  exact fun b hb => (bins_i64 f l (by omega) h7 b hb).2
 | num l => exact fun b hb => by cases hb
 | reg b r => exact fun b hb => by cases hb
 | cnt c l => exact fun b hb => by cases hb
def SkB (W : World) (v : Value) (k L : Nat) (B : Bd) : Prop := ∃ (y : Sk) (s : SS), y = skOf k L B ∧ v = .agg #[.int .i64 y.kind, .int .i64 y.level, .slice s.ea s.el s.ec, .int .i64 y.hb, .string y.hr, .int .i64 y.cr, .int .i64 y.cc, .slice s.ca s.cl s.cc, .int .i64 y.gf, .slice s.ga s.gl s.gc] ∧ s.At W.heap.size W y
theorem SkB.go {W W' : World} {v : Value} {k L : Nat} {B : Bd} (h : SkB W v k L B) (hb : Below W.heap.size W W') : SkB W' v k L B := by
 obtain ⟨y, s, h0, h1, h2⟩ := h
 exact ⟨y, s, h0, h1, h2.go hb⟩
theorem at_short {s : SS} {k L : Nat} {B : Bd} {n : Nat} {W : World} (h : B.Ok k L) (hA : s.At n W (skOf k L B)) : s.Short := by
 have e1 : s.el = (skOf k L B).e.length := hA.e.1.1
 have e2 : s.cl = (skOf k L B).cl.length := hA.c.1.1
 have e3 : s.gl = (skOf k L B).gl.length := hA.g.1.1
 unfold SS.Short
 rw [e1, e2, e3]
 cases B with
 | num l =>
  obtain ⟨-, -, -, h4, -⟩ := h
  show l.length < _ ∧ 0 < _ ∧ 0 < _
  omega
 | reg b r => show 0 < _ ∧ 0 < _ ∧ 0 < _; omega
 | cnt c l =>
  obtain ⟨-, h2, h3, h4, -⟩ := h
  have := cols_of h3 h2
  show 0 < _ ∧ l.length < _ ∧ 0 < _
  omega
 | bkt f l =>
  obtain ⟨-, h2, h3, h4, -, -, h7⟩ := h
  have := bins_len f l (by omega) h4 h7
  show 0 < _ ∧ 0 < _ ∧ l.length < _
  omega
theorem skBody_at {s : SS} {k L : Nat} {B : Bd} {W : World} (h : B.Ok k L) (hA : s.At W.heap.size W (skOf k L B)) : BdAt W (skBody (skOf k L B) s) B := by
 cases B with
 | num l =>
  obtain ⟨rfl, rfl, -⟩ := h
  exact ⟨s.ea, s.el, s.ec, rfl, hA.e⟩
 | reg b r =>
  obtain ⟨rfl, h1, -⟩ := h
  have h0 : (((L : Nat) : Int) == 0) = false := by simp; omega
  show (if ((1 : Nat) : Int) == 1 then if (L : Int) == 0 then _ else _ else _) = _
  rw [h0]
  rfl
 | cnt c l =>
  obtain ⟨rfl, -⟩ := h
  exact ⟨s.ca, s.cl, s.cc, rfl, hA.c⟩
 | bkt f l =>
  obtain ⟨rfl, -⟩ := h
  exact ⟨s.ga, s.gl, s.gc, rfl, hA.g⟩
theorem open_sk_any {k L : Nat} {B : Bd} {v : Value} {w : World} (h : B.Ok k L) (hv : SkB w v k L B) :
  Calls Tryz.prog 31 #[v] w fun e w' => ∃ b, e = .returned (.tuple #[.agg #[b, .int .i64 k, .int .i64 L], .nilIface]) ∧ BdAt w' b B ∧ Below w.heap.size w w' := by
 obtain ⟨y, s, rfl, rfl, hA⟩ := hv
 refine (open_any (skOf k L B) s w hA (at_short h hA) (skOf_fit h)).mono ?_
 rintro e w' ⟨h1, h2⟩
 rw [skOf_ok h, (skOf_kind k L B).1, (skOf_kind k L B).2] at h1
 exact ⟨_, h1, skBody_at h (hA.go h2), h2⟩
theorem sketch_sk {k L : Nat} {B : Bd} {v : Value} {w : World} (h : B.Ok k L) (hv : BdAt w v B) :
  Calls Tryz.prog 63 #[.agg #[v, .int .i64 k, .int .i64 L]] w fun e w' => ∃ x, e = .returned x ∧ SkB w' x k L B ∧ Below w.heap.size w w' := by
 cases B with
 | num l =>
  obtain ⟨a, len, cap, rfl, hS⟩ := hv
  refine (sketch_num k L l a len cap w hS.1 (by have := h.2.2.2.1; have := hS.1.1; omega)).mono ?_
  rintro e w' ⟨s, rfl, hs, -, -, -, hb⟩
  exact ⟨_, rfl, ⟨_, s, rfl, rfl, hs⟩, hb⟩
 | reg b r =>
  obtain rfl : v = _ := hv
  refine (sketch_reg k L b (hlStr r) w).mono ?_
  rintro e w' ⟨s, rfl, hs, -, -, -, hb⟩
  exact ⟨_, rfl, ⟨_, s, rfl, rfl, hs⟩, hb⟩
 | cnt c l =>
  obtain ⟨a, len, cap, rfl, hS⟩ := hv
  refine (sketch_cnt k L 2 c l a len cap w hS.1 (by have := cols_of h.2.2.1 h.2.1; have := h.2.2.2.1; have := hS.1.1; omega)).mono ?_
  rintro e w' ⟨s, rfl, hs, -, -, -, hb⟩
  exact ⟨_, rfl, ⟨_, s, rfl, rfl, hs⟩, hb⟩
 | bkt f l =>
  obtain ⟨a, len, cap, rfl, hS⟩ := hv
  refine (sketch_bkt k L f l a len cap w hS.1 (by have := bins_len f l (by have := h.2.2.1; omega) h.2.2.2.1 h.2.2.2.2.2.2; have := hS.1.1; omega)).mono ?_
  rintro e w' ⟨s, rfl, hs, -, -, -, hb⟩
  exact ⟨_, rfl, ⟨_, s, rfl, rfl, hs⟩, hb⟩
end Go.Proofs.YtcbbenncdainfaaGreatDoor
namespace Go.Proofs.YtcbbenncdainfaaGreatDoor
open Go Go.RowKit Go.Shelf
theorem OnlyAt.trans {b : Nat} {W V U : World} (h1 : OnlyAt b W V) (h2 : OnlyAt b V U) : OnlyAt b W U := ⟨h2.1.trans h1.1, fun k hk => (h2.2 k hk).trans (h1.2 k hk)⟩
theorem set_same {W : World} {B i : Nat} {c : Array Value} {t : TypeId} {fz : Nat × Nat} {v : Value} (h : W.heap[B]? = some (.cells c t fz)) (hv : c[i]? = some v) : W.setCell ⟨B, i, none⟩ v = W := by
 have hc : c.setIfInBounds i v = c := by
  obtain ⟨hi, rfl⟩ := Array.getElem?_eq_some_iff.1 hv
  apply Array.ext (by simp)
  intro j h1 h2
  rw [Array.getElem_setIfInBounds]
  split
  ·rename_i e; subst e; rfl
  ·rfl
 have key : (W.setCell ⟨B, i, none⟩ v).heap = W.heap := by
  apply Array.ext (size_set W _ v)
  intro j h1 h2
  have a1 : (W.setCell ⟨B, i, none⟩ v).heap[j]? = W.heap[j]? := by
   by_cases hj : B = j
   ·subst hj
    rw [hSk h, h, hc]
   ·exact heap_set_other (p := ⟨B, i, none⟩) hj v
  rw [Array.getElem?_eq_getElem h1, Array.getElem?_eq_getElem h2] at a1
  exact Option.some.inj a1
 have e : W.setCell ⟨B, i, none⟩ v = { W with heap := (W.setCell ⟨B, i, none⟩ v).heap } := rfl
 rw [e, key]
theorem store3 {W : World} {b : Nat} {x y z : Value} (u v q : Value) {t : TypeId} (h : W.heap[b]? = some (.cells #[x, y, z] t (0, 0))) : ∃ V, ((W.setCell ⟨b, 0, none⟩ u).setCell ⟨b, 1, none⟩ v).setCell ⟨b, 2, none⟩ q = V ∧ V.heap[b]? = some (.cells #[u, v, q] t (0, 0)) ∧ OnlyAt b W V ∧ ∀ n w0, Below n w0 W → n ≤ b → Below n w0 V :=
 ⟨_, rfl, set_cells3 h, (((OnlyAt.refl _ _).set _ _).set _ _).set _ _, fun _ _ hB hn => ((hB.setCell (p := ⟨b, 0, none⟩) hn _).setCell (p := ⟨b, 1, none⟩) hn _).setCell (p := ⟨b, 2, none⟩) hn _⟩
theorem store10 {W : World} {b : Nat} {x0 x1 x2 x3 x4 x5 x6 x7 x8 x9 : Value} (v0 v1 v2 v3 v4 v5 v6 v7 v8 v9 : Value) {t : TypeId} (h : W.heap[b]? = some (.cells #[x0, x1, x2, x3, x4, x5, x6, x7, x8, x9] t (0, 0))) :
  ∃ V, (((((((((W.setCell ⟨b, 0, none⟩ v0).setCell ⟨b, 1, none⟩ v1).setCell ⟨b, 2, none⟩ v2).setCell ⟨b, 3, none⟩ v3).setCell ⟨b, 4, none⟩ v4).setCell ⟨b, 5, none⟩ v5).setCell ⟨b, 6, none⟩ v6).setCell ⟨b, 7, none⟩ v7).setCell ⟨b, 8, none⟩ v8).setCell ⟨b, 9, none⟩ v9 = V ∧
   V.heap[b]? = some (.cells #[v0, v1, v2, v3, v4, v5, v6, v7, v8, v9] t (0, 0)) ∧ OnlyAt b W V ∧ ∀ n w0, Below n w0 W → n ≤ b → Below n w0 V :=
 ⟨_, rfl, set10 h, ((((((((((OnlyAt.refl _ _).set _ _).set _ _).set _ _).set _ _).set _ _).set _ _).set _ _).set _ _).set _ _).set _ _,
  fun _ _ hB hn => (((((((((hB.setCell (p := ⟨b, 0, none⟩) hn _).setCell (p := ⟨b, 1, none⟩) hn _).setCell (p := ⟨b, 2, none⟩) hn _).setCell (p := ⟨b, 3, none⟩) hn _).setCell (p := ⟨b, 4, none⟩) hn _).setCell (p := ⟨b, 5, none⟩) hn _).setCell (p := ⟨b, 6, none⟩) hn _).setCell (p := ⟨b, 7, none⟩) hn _).setCell (p := ⟨b, 8, none⟩) hn _).setCell (p := ⟨b, 9, none⟩) hn _⟩
theorem BdAt.set_work {W V : World} {v : Value} {B : Bd} {b : Nat} {x y z : Value} {t : TypeId} (h : BdAt W v B) (hX : W.heap[b]? = some (.cells #[x, y, z] t (0, 0))) (hx : ∀ u, x ≠ .int .u64 u) (hy : ∀ u, y ≠ .int .u64 u) (hz : ∀ u, z ≠ .int .u64 u) (hV : OnlyAt b W V) : BdAt V v B :=
 h.apart hX (fun _ u => no_u64 hx hy hz u) hV
theorem SkB.apart {W V : World} {v : Value} {k L : Nat} {B : Bd} (h : SkB W v k L B) {b : Nat} {cs : Array Value} {t : TypeId} (hX : W.heap[b]? = some (.cells cs t (0, 0))) (hc : ∀ (i : Nat) (u : Int), cs[i]? ≠ some (Value.int .u64 u)) (hV : OnlyAt b W V) : SkB V v k L B := by
 obtain ⟨y, s, h0, h1, h2⟩ := h
 exact ⟨y, s, h0, h1, slC_apart (i0 := 0) (by decide) (fun x => ⟨x, rfl⟩) hX hc hV h2.e, slC_apart (i0 := 0) (by decide) (fun x => ⟨x, rfl⟩) hX hc hV h2.c, slC_apart (i0 := 1) (by decide) (fun x => ⟨x.2, rfl⟩) hX hc hV h2.g⟩
theorem noU_zero {i : Nat} (u : Int) : (#[.int .i64 0, .int .i64 0, .slice none 0 0, .int .i64 0, .string ⟨#[]⟩, .int .i64 0, .int .i64 0, .slice none 0 0, .int .i64 0, .slice none 0 0] : Array Value)[i]? ≠ some (.int .u64 u) := by
 intro h
 rcases i with _ | _ | _ | _ | _ | _ | _ | _ | _ | _ | i <;> simp at h
set_option maxRecDepth 100000 in
set_option maxHeartbeats 1000000 in
theorem told_nil (v : Value) (B : Bd) (kind level : Nat) (w : World) (hb : BdAt w v B) (hok : B.Ok kind level) :
  Calls Tryz.prog 32 #[.agg #[v, .int .i64 kind, .int .i64 level], .nilIface] w fun e w' => ∃ x, e = .returned (.tuple #[x, .int .i64 0]) ∧ SkB w' x kind level B ∧ Below w.heap.size w w' := by
 obtain ⟨T, rv, rfl⟩ := bd_iface hb
 obtain ⟨W0, hW0, hXp, hXr, hB0, hs0⟩ := boxes2 w #[.iface T rv, .int .i64 kind, .int .i64 level] 60 #[.int .i64 0, .int .i64 0, .slice none 0 0, .int .i64 0, .string ⟨#[]⟩, .int .i64 0, .int .i64 0, .slice none 0 0, .int .i64 0, .slice none 0 0] 33
 obtain ⟨c0, c1, c2⟩ := cl3 hXp
 have HS := Lib.hid (sketch_sk (w := W0) hok (hb.go hB0))
 have HXR := Lib.hid hXr
 have HB0 := Lib.hid hB0
 clear hXp hXr hB0 hb hok
 go_enter Tryz.func32, Tryz.ntmps32
 go_wp2_with fail
 refine HS.out.mono ?_
 rintro e w1 ⟨x, rfl, ⟨y, s, hy, rfl, hA⟩, hb1⟩
 have hR1 := known hb1 (Nat.le_refl _) HXR.out
 have HY := Lib.hid hy
 clear hy
 obtain ⟨r0, r1, r2, r3, r4, r5, r6, r7, r8, r9⟩ := cl10 hR1
 obtain ⟨g0, g1, g2, g3, g4, g5, g6, g7, g8, g9⟩ := cz10 hR1
 obtain ⟨V, hV, hVX, hVO, hVB⟩ := store10 (.int .i64 y.kind) (.int .i64 y.level) (.slice s.ea s.el s.ec) (.int .i64 y.hb) (.string y.hr) (.int .i64 y.cr) (.int .i64 y.cc) (.slice s.ca s.cl s.cc) (.int .i64 y.gf) (.slice s.ga s.gl s.gc) hR1
 have HR1 := Lib.hid hR1
 have HV := Lib.hid (And.intro hVO hVB)
 have HA := Lib.hid hA
 have Hb1 := Lib.hid hb1
 obtain ⟨k0, k1, k2, k3, k4, k5, k6, k7, k8, k9⟩ := cl10 hVX
 clear hR1 hVO hVB hA hb1 hVX
 go_wp2_with fail
 obtain ⟨hVO, hVB⟩ := HV.out
 have hS2 : SkB w1 (.agg #[.int .i64 y.kind, .int .i64 y.level, .slice s.ea s.el s.ec, .int .i64 y.hb, .string y.hr, .int .i64 y.cr, .int .i64 y.cc, .slice s.ca s.cl s.cc, .int .i64 y.gf, .slice s.ga s.gl s.gc]) kind level B := ⟨y, s, HY.out, rfl, HA.out⟩
 exact bodyPost_ret (v := .tuple #[.agg #[.int .i64 y.kind, .int .i64 y.level, .slice s.ea s.el s.ec, .int .i64 y.hb, .string y.hr, .int .i64 y.cr, .int .i64 y.cc, .slice s.ca s.cl s.cc, .int .i64 y.gf, .slice s.ga s.gl s.gc], .int .i64 0]) (by simp [results, Tryz.f32, go_sem, k0, k1, k2, k3, k4, k5, k6, k7, k8, k9]) rfl ⟨_, rfl, hS2.apart HR1.out (fun i u => noU_zero u) hVO, hVB _ _ (HB0.out.trans (Hb1.out.mono HB0.out.size)) (Nat.le_succ _)⟩
end Go.Proofs.YtcbbenncdainfaaGreatDoor
namespace Go.Proofs.YtcbbenncdainfaaGreatDoor
open Go Go.RowKit Go.Shelf
attribute [local go_sem] Oper.semAt_some
theorem ownBlk {X Y : World} {row : Option Nat} {b : Nat} {cs : Array Value} {t : TypeId} {f : Nat × Nat} (h : X.heap[b]? = some (.cells cs t f)) (hg : X.grownBy Y row) (hr : ∀ r, row = some r → ∃ o : Obj, X.heap[r]? = some o ∧ o.isCells = false) : Y.heap[b]? = some (.cells cs t f) := by
 refine (hg.block b (Array.getElem?_eq_some_iff.1 h).1 (fun e => ?_)).trans h
 obtain ⟨o, ho, h2⟩ := hr b e.symm
 rw [h] at ho
 cases ho
 cases h2
end Go.Proofs.YtcbbenncdainfaaGreatDoor
namespace Go.Proofs.YtcbbenncdainfaaGreatDoor
open Go Go.RowKit Go.Shelf
set_option maxRecDepth 100000 in
set_option maxHeartbeats 2000000 in
theorem with_some (v : Value) (B B1 : Bd) (kind level h g : Nat) (n : Int) (w : World) (hb : BdAt w v B) (hok : B.Ok kind level) (hI : w.heap[g]? = some (.cells #[.int .u64 h, .int .u64 n] 45 (0, 0))) (hh : h < 2 ^ 64) (hn : U64 n) (he : B.add h n = some B1) :
  Calls Tryz.prog 47 #[.agg #[v, .int .i64 kind, .int .i64 level], .slice (some ⟨g, 0, none⟩) 1 1] w fun e w' => ∃ v', e = .returned (.tuple #[.agg #[v', .int .i64 kind, .int .i64 level], .nilIface]) ∧ BdAt w' v' B1 ∧ Below w.heap.size w w' := by
 obtain ⟨T, rv, f, rfl, hm, hcf, hc⟩ := add_at hb hok
 obtain ⟨W0, hW0, hXp, hXr, hB0, hs0⟩ := boxes2 w #[.iface T rv, .int .i64 kind, .int .i64 level] 60 #[.nilIface, .int .i64 0, .int .i64 0] 60
 have hI0 := known hB0 (Nat.le_refl _) hI
 obtain ⟨W1, hW1, hXi, hB1, hs1⟩ := boxes1 W0 #[.int .u64 h, .int .u64 n] 45
 rw [hs0] at hXi hs1
 have hXp1 := known hB1 (by omega) hXp
 have hXr1 := known hB1 (by omega) hXr
 obtain ⟨q0, q1⟩ := cl2 hI0
 obtain ⟨c0, c1, c2⟩ := cl3 hXp1
 obtain ⟨d0, d1⟩ := cl2 hXi
 have HC := Lib.hid (hc W1 h n ((hb.go hB0).go hB1) hh hn)
 rw [he] at HC
 have HB01 := Lib.hid (hB0.trans (hB1.mono hB0.size))
 have HXp := Lib.hid hXp1
 have HXr := Lib.hid hXr1
 clear hXp hXr hB0 hb hok hc hI hI0 hXi hB1 hXp1 hXr1 hh hn he
 go_enter Tryz.func47, Tryz.ntmps47
 go_wp2_with fail
 refine wp_loop_rounds 2 ?_
 rw [rounds_succ]
 go_wp2_with fail
 refine HC.out.mono ?_
 rintro e w2 ⟨hb2, v2, rfl, hv2⟩
 obtain ⟨T2, rv2, rfl⟩ := bd_iface hv2
 have HF := Lib.hid (isFull_nil w2)
 go_wp2_with fail
 refine HF.out.mono ?_
 rintro e w3 ⟨rfl, hb3⟩
 have hb13 := hb2.trans (hb3.mono hb2.size)
 have hX3 := known hb13 (Nat.le_refl _) HXp.out
 have hR3 := known hb13 (Nat.le_refl _) HXr.out
 have hB3 := HB01.out.trans (hb13.mono HB01.out.size)
 obtain ⟨p0, p1, p2⟩ := cl3 hX3
 obtain ⟨x0, x1, x2⟩ := cz3 hX3
 obtain ⟨V, hV⟩ : ∃ V, w3.setCell ⟨w.heap.size, 0, none⟩ (.iface T2 rv2) = V := ⟨_, rfl⟩
 have hXV : V.heap[w.heap.size]? = some (.cells #[.iface T2 rv2, .int .i64 kind, .int .i64 level] 60 (0, 0)) := by rw [← hV]; exact hSk hX3 (.iface T2 rv2)
 have hOV : OnlyAt w.heap.size w3 V := by rw [← hV]; exact (OnlyAt.refl _ _).set _ _
 have hBV : Below w.heap.size w V := by rw [← hV]; exact hB3.setCell (p := ⟨w.heap.size, 0, none⟩) (Nat.le_refl _) _
 have hRV := (hOV.2 (w.heap.size + 1) (by omega)).trans hR3
 have hbV : BdAt V (.iface T2 rv2) B1 := BdAt.set_work (hv2.go hb3) hX3 (by simp) (by simp) (by simp) hOV
 obtain ⟨u0, u1, u2⟩ := cl3 hXV
 obtain ⟨r0, r1, r2⟩ := cl3 hRV
 obtain ⟨z0, z1, z2⟩ := cz3 hRV
 obtain ⟨V2, hV2, hVX, hVO, hVB⟩ := store3 (.iface T2 rv2) (.int .i64 kind) (.int .i64 level) hRV
 obtain ⟨k0, k1, k2⟩ := cl3 hVX
 have HE : Hid (BdAt V2 (.iface T2 rv2) B1 ∧ Below w.heap.size w V2) := ⟨BdAt.set_work hbV hRV (by simp) (by simp) (by simp) hVO, hVB _ _ hBV (Nat.le_succ _)⟩
 clear hX3 hR3 hB3 hb13 hb2 hb3 hv2 hXV hOV hBV hRV hbV hVX hVO hVB
 go_wp2_with fail
 rw [rounds_succ]
 go_wp2_with fail
 exact bodyPost_ret (v := .tuple #[.agg #[.iface T2 rv2, .int .i64 kind, .int .i64 level], .nilIface]) (by simp [results, Tryz.f47, go_sem, k0, k1, k2]) rfl ⟨_, rfl, HE.out.1, HE.out.2⟩
set_option maxRecDepth 100000 in
set_option maxHeartbeats 2000000 in
theorem with_none (v : Value) (B B2 : Bd) (kind level h g : Nat) (n : Int) (w : World) (hb : BdAt w v B) (hok : B.Ok kind level) (hlv : level < botN kind) (hI : w.heap[g]? = some (.cells #[.int .u64 h, .int .u64 n] 45 (0, 0))) (hh : h < 2 ^ 64) (hn : U64 n) (hg : GT w) (he : B.add h n = none) (he2 : B.low.add h n = some B2) :
  Calls Tryz.prog 47 #[.agg #[v, .int .i64 kind, .int .i64 level], .slice (some ⟨g, 0, none⟩) 1 1] w fun e w' => ∃ v', e = .returned (.tuple #[.agg #[v', .int .i64 kind, .int .i64 ((level : Int) + 1)], .nilIface]) ∧ BdAt w' v' B2 ∧ Below w.heap.size w w' := by
 obtain ⟨T, rv, f, rfl, hm, hcf, hc⟩ := add_at hb hok
 obtain ⟨W0, hW0, hXp, hXr, hB0, hs0⟩ := boxes2 w #[.iface T rv, .int .i64 kind, .int .i64 level] 60 #[.nilIface, .int .i64 0, .int .i64 0] 60
 have hI0 := known hB0 (Nat.le_refl _) hI
 obtain ⟨W1, hW1, hXi, hB1, hs1⟩ := boxes1 W0 #[.int .u64 h, .int .u64 n] 45
 rw [hs0] at hXi hs1
 have hXp1 := known hB1 (by omega) hXp
 have hXr1 := known hB1 (by omega) hXr
 obtain ⟨q0, q1⟩ := cl2 hI0
 obtain ⟨c0, c1, c2⟩ := cl3 hXp1
 obtain ⟨d0, d1⟩ := cl2 hXi
 have HC := Lib.hid (hc W1 h n ((hb.go hB0).go hB1) hh hn)
 rw [he] at HC
 have HB01 := Lib.hid (hB0.trans (hB1.mono hB0.size))
 have HXp := Lib.hid hXp1
 have HXr := Lib.hid hXr1
 have HXi := Lib.hid hXi
 have HB := Lib.hid ((hb.go hB0).go hB1)
 have HOK : Hid (B.Ok kind level ∧ level < botN kind ∧ h < 2 ^ 64 ∧ U64 n) := ⟨hok, hlv, hh, hn⟩
 have HE2 := Lib.hid he2
 have HGT := Lib.hid hg
 clear hXp hXr hB0 hb hok hc hI hI0 hXi hB1 hXp1 hXr1 hh hn he he2 hlv hg
 go_enter Tryz.func47, Tryz.ntmps47
 go_wp2_with fail
 refine wp_loop_rounds 2 ?_
 rw [rounds_succ]
 go_wp2_with fail
 refine HC.out.mono ?_
 rintro e w2 ⟨hb2, v2, rfl, hf2⟩
 have hF : Calls Tryz.prog 66 #[v2] w2 fun e w' => e = .returned (.bool true) ∧ Below w2.heap.size w2 w' := isFull_fault v2 60 w2 (HGT.out.go (HB01.out.trans (hb2.mono HB01.out.size))) hf2
 have HF := Lib.hid hF
 obtain ⟨bf, rfl, -⟩ := hf2
 clear hF
 go_wp2_with fail
 refine HF.out.mono ?_
 rintro e w3 ⟨rfl, hb3⟩
 have hb13 := hb2.trans (hb3.mono hb2.size)
 have hX3 := known hb13 (Nat.le_refl _) HXp.out
 obtain ⟨p0, p1, p2⟩ := cl3 hX3
 have HLo := Lib.hid (lowered_any (.iface T rv) B kind level w3 (HB.out.go hb13) HOK.out.1 HOK.out.2.1)
 have HB13 := Lib.hid hb13
 clear hX3 hb13 hb2 hb3
 go_wp2_with fail
 refine HLo.out.mono ?_
 rintro e w4 ⟨v4, rfl, hv4, hb4⟩
 obtain ⟨T4, rv4, f4, rfl, hm4, hcf4, hc4⟩ := add_at hv4 (bd_low_ok HOK.out.1 HOK.out.2.1)
 have hb14 := HB13.out.trans (hb4.mono HB13.out.size)
 have hX4 := known hb14 (Nat.le_refl _) HXp.out
 have hR4 := known hb14 (Nat.le_refl _) HXr.out
 have hI4 := known hb14 (Nat.le_refl _) HXi.out
 have hB4 := HB01.out.trans (hb14.mono HB01.out.size)
 obtain ⟨y0, y1, y2⟩ := cl3 hX4
 obtain ⟨x0, x1, x2⟩ := cz3 hX4
 obtain ⟨V, hV, hXV, hOV, hVB⟩ := store3 (.iface T4 rv4) (.int .i64 kind) (.int .i64 ((level : Int) + 1)) hX4
 have hBV := hVB _ _ hB4 (Nat.le_refl _)
 have hRV := (hOV.2 (w.heap.size + 1) (by omega)).trans hR4
 have hIV := (hOV.2 (w.heap.size + 2) (by omega)).trans hI4
 have hbV : BdAt V (.iface T4 rv4) B.low := BdAt.set_work hv4 hX4 (by simp) (by simp) (by simp) hOV
 have HC4 := Lib.hid (hc4 V h n hbV HOK.out.2.2.1 HOK.out.2.2.2)
 rw [HE2.out] at HC4
 obtain ⟨u0, u1, u2⟩ := cl3 hXV
 obtain ⟨j0, j1⟩ := cl2 hIV
 have HXV := Lib.hid hXV
 have HRV := Lib.hid hRV
 have HBV := Lib.hid hBV
 clear hm hcf hX4 hR4 hI4 hB4 hb14 hv4 hb4 hXV hOV hVB hBV hRV hIV hbV hc4
 go_wp2_with fail
 refine HC4.out.mono ?_
 rintro e w5 ⟨hb5, v5, rfl, hv5⟩
 obtain ⟨T5, rv5, rfl⟩ := bd_iface hv5
 have hX5 := known hb5 (Nat.le_refl _) HXV.out
 have hR5 := known hb5 (Nat.le_refl _) HRV.out
 have hB5 := HBV.out.trans (hb5.mono HBV.out.size)
 obtain ⟨a0, a1, a2⟩ := cl3 hX5
 obtain ⟨b0, b1, b2⟩ := cz3 hX5
 obtain ⟨U, hU⟩ : ∃ U, w5.setCell ⟨w.heap.size, 0, none⟩ (.iface T5 rv5) = U := ⟨_, rfl⟩
 have hXU : U.heap[w.heap.size]? = some (.cells #[.iface T5 rv5, .int .i64 kind, .int .i64 ((level : Int) + 1)] 60 (0, 0)) := by rw [← hU]; exact hSk hX5 (.iface T5 rv5)
 have hOU : OnlyAt w.heap.size w5 U := by rw [← hU]; exact (OnlyAt.refl _ _).set _ _
 have hBU : Below w.heap.size w U := by rw [← hU]; exact hB5.setCell (p := ⟨w.heap.size, 0, none⟩) (Nat.le_refl _) _
 have hRU := (hOU.2 (w.heap.size + 1) (by omega)).trans hR5
 have hbU : BdAt U (.iface T5 rv5) B2 := BdAt.set_work hv5 hX5 (by simp) (by simp) (by simp) hOU
 obtain ⟨l0, l1, l2⟩ := cl3 hXU
 obtain ⟨r0, r1, r2⟩ := cl3 hRU
 obtain ⟨z0, z1, z2⟩ := cz3 hRU
 obtain ⟨V2, hV2, hVX, hVO, hVB⟩ := store3 (.iface T5 rv5) (.int .i64 kind) (.int .i64 ((level : Int) + 1)) hRU
 obtain ⟨k0, k1, k2⟩ := cl3 hVX
 have HE : Hid (BdAt V2 (.iface T5 rv5) B2 ∧ Below w.heap.size w V2) := ⟨BdAt.set_work hbU hRU (by simp) (by simp) (by simp) hVO, hVB _ _ hBU (Nat.le_succ _)⟩
 clear hm4 hcf4 hX5 hR5 hB5 hb5 hv5 hXU hOU hBU hRU hbU hVX hVO hVB
 go_wp2_with fail
 rw [rounds_succ]
 go_wp2_with fail
 exact bodyPost_ret (v := .tuple #[.agg #[.iface T5 rv5, .int .i64 kind, .int .i64 ((level : Int) + 1)], .nilIface]) (by simp [results, Tryz.f47, go_sem, k0, k1, k2]) rfl ⟨_, rfl, HE.out.1, HE.out.2⟩
theorem with_item (v : Value) (B : Bd) (kind level h g : Nat) (n : Int) (w : World) (hb : BdAt w v B) (hok : B.Ok kind level) (hI : w.heap[g]? = some (.cells #[.int .u64 h, .int .u64 n] 45 (0, 0))) (hh : h < 2 ^ 64) (hn : U64 n) (hg : GT w) :
  Calls Tryz.prog 47 #[.agg #[v, .int .i64 kind, .int .i64 level], .slice (some ⟨g, 0, none⟩) 1 1] w fun e w' => ∃ v', e = .returned (.tuple #[.agg #[v', .int .i64 kind, .int .i64 ((wkAdd (level, B) (h, n)).1 : Int)], .nilIface]) ∧ BdAt w' v' (wkAdd (level, B) (h, n)).2 ∧ Below w.heap.size w w' := by
 cases he : B.add h n with
 | some B1 =>
  have e : wkAdd (level, B) (h, n) = (level, B1) := by unfold wkAdd; simp only [he]
  rw [e]
  exact with_some v B B1 kind level h g n w hb hok hI hh hn he
 | none =>
  obtain ⟨B2, he2, hk, hL⟩ := bd_add_low hok he
  have e : wkAdd (level, B) (h, n) = (level + 1, B2) := by unfold wkAdd; simp only [he, he2, Option.getD_some]
  rw [e]
  exact with_none v B B2 kind level h g n w hb hok (by rw [hk, hL]; decide) hI hh hn hg he he2
end Go.Proofs.YtcbbenncdainfaaGreatDoor
namespace Go.Proofs.YtcbbenncdainfaaGreatDoor
open Go Go.RowKit Go.Shelf
set_option maxRecDepth 100000 in
set_option maxHeartbeats 2000000 in
theorem Add_any {k L : Nat} {h : Nat} {n : Int} {B : Bd} {v : Value} {w : World} (hok : B.Ok k L) (hh : h < 2 ^ 64) (hn : U64 n) (hg : GT w) (hv : SkB w v k L B) :
  Calls Tryz.prog 15 #[v, .agg #[.int .u64 h, .int .u64 n]] w fun e w' => ∃ x, e = .returned (.tuple #[x, .int .i64 0]) ∧ SkB w' x k (wkAdd (L, B) (h, n)).1 (wkAdd (L, B) (h, n)).2 ∧ Below w.heap.size w w' := by
 have hok2 : ((wkAdd (L, B) (h, n)).2).Ok k ((wkAdd (L, B) (h, n)).1) := (wkAdd_ok (s := (L, B)) (i := (h, n)) hok ⟨hh, hn⟩).1
 obtain ⟨y, s, hy, rfl, hA⟩ := hv
 obtain ⟨W0, hW0, hXp, hXi, hXr, hB0, hs0⟩ := boxes3 w #[.int .i64 y.kind, .int .i64 y.level, .slice s.ea s.el s.ec, .int .i64 y.hb, .string y.hr, .int .i64 y.cr, .int .i64 y.cc, .slice s.ca s.cl s.cc, .int .i64 y.gf, .slice s.ga s.gl s.gc] 33 #[.int .u64 h, .int .u64 n] 45 #[.int .i64 0, .int .i64 0, .slice none 0 0, .int .i64 0, .string ⟨#[]⟩, .int .i64 0, .int .i64 0, .slice none 0 0, .int .i64 0, .slice none 0 0] 33
 have HXI := Lib.hid hXi
 have HO := Lib.hid (open_sk_any (w := W0) hok ⟨y, s, hy, rfl, hA.go hB0⟩)
 obtain ⟨L2, hL2⟩ : ∃ L2 : Nat, (wkAdd (L, B) (h, n)).1 = L2 := ⟨_, rfl⟩
 obtain ⟨B2, hB2⟩ : ∃ B2 : Bd, (wkAdd (L, B) (h, n)).2 = B2 := ⟨_, rfl⟩
 rw [hL2, hB2] at hok2 ⊢
 have HT : Hid (∀ b g W, BdAt W b B → W.heap[g]? = some (.cells #[.int .u64 h, .int .u64 n] 45 (0, 0)) → GT W → Calls Tryz.prog 47 #[.agg #[b, .int .i64 k, .int .i64 L], .slice (some ⟨g, 0, none⟩) 1 1] W fun e w' => ∃ v', e = .returned (.tuple #[.agg #[v', .int .i64 k, .int .i64 L2], .nilIface]) ∧ BdAt w' v' B2 ∧ Below W.heap.size W w') := by
  rw [← hB2, ← hL2]
  exact fun b g W h hI hg => with_item b B k L _ g n W h hok hI hh hn hg
 have HN : Hid (∀ b W, BdAt W b B2 → Calls Tryz.prog 32 #[.agg #[b, .int .i64 k, .int .i64 L2], .nilIface] W fun e w' => ∃ x, e = .returned (.tuple #[x, .int .i64 0]) ∧ SkB w' x k L2 B2 ∧ Below W.heap.size W w') := fun b W h => told_nil b B2 k L2 W h hok2
 obtain ⟨c0, c1, c2, c3, c4, c5, c6, c7, c8, c9⟩ := cl10 hXp
 have HGT := Lib.hid (hg.go hB0)
 have HXR := Lib.hid hXr
 have HB0 := Lib.hid hB0
 clear hXp hXr hB0 hA hy hok hok2 hL2 hB2 hXi hh hn hg
 go_enter Tryz.func15, Tryz.ntmps15
 go_wp2_with fail
 refine HO.out.mono ?_
 rintro e w1 ⟨b, rfl, hb, hb1⟩
 obtain ⟨T, rv, rfl⟩ := bd_iface hb
 obtain ⟨W2, hW2, hX2, hB2, hs2⟩ := boxes1 w1 #[.iface T rv, .int .i64 k, .int .i64 L] 60
 obtain ⟨d0, d1, d2⟩ := cl3 hX2
 have hI2 := known (hb1.trans (hB2.mono hb1.size)) (Nat.le_refl _) HXI.out
 obtain ⟨i0, i1⟩ := cl2 hI2
 obtain ⟨W3, hW3, hX3, hB3, hs3⟩ := boxes1 W2 #[.int .u64 h, .int .u64 n] 45
 rw [hs2] at hX3
 have HT2 := Lib.hid (HT.out _ _ W3 ((hb.go hB2).go hB3) hX3 ((HGT.out.go hb1).go (hB2.trans (hB3.mono hB2.size))))
 have HX2 := Lib.hid (known hB3 (Nat.le_refl _) hX2)
 have HB2 : Hid (Below w1.heap.size w1 W3) := hB2.trans (hB3.mono hB2.size)
 have HB1 := Lib.hid hb1
 clear hX2 hB2 hb1 hb hI2 hX3 hB3
 go_wp2_with fail
 refine HT2.out.mono ?_
 rintro e w3 ⟨b3, rfl, hv3, hb3⟩
 obtain ⟨T3, rv3, rfl⟩ := bd_iface hv3
 have hX3 := known hb3 (Nat.le_refl _) HX2.out
 obtain ⟨p0, p1, p2⟩ := cl3 hX3
 obtain ⟨g0, g1, g2⟩ := cz3 hX3
 obtain ⟨V, hV, hVX, hVO, hVB⟩ := store3 (.iface T3 rv3) (.int .i64 k) (.int .i64 L2) hX3
 have HN2 := Lib.hid (HN.out _ V (BdAt.set_work hv3 hX3 (by simp) (by simp) (by simp) hVO))
 have hsz := HB1.out.size
 have HB3 : Hid (Below w.heap.size w V) := hVB _ _ (HB0.out.trans ((HB1.out.trans ((HB2.out.trans (hb3.mono HB2.out.size)).mono HB1.out.size)).mono HB0.out.size)) (by omega)
 have HR3 : Hid (V.heap[w.heap.size + 2]? = some (.cells #[.int .i64 0, .int .i64 0, .slice none 0 0, .int .i64 0, .string ⟨#[]⟩, .int .i64 0, .int .i64 0, .slice none 0 0, .int .i64 0, .slice none 0 0] 33 (0, 0))) := by
  refine (hVO.2 _ (by omega)).trans ?_
  exact known (HB1.out.trans ((HB2.out.trans (hb3.mono HB2.out.size)).mono HB1.out.size)) (Nat.le_refl _) HXR.out
 obtain ⟨q0, q1, q2⟩ := cl3 hVX
 clear hX3 hVX hVO hVB hv3 hb3
 go_wp2_with fail
 refine HN2.out.mono ?_
 rintro e w5 ⟨x, rfl, ⟨y5, s5, hy5, rfl, hA5⟩, hb5⟩
 have hR5 := known hb5 (Nat.le_refl _) HR3.out
 obtain ⟨r0, r1, r2, r3, r4, r5, r6, r7, r8, r9⟩ := cl10 hR5
 obtain ⟨f0, f1, f2, f3, f4, f5, f6, f7, f8, f9⟩ := cz10 hR5
 obtain ⟨U, hU, hUX, hUO, hUB⟩ := store10 (.int .i64 y5.kind) (.int .i64 y5.level) (.slice s5.ea s5.el s5.ec) (.int .i64 y5.hb) (.string y5.hr) (.int .i64 y5.cr) (.int .i64 y5.cc) (.slice s5.ca s5.cl s5.cc) (.int .i64 y5.gf) (.slice s5.ga s5.gl s5.gc) hR5
 obtain ⟨k0, k1, k2, k3, k4, k5, k6, k7, k8, k9⟩ := cl10 hUX
 have HS2 : Hid (SkB U (.agg #[.int .i64 y5.kind, .int .i64 y5.level, .slice s5.ea s5.el s5.ec, .int .i64 y5.hb, .string y5.hr, .int .i64 y5.cr, .int .i64 y5.cc, .slice s5.ca s5.cl s5.cc, .int .i64 y5.gf, .slice s5.ga s5.gl s5.gc]) k L2 B2) := SkB.apart ⟨y5, s5, hy5, rfl, hA5⟩ hR5 (fun i u => noU_zero u) hUO
 have HBU : Hid (Below w.heap.size w U) := hUB _ _ (HB3.out.trans (hb5.mono HB3.out.size)) (by omega)
 clear hR5 hUX hUO hUB hy5 hA5 hb5
 go_wp2_with fail
 exact bodyPost_ret (v := .tuple #[.agg #[.int .i64 y5.kind, .int .i64 y5.level, .slice s5.ea s5.el s5.ec, .int .i64 y5.hb, .string y5.hr, .int .i64 y5.cr, .int .i64 y5.cc, .slice s5.ca s5.cl s5.cc, .int .i64 y5.gf, .slice s5.ga s5.gl s5.gc], .int .i64 0]) (by simp [results, Tryz.f15, go_sem, k0, k1, k2, k3, k4, k5, k6, k7, k8, k9]) rfl ⟨_, rfl, HS2.out, HBU.out⟩
end Go.Proofs.YtcbbenncdainfaaGreatDoor
namespace Go.Proofs.YtcbbenncdainfaaGreatDoor
open Go Go.RowKit Go.Shelf
theorem slC_nil {α : Type} {enc : α → List Value} {k n : Nat} {w : World} : SlC enc k n w none 0 0 [] := ⟨⟨rfl, fun j x hx => by simp at hx⟩, Nat.le_refl _, Nat.zero_le _, fun _ => rfl, fun x e => by cases e⟩
set_option maxRecDepth 100000 in
set_option maxHeartbeats 1000000 in
theorem New_1 (w : World) : Calls Tryz.prog 17 #[.int .i64 1] w fun e w' => ∃ x, e = .returned (.tuple #[x, .int .i64 0]) ∧ SkB w' x 1 0 (bdNew 1) ∧ Below w.heap.size w w' := by
 obtain ⟨W0, hW0, hXr, hXx, hB0, hs0⟩ := boxes2 w #[.int .i64 0, .int .i64 0, .slice none 0 0, .int .i64 0, .string ⟨#[]⟩, .int .i64 0, .int .i64 0, .slice none 0 0, .int .i64 0, .slice none 0 0] 33 #[.int .i64 1, .int .i64 0, .slice none 0 0, .int .i64 0, .string ⟨#[]⟩, .int .i64 0, .int .i64 0, .slice none 0 0, .int .i64 0, .slice none 0 0] 33
 obtain ⟨c0, c1, c2, c3, c4, c5, c6, c7, c8, c9⟩ := cl10 hXx
 obtain ⟨f0, f1, f2, f3, f4, f5, f6, f7, f8, f9⟩ := cz10 hXx
 have e1 : W0.setCell ⟨w.heap.size + 1, 1, none⟩ (.int .i64 0) = W0 := set_same hXx rfl
 have e2 : W0.setCell ⟨w.heap.size + 1, 2, none⟩ (.slice none 0 0) = W0 := set_same hXx rfl
 have e3 : W0.setCell ⟨w.heap.size + 1, 3, none⟩ (.int .i64 0) = W0 := set_same hXx rfl
 have e4 : W0.setCell ⟨w.heap.size + 1, 4, none⟩ (.string ⟨#[]⟩) = W0 := set_same hXx rfl
 have e5 : W0.setCell ⟨w.heap.size + 1, 5, none⟩ (.int .i64 0) = W0 := set_same hXx rfl
 have e6 : W0.setCell ⟨w.heap.size + 1, 6, none⟩ (.int .i64 0) = W0 := set_same hXx rfl
 have e7 : W0.setCell ⟨w.heap.size + 1, 7, none⟩ (.slice none 0 0) = W0 := set_same hXx rfl
 have e8 : W0.setCell ⟨w.heap.size + 1, 8, none⟩ (.int .i64 0) = W0 := set_same hXx rfl
 have e9 : W0.setCell ⟨w.heap.size + 1, 9, none⟩ (.slice none 0 0) = W0 := set_same hXx rfl
 obtain ⟨r0, r1, r2, r3, r4, r5, r6, r7, r8, r9⟩ := cl10 hXr
 obtain ⟨g0, g1, g2, g3, g4, g5, g6, g7, g8, g9⟩ := cz10 hXr
 obtain ⟨V, hV, hVX, hVO, hVB⟩ := store10 (.int .i64 1) (.int .i64 0) (.slice none 0 0) (.int .i64 0) (.string ⟨#[]⟩) (.int .i64 0) (.int .i64 0) (.slice none 0 0) (.int .i64 0) (.slice none 0 0) hXr
 obtain ⟨k0, k1, k2, k3, k4, k5, k6, k7, k8, k9⟩ := cl10 hVX
 have HBV : Hid (Below w.heap.size w V) := hVB _ _ hB0 (Nat.le_refl _)
 clear hXr hXx hVX hVO hVB hB0
 go_enter Tryz.func17, Tryz.ntmps17
 go_wp2_with fail
 exact bodyPost_ret (v := .tuple #[.agg #[.int .i64 1, .int .i64 0, .slice none 0 0, .int .i64 0, .string ⟨#[]⟩, .int .i64 0, .int .i64 0, .slice none 0 0, .int .i64 0, .slice none 0 0], .int .i64 0]) (by simp [results, Tryz.f17, go_sem, k0, k1, k2, k3, k4, k5, k6, k7, k8, k9]) rfl ⟨_, rfl, ⟨_, ⟨none, 0, 0, none, 0, 0, none, 0, 0⟩, rfl, rfl, slC_nil, slC_nil, slC_nil⟩, HBV.out⟩
set_option maxRecDepth 100000 in
set_option maxHeartbeats 1000000 in
theorem New_3 (w : World) : Calls Tryz.prog 17 #[.int .i64 3] w fun e w' => ∃ x, e = .returned (.tuple #[x, .int .i64 0]) ∧ SkB w' x 3 0 (bdNew 3) ∧ Below w.heap.size w w' := by
 obtain ⟨W0, hW0, hXr, hXx, hB0, hs0⟩ := boxes2 w #[.int .i64 0, .int .i64 0, .slice none 0 0, .int .i64 0, .string ⟨#[]⟩, .int .i64 0, .int .i64 0, .slice none 0 0, .int .i64 0, .slice none 0 0] 33 #[.int .i64 3, .int .i64 0, .slice none 0 0, .int .i64 0, .string ⟨#[]⟩, .int .i64 0, .int .i64 0, .slice none 0 0, .int .i64 0, .slice none 0 0] 33
 obtain ⟨c0, c1, c2, c3, c4, c5, c6, c7, c8, c9⟩ := cl10 hXx
 obtain ⟨f0, f1, f2, f3, f4, f5, f6, f7, f8, f9⟩ := cz10 hXx
 have e1 : W0.setCell ⟨w.heap.size + 1, 1, none⟩ (.int .i64 0) = W0 := set_same hXx rfl
 have e2 : W0.setCell ⟨w.heap.size + 1, 2, none⟩ (.slice none 0 0) = W0 := set_same hXx rfl
 have e3 : W0.setCell ⟨w.heap.size + 1, 3, none⟩ (.int .i64 0) = W0 := set_same hXx rfl
 have e4 : W0.setCell ⟨w.heap.size + 1, 4, none⟩ (.string ⟨#[]⟩) = W0 := set_same hXx rfl
 have e5 : W0.setCell ⟨w.heap.size + 1, 5, none⟩ (.int .i64 0) = W0 := set_same hXx rfl
 have e6 : W0.setCell ⟨w.heap.size + 1, 6, none⟩ (.int .i64 0) = W0 := set_same hXx rfl
 have e7 : W0.setCell ⟨w.heap.size + 1, 7, none⟩ (.slice none 0 0) = W0 := set_same hXx rfl
 have e8 : W0.setCell ⟨w.heap.size + 1, 8, none⟩ (.int .i64 0) = W0 := set_same hXx rfl
 have e9 : W0.setCell ⟨w.heap.size + 1, 9, none⟩ (.slice none 0 0) = W0 := set_same hXx rfl
 obtain ⟨W1, hW1⟩ : ∃ W1, W0.setCell ⟨w.heap.size + 1, 8, none⟩ (.int .i64 3) = W1 := ⟨_, rfl⟩
 have hX1 : W1.heap[w.heap.size + 1]? = some (.cells #[.int .i64 3, .int .i64 0, .slice none 0 0, .int .i64 0, .string ⟨#[]⟩, .int .i64 0, .int .i64 0, .slice none 0 0, .int .i64 3, .slice none 0 0] 33 (0, 0)) := by rw [← hW1]; exact hSk hXx (.int .i64 3)
 replace hXr : W1.heap[w.heap.size]? = some (.cells #[.int .i64 0, .int .i64 0, .slice none 0 0, .int .i64 0, .string ⟨#[]⟩, .int .i64 0, .int .i64 0, .slice none 0 0, .int .i64 0, .slice none 0 0] 33 (0, 0)) := by rw [← hW1]; exact (heap_set_other (p := ⟨w.heap.size + 1, 8, none⟩) (by show w.heap.size + 1 ≠ w.heap.size; omega) _).trans hXr
 have hB1 : Below w.heap.size w W1 := by rw [← hW1]; exact hB0.setCell (p := ⟨w.heap.size + 1, 8, none⟩) (Nat.le_succ _) _
 obtain ⟨x0, x1, x2, x3, x4, x5, x6, x7, x8, x9⟩ := cl10 hX1
 obtain ⟨r0, r1, r2, r3, r4, r5, r6, r7, r8, r9⟩ := cl10 hXr
 obtain ⟨g0, g1, g2, g3, g4, g5, g6, g7, g8, g9⟩ := cz10 hXr
 obtain ⟨V, hV, hVX, hVO, hVB⟩ := store10 (.int .i64 3) (.int .i64 0) (.slice none 0 0) (.int .i64 0) (.string ⟨#[]⟩) (.int .i64 0) (.int .i64 0) (.slice none 0 0) (.int .i64 3) (.slice none 0 0) hXr
 obtain ⟨k0, k1, k2, k3, k4, k5, k6, k7, k8, k9⟩ := cl10 hVX
 have HBV : Hid (Below w.heap.size w V) := hVB _ _ hB1 (Nat.le_refl _)
 clear hXr hXx hX1 hVX hVO hVB hB0 hB1
 go_enter Tryz.func17, Tryz.ntmps17
 go_wp2_with fail
 exact bodyPost_ret (v := .tuple #[.agg #[.int .i64 3, .int .i64 0, .slice none 0 0, .int .i64 0, .string ⟨#[]⟩, .int .i64 0, .int .i64 0, .slice none 0 0, .int .i64 3, .slice none 0 0], .int .i64 0]) (by simp [results, Tryz.f17, go_sem, k0, k1, k2, k3, k4, k5, k6, k7, k8, k9]) rfl ⟨_, rfl, ⟨_, ⟨none, 0, 0, none, 0, 0, none, 0, 0⟩, rfl, rfl, slC_nil, slC_nil, slC_nil⟩, HBV.out⟩
theorem noU_zero2 {i : Nat} (u : Int) : (#[.int .i64 2, .int .i64 0, .slice none 0 0, .int .i64 0, .string ⟨#[]⟩, .int .i64 0, .int .i64 0, .slice none 0 0, .int .i64 0, .slice none 0 0] : Array Value)[i]? ≠ some (.int .u64 u) := by
 intro h
 rcases i with _ | _ | _ | _ | _ | _ | _ | _ | _ | _ | i <;> simp at h
set_option maxRecDepth 100000 in
set_option maxHeartbeats 1000000 in
theorem New_2 (w : World) : Calls Tryz.prog 17 #[.int .i64 2] w fun e w' => ∃ x, e = .returned (.tuple #[x, .int .i64 0]) ∧ SkB w' x 2 0 (bdNew 2) ∧ Below w.heap.size w w' := by
 obtain ⟨W0, hW0, hXr, hXx, hB0, hs0⟩ := boxes2 w #[.int .i64 0, .int .i64 0, .slice none 0 0, .int .i64 0, .string ⟨#[]⟩, .int .i64 0, .int .i64 0, .slice none 0 0, .int .i64 0, .slice none 0 0] 33 #[.int .i64 2, .int .i64 0, .slice none 0 0, .int .i64 0, .string ⟨#[]⟩, .int .i64 0, .int .i64 0, .slice none 0 0, .int .i64 0, .slice none 0 0] 33
 obtain ⟨c0, c1, c2, c3, c4, c5, c6, c7, c8, c9⟩ := cl10 hXx
 obtain ⟨f0, f1, f2, f3, f4, f5, f6, f7, f8, f9⟩ := cz10 hXx
 have e1 : W0.setCell ⟨w.heap.size + 1, 1, none⟩ (.int .i64 0) = W0 := set_same hXx rfl
 have e2 : W0.setCell ⟨w.heap.size + 1, 2, none⟩ (.slice none 0 0) = W0 := set_same hXx rfl
 have e3 : W0.setCell ⟨w.heap.size + 1, 3, none⟩ (.int .i64 0) = W0 := set_same hXx rfl
 have e4 : W0.setCell ⟨w.heap.size + 1, 4, none⟩ (.string ⟨#[]⟩) = W0 := set_same hXx rfl
 have e5 : W0.setCell ⟨w.heap.size + 1, 5, none⟩ (.int .i64 0) = W0 := set_same hXx rfl
 have e6 : W0.setCell ⟨w.heap.size + 1, 6, none⟩ (.int .i64 0) = W0 := set_same hXx rfl
 have e7 : W0.setCell ⟨w.heap.size + 1, 7, none⟩ (.slice none 0 0) = W0 := set_same hXx rfl
 have e8 : W0.setCell ⟨w.heap.size + 1, 8, none⟩ (.int .i64 0) = W0 := set_same hXx rfl
 have e9 : W0.setCell ⟨w.heap.size + 1, 9, none⟩ (.slice none 0 0) = W0 := set_same hXx rfl
 have HC := Lib.hid (cNew_any W0)
 have HXr := Lib.hid hXr
 have HXx := Lib.hid hXx
 have HB0 := Lib.hid hB0
 clear hXr hXx hB0
 go_enter Tryz.func17, Tryz.ntmps17
 go_wp2_with fail
 refine HC.out.mono ?_
 rintro e w1 ⟨g, rfl, hN, hg, hb1⟩
 have hXx := known hb1 (Nat.le_refl _) HXx.out
 have hXr := known hb1 (Nat.le_refl _) HXr.out
 obtain ⟨x0, x1, x2, x3, x4, x5, x6, x7, x8, x9⟩ := cl10 hXx
 obtain ⟨y0, y1, y2, y3, y4, y5, y6, y7, y8, y9⟩ := cz10 hXx
 obtain ⟨W1, hW1⟩ : ∃ W1, ((w1.setCell ⟨w.heap.size + 1, 5, none⟩ (.int .i64 2)).setCell ⟨w.heap.size + 1, 6, none⟩ (.int .i64 32)).setCell ⟨w.heap.size + 1, 7, none⟩ (.slice (some ⟨g, 0, none⟩) 64 64) = W1 := ⟨_, rfl⟩
 have hX1 : W1.heap[w.heap.size + 1]? = some (.cells #[.int .i64 2, .int .i64 0, .slice none 0 0, .int .i64 0, .string ⟨#[]⟩, .int .i64 2, .int .i64 32, .slice (some ⟨g, 0, none⟩) 64 64, .int .i64 0, .slice none 0 0] 33 (0, 0)) := by rw [← hW1]; exact hSk (hSk (hSk hXx (.int .i64 2)) (.int .i64 32)) (.slice (some ⟨g, 0, none⟩) 64 64)
 have hO1 : OnlyAt (w.heap.size + 1) w1 W1 := by rw [← hW1]; exact (((OnlyAt.refl _ _).set _ _).set _ _).set _ _
 have hB1 : Below w.heap.size w W1 := by rw [← hW1]; exact (((HB0.out.trans (hb1.mono HB0.out.size)).setCell (p := ⟨w.heap.size + 1, 5, none⟩) (Nat.le_succ _) _).setCell (p := ⟨w.heap.size + 1, 6, none⟩) (Nat.le_succ _) _).setCell (p := ⟨w.heap.size + 1, 7, none⟩) (Nat.le_succ _) _
 replace hXr := (hO1.2 w.heap.size (by omega)).trans hXr
 have hS : SlC encU 1 w1.heap.size w1 (some ⟨g, 0, none⟩) 64 64 (List.replicate 64 0) := nums_slC hN (by simp) (by unfold maxLen; omega)
 replace hS : SlC encU 1 W1.heap.size W1 (some ⟨g, 0, none⟩) 64 64 (List.replicate 64 0) := slC_apart (i0 := 0) (by decide) (fun x => ⟨x, rfl⟩) hXx (fun i u => noU_zero2 u) hO1 hS
 obtain ⟨z0, z1, z2, z3, z4, z5, z6, z7, z8, z9⟩ := cl10 hX1
 obtain ⟨r0, r1, r2, r3, r4, r5, r6, r7, r8, r9⟩ := cl10 hXr
 obtain ⟨g0, g1, g2, g3, g4, g5, g6, g7, g8, g9⟩ := cz10 hXr
 obtain ⟨V, hV, hVX, hVO, hVB⟩ := store10 (.int .i64 2) (.int .i64 0) (.slice none 0 0) (.int .i64 0) (.string ⟨#[]⟩) (.int .i64 2) (.int .i64 32) (.slice (some ⟨g, 0, none⟩) 64 64) (.int .i64 0) (.slice none 0 0) hXr
 obtain ⟨k0, k1, k2, k3, k4, k5, k6, k7, k8, k9⟩ := cl10 hVX
 have HBV : Hid (Below w.heap.size w V) := hVB _ _ hB1 (Nat.le_refl _)
 have HSV : Hid (SlC encU 1 V.heap.size V (some ⟨g, 0, none⟩) 64 64 (List.replicate 64 0)) := slC_apart (i0 := 0) (by decide) (fun x => ⟨x, rfl⟩) hXr (fun i u => noU_zero u) hVO hS
 clear hN hg hXr hXx hX1 hVX hVO hVB hB1 hO1 hS hb1
 go_wp2_with fail
 exact bodyPost_ret (v := .tuple #[.agg #[.int .i64 2, .int .i64 0, .slice none 0 0, .int .i64 0, .string ⟨#[]⟩, .int .i64 2, .int .i64 32, .slice (some ⟨g, 0, none⟩) 64 64, .int .i64 0, .slice none 0 0], .int .i64 0]) (by simp [results, Tryz.f17, go_sem, k0, k1, k2, k3, k4, k5, k6, k7, k8, k9]) rfl ⟨_, rfl, ⟨_, ⟨none, 0, 0, some ⟨g, 0, none⟩, 64, 64, none, 0, 0⟩, rfl, rfl, slC_nil, HSV.out, slC_nil⟩, HBV.out⟩
set_option maxRecDepth 100000 in
set_option maxHeartbeats 1000000 in
theorem New_no (n : Int) (h1 : (n == 1) = false) (h2 : (n == 2) = false) (h3 : (n == 3) = false) (w : World) : Calls Tryz.prog 17 #[.int .i64 n] w fun e w' => e = .returned (.tuple #[.agg #[.int .i64 0, .int .i64 0, .slice none 0 0, .int .i64 0, .string ⟨#[]⟩, .int .i64 0, .int .i64 0, .slice none 0 0, .int .i64 0, .slice none 0 0], .int .i64 101]) ∧ Below w.heap.size w w' := by
 obtain ⟨W0, hW0, hXr, hXx, hB0, hs0⟩ := boxes2 w #[.int .i64 0, .int .i64 0, .slice none 0 0, .int .i64 0, .string ⟨#[]⟩, .int .i64 0, .int .i64 0, .slice none 0 0, .int .i64 0, .slice none 0 0] 33 #[.int .i64 n, .int .i64 0, .slice none 0 0, .int .i64 0, .string ⟨#[]⟩, .int .i64 0, .int .i64 0, .slice none 0 0, .int .i64 0, .slice none 0 0] 33
 obtain ⟨c0, c1, c2, c3, c4, c5, c6, c7, c8, c9⟩ := cl10 hXx
 obtain ⟨f0, f1, f2, f3, f4, f5, f6, f7, f8, f9⟩ := cz10 hXx
 have e1 : W0.setCell ⟨w.heap.size + 1, 1, none⟩ (.int .i64 0) = W0 := set_same hXx rfl
 have e2 : W0.setCell ⟨w.heap.size + 1, 2, none⟩ (.slice none 0 0) = W0 := set_same hXx rfl
 have e3 : W0.setCell ⟨w.heap.size + 1, 3, none⟩ (.int .i64 0) = W0 := set_same hXx rfl
 have e4 : W0.setCell ⟨w.heap.size + 1, 4, none⟩ (.string ⟨#[]⟩) = W0 := set_same hXx rfl
 have e5 : W0.setCell ⟨w.heap.size + 1, 5, none⟩ (.int .i64 0) = W0 := set_same hXx rfl
 have e6 : W0.setCell ⟨w.heap.size + 1, 6, none⟩ (.int .i64 0) = W0 := set_same hXx rfl
 have e7 : W0.setCell ⟨w.heap.size + 1, 7, none⟩ (.slice none 0 0) = W0 := set_same hXx rfl
 have e8 : W0.setCell ⟨w.heap.size + 1, 8, none⟩ (.int .i64 0) = W0 := set_same hXx rfl
 have e9 : W0.setCell ⟨w.heap.size + 1, 9, none⟩ (.slice none 0 0) = W0 := set_same hXx rfl
 obtain ⟨r0, r1, r2, r3, r4, r5, r6, r7, r8, r9⟩ := cl10 hXr
 obtain ⟨g0, g1, g2, g3, g4, g5, g6, g7, g8, g9⟩ := cz10 hXr
 have d0 : W0.setCell ⟨w.heap.size, 0, none⟩ (.int .i64 0) = W0 := set_same hXr rfl
 have d1 : W0.setCell ⟨w.heap.size, 1, none⟩ (.int .i64 0) = W0 := set_same hXr rfl
 have d2 : W0.setCell ⟨w.heap.size, 2, none⟩ (.slice none 0 0) = W0 := set_same hXr rfl
 have d3 : W0.setCell ⟨w.heap.size, 3, none⟩ (.int .i64 0) = W0 := set_same hXr rfl
 have d4 : W0.setCell ⟨w.heap.size, 4, none⟩ (.string ⟨#[]⟩) = W0 := set_same hXr rfl
 have d5 : W0.setCell ⟨w.heap.size, 5, none⟩ (.int .i64 0) = W0 := set_same hXr rfl
 have d6 : W0.setCell ⟨w.heap.size, 6, none⟩ (.int .i64 0) = W0 := set_same hXr rfl
 have d7 : W0.setCell ⟨w.heap.size, 7, none⟩ (.slice none 0 0) = W0 := set_same hXr rfl
 have d8 : W0.setCell ⟨w.heap.size, 8, none⟩ (.int .i64 0) = W0 := set_same hXr rfl
 have d9 : W0.setCell ⟨w.heap.size, 9, none⟩ (.slice none 0 0) = W0 := set_same hXr rfl
 have HBV := Lib.hid hB0
 clear hXr hXx hB0
 go_enter Tryz.func17, Tryz.ntmps17
 go_wp2_with fail
 exact bodyPost_ret (v := .tuple #[.agg #[.int .i64 0, .int .i64 0, .slice none 0 0, .int .i64 0, .string ⟨#[]⟩, .int .i64 0, .int .i64 0, .slice none 0 0, .int .i64 0, .slice none 0 0], .int .i64 101]) (by simp [results, Tryz.f17, go_sem, r0, r1, r2, r3, r4, r5, r6, r7, r8, r9]) rfl ⟨rfl, HBV.out⟩
end Go.Proofs.YtcbbenncdainfaaGreatDoor
namespace Go.Proofs.YtcbbenncdainfaaGreatDoor
open Go Go.RowKit Go.Shelf
def bdCost : Bd → Nat
 | .num l => 8 * l.length
 | .reg _ r => r.length
 | .cnt _ l => 8 * l.length
 | .bkt _ l => 16 * l.length
theorem costOf_sk {B : Bd} {k L : Nat} (h : B.Ok k L) : costOf (skOf k L B) = (bdCost B : Int) + 16 := by
 unfold costOf
 rw [skOf_ok h, if_pos rfl]
 cases B with
 | num l =>
  obtain ⟨rfl, rfl, -⟩ := h
  show 8 * (l.length : Int) + 16 = ((8 * l.length : Nat) : Int) + 16
  omega
 | reg b r =>
  obtain ⟨rfl, h1, -⟩ := h
  have h0 : (((L : Nat) : Int) == 0) = false := by simp; omega
  show (if ((1 : Nat) : Int) == 1 then if (L : Int) == 0 then _ else ((hlStr r).size : Int) else _) + 16 = (r.length : Int) + 16
  rw [h0, hlStr_size]
  rfl
 | cnt c l =>
  obtain ⟨rfl, -⟩ := h
  show 8 * (l.length : Int) + 16 = ((8 * l.length : Nat) : Int) + 16
  omega
 | bkt f l =>
  obtain ⟨rfl, -⟩ := h
  show 16 * (l.length : Int) + 16 = ((16 * l.length : Nat) : Int) + 16
  omega
theorem sk_hr {B : Bd} {k L : Nat} (h : B.Ok k L) : (skOf k L B).hr.size < 2147483648 := by
 cases B with
 | num l => show 0 < _; omega
 | reg b r =>
  obtain ⟨-, h1, -, h3, h4, -⟩ := h
  show (hlStr r).size < _
  have : 2 ^ b ≤ 2 ^ 8 := Nat.pow_le_pow_right (by omega) (by omega)
  rw [hlStr_size]
  omega
 | cnt c l => show 0 < _; omega
 | bkt f l => show 0 < _; omega
theorem Cost_sk {B : Bd} {k L : Nat} {v : Value} {w : World} (h : B.Ok k L) (hv : SkB w v k L B) : Calls Tryz.prog 23 #[v] w fun e w' => e = .returned (.int .i64 ((bdCost B : Int) + 16)) ∧ Below w.heap.size w w' := by
 obtain ⟨y, s, rfl, rfl, hA⟩ := hv
 have h1 := ladder_Cost_any (skOf k L B) s w hA (at_short h hA) (skOf_fit h) (sk_hr h)
 rw [costOf_sk h] at h1
 exact h1
end Go.Proofs.YtcbbenncdainfaaGreatDoor
namespace Go.Proofs.YtcbbenncdainfaaGreatDoor
open Go Go.RowKit Go.Shelf
def encIt (i : Nat × Int) : List Value := [.int .u64 i.1, .int .u64 i.2]
theorem New_any (k : Nat) (hk : k = 1 ∨ k = 2 ∨ k = 3) (w : World) : Calls Tryz.prog 17 #[.int .i64 k] w fun e w' => ∃ x, e = .returned (.tuple #[x, .int .i64 0]) ∧ SkB w' x k 0 (bdNew k) ∧ Below w.heap.size w w' := by
 rcases hk with rfl | rfl | rfl
 ·exact New_1 w
 ·exact New_2 w
 ·exact New_3 w
end Go.Proofs.YtcbbenncdainfaaGreatDoor
namespace Go.Proofs.YtcbbenncdainfaaGreatDoor
open Go Go.ChangeShapes Go.WideShapes Go.ChangeAt Go.RowKit Go.Lib Go.Deep Go.Shelf
section
variable {H : Type} {enc : TypeId × Value → H} {w : World} {base : Nat} {held : Bool}
set_option maxRecDepth 100000 in
theorem item_elem (n : Nat) (cs : List Value) (x : DataW H × List MemPlace) (h : DataW.trod enc Tryz.prog w base (fun _ => true) held n 45 cs = some x) : ∃ y : Nat × Int, cs = encIt y ∧ Item.ok y := by
 obtain ⟨hl, m, hf⟩ := struct_cells Tryz.underlying45 (by kernel_rfl) (by kernel_rfl) h
 obtain ⟨v0, y0, e0, h0⟩ := hf 0 _ rfl
 obtain ⟨v1, y1, e1, h1⟩ := hf 1 _ rfl
 obtain ⟨s0, c0, -, w0⟩ := DataW.trod_int undU64 h0
 obtain ⟨s1, c1, -, w1⟩ := DataW.trod_int undU64 h1
 match cs, hl with
 | [a, b], _ =>
  simp only [List.getElem?_cons_zero, List.getElem?_cons_succ, Option.some.injEq, List.cons.injEq, and_true] at e0 e1 c0 c1
  obtain ⟨p1, p2⟩ := wf_u64 w0
  refine ⟨(s0.toNat, s1), ?_, ?_, wf_u64 w1⟩
  ·rw [e0, e1, c0, c1]
   show _ = [Value.int .u64 ((s0.toNat : Nat) : Int), .int .u64 s1]
   rw [Int.toNat_of_nonneg p1]
  ·show s0.toNat < 2 ^ 64
   omega
set_option maxRecDepth 100000 in
theorem open_item {r : Reach} {b0 : Nat} {v : Value} {d : DataW H} {p : List MemPlace} (hv : Value.okWide Tryz.prog w r b0 45 v) (h : DataW.Trod enc Tryz.prog w base (fun _ => true) held 45 v d p) :
  ∃ i : Nat × Int, v = .agg #[.int .u64 i.1, .int .u64 i.2] ∧ Item.ok i := by
 obtain ⟨cs, rfl, -⟩ := okWide_struct Tryz.underlying45 hv
 obtain ⟨fuel, hf⟩ := h
 obtain ⟨i, h1, h2⟩ := item_elem _ _ _ hf
 refine ⟨i, ?_, h2⟩
 have h1' : cs.toList = encIt i := h1
 rw [← Array.toArray_toList (xs := cs), h1']; rfl
end
end Go.Proofs.YtcbbenncdainfaaGreatDoor
namespace Go.Proofs.YtcbbenncdainfaaGreatDoor
open Go Go.ChangeShapes Go.WideShapes Go.ChangeAt Go.RowKit Go.Lib Go.Deep Go.Shelf
section
variable {H : Type} {enc : TypeId × Value → H} {w : World} {base : Nat} {held : Bool}
set_option maxRecDepth 100000 in
theorem sk_elem_cc (n : Nat) (cs : List Value) (x : DataW H × List MemPlace) (h : DataW.trod enc Tryz.prog w base (fun _ => true) held n 33 cs = some x) : ∃ (y : Sk) (s : SS), cs = [.int .i64 y.kind, .int .i64 y.level, .slice s.ea s.el s.ec, .int .i64 y.hb, .string y.hr, .int .i64 y.cr, .int .i64 y.cc, .slice s.ca s.cl s.cc, .int .i64 y.gf, .slice s.ga s.gl s.gc] ∧ s.At w.heap.size w y ∧ y.arg ∧ I64 y.cc := by
 obtain ⟨hl, m, hf⟩ := fields_of Tryz.underlying33 h
 replace hl : cs.length = 10 := hl.trans (by kernel_rfl)
 obtain ⟨y0, h0⟩ := hf 0 _ rfl
 obtain ⟨y1, h1⟩ := hf 1 _ rfl
 obtain ⟨y2, h2⟩ := hf 2 _ rfl
 obtain ⟨y3, h3⟩ := hf 3 _ rfl
 obtain ⟨y4, h4⟩ := hf 4 _ rfl
 obtain ⟨y5, h5⟩ := hf 5 _ rfl
 match cs, hl with
 | [v1, v2, v3, v4, v5, v6, v7, v8, v9, v10], _ =>
  change DataW.trod enc Tryz.prog w base _ held m 3 (([v1, v2, v3, v4, v5, v6, v7, v8, v9, v10].drop 0).take (Tryz.prog.cellsOf 3)) = some y0 at h0
  change DataW.trod enc Tryz.prog w base _ held m 3 (([v1, v2, v3, v4, v5, v6, v7, v8, v9, v10].drop 1).take (Tryz.prog.cellsOf 3)) = some y1 at h1
  change DataW.trod enc Tryz.prog w base _ held m 24 (([v1, v2, v3, v4, v5, v6, v7, v8, v9, v10].drop 2).take (Tryz.prog.cellsOf 24)) = some y2 at h2
  change DataW.trod enc Tryz.prog w base _ held m 26 (([v1, v2, v3, v4, v5, v6, v7, v8, v9, v10].drop 3).take (Tryz.prog.cellsOf 26)) = some y3 at h3
  change DataW.trod enc Tryz.prog w base _ held m 28 (([v1, v2, v3, v4, v5, v6, v7, v8, v9, v10].drop 5).take (Tryz.prog.cellsOf 28)) = some y4 at h4
  change DataW.trod enc Tryz.prog w base _ held m 31 (([v1, v2, v3, v4, v5, v6, v7, v8, v9, v10].drop 8).take (Tryz.prog.cellsOf 31)) = some y5 at h5
  rw [show Tryz.prog.cellsOf 3 = 1 by kernel_rfl] at h0 h1
  rw [show Tryz.prog.cellsOf 24 = 1 by kernel_rfl] at h2
  rw [show Tryz.prog.cellsOf 26 = 2 by kernel_rfl] at h3
  rw [show Tryz.prog.cellsOf 28 = 3 by kernel_rfl] at h4
  rw [show Tryz.prog.cellsOf 31 = 2 by kernel_rfl] at h5
  simp only [List.drop_zero, List.drop_succ_cons, List.take_succ_cons, List.take_zero] at h0 h1 h2 h3 h4 h5
  obtain ⟨s0, c0, -, -⟩ := DataW.trod_int undInt h0
  obtain ⟨s1, c1, -, -⟩ := DataW.trod_int undInt h1
  obtain ⟨-, m2, f2⟩ := struct_cells Tryz.underlying24 (by kernel_rfl) (by kernel_rfl) h2
  obtain ⟨-, m3, f3⟩ := struct_cells Tryz.underlying26 (by kernel_rfl) (by kernel_rfl) h3
  obtain ⟨-, m4, f4⟩ := struct_cells Tryz.underlying28 (by kernel_rfl) (by kernel_rfl) h4
  obtain ⟨-, m5, f5⟩ := struct_cells Tryz.underlying31 (by kernel_rfl) (by kernel_rfl) h5
  obtain ⟨u2, z2, e2, g2⟩ := f2 0 _ rfl
  obtain ⟨u3, z3, e3, g3⟩ := f3 0 _ rfl
  obtain ⟨u4, z4, e4, g4⟩ := f3 1 _ rfl
  obtain ⟨u5, z5, e5, g5⟩ := f4 0 _ rfl
  obtain ⟨u6, z6, e6, g6⟩ := f4 1 _ rfl
  obtain ⟨u7, z7, e7, g7⟩ := f4 2 _ rfl
  obtain ⟨u8, z8, e8, g8⟩ := f5 0 _ rfl
  obtain ⟨u9, z9, e9, g9⟩ := f5 1 _ rfl
  obtain ⟨ea, el, ec, le, k2, S2, U2⟩ := slC_open (k := 1) (encA := encU) (by omega) Tryz.underlying22 (by kernel_rfl) u64_elem g2
  obtain ⟨s3, c3, -, -⟩ := DataW.trod_int undInt g3
  obtain ⟨s4, c4, -, -⟩ := DataW.trod_string undStr g4
  obtain ⟨s5, c5, -, -⟩ := DataW.trod_int undInt g5
  obtain ⟨s6, c6, -, w6⟩ := DataW.trod_int undInt g6
  obtain ⟨ca, cl, cc, lc, k7, S7, U7⟩ := slC_open (k := 1) (encA := encU) (by omega) Tryz.underlying22 (by kernel_rfl) u64_elem g7
  obtain ⟨s8, c8, -, -⟩ := DataW.trod_int undInt g8
  obtain ⟨ga, gl, gc, lg, k9, S9, U9⟩ := slC_open (k := 2) (encA := encB) (by omega) Tryz.underlying29 (by kernel_rfl) bin_elem g9
  simp only [List.getElem?_cons_zero, List.getElem?_cons_succ, Option.some.injEq, List.cons.injEq, and_true] at e2 e3 e4 e5 e6 e7 e8 e9 c0 c1 c3 c4 c5 c6 c8
  refine ⟨⟨s0, s1, le, s3, s4, s5, s6, lc, s8, lg⟩, ⟨ea, el, ec, ca, cl, cc, ga, gl, gc⟩, ?_, ⟨S2, S7, S9⟩, ⟨U2, U7, U9⟩, wf_i64 w6⟩
  rw [c0, c1, e2, k2, e3, c3, e4, c4, e5, c5, e6, c6, e7, k7, e8, c8, e9, k9]
set_option maxRecDepth 100000 in
theorem open_sk_cc {r : Reach} {b0 : Nat} {v : Value} {d : DataW H} {p : List MemPlace} (hv : Value.okWide Tryz.prog w r b0 33 v) (h : DataW.Trod enc Tryz.prog w base (fun _ => true) held 33 v d p) :
  ∃ (x : Sk) (s : SS), v = .agg #[.int .i64 x.kind, .int .i64 x.level, .slice s.ea s.el s.ec, .int .i64 x.hb, .string x.hr, .int .i64 x.cr, .int .i64 x.cc, .slice s.ca s.cl s.cc, .int .i64 x.gf, .slice s.ga s.gl s.gc] ∧ s.At w.heap.size w x ∧ x.arg ∧ I64 x.cc := by
 obtain ⟨cs, rfl, -⟩ := okWide_struct Tryz.underlying33 hv
 obtain ⟨fuel, hf⟩ := h
 obtain ⟨x, s, h1, h2, h3⟩ := sk_elem_cc _ _ _ hf
 refine ⟨x, s, ?_, h2, h3⟩
 have h1' : cs.toList = [.int .i64 x.kind, .int .i64 x.level, .slice s.ea s.el s.ec, .int .i64 x.hb, .string x.hr, .int .i64 x.cr, .int .i64 x.cc, .slice s.ca s.cl s.cc, .int .i64 x.gf, .slice s.ga s.gl s.gc] := h1
 rw [← Array.toArray_toList (xs := cs), h1']
end
end Go.Proofs.YtcbbenncdainfaaGreatDoor

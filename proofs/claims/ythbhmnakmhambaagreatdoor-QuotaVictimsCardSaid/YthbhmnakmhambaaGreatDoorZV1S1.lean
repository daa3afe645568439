/- Package ladder: told, Lower, To: the lists of what is told lie in new memory. Printed by gen_lr.py. quota.isBudget; a notice is told. quota.Fit. What SeriesOrders and SeriesOwn have in common: boxes of series that are stored into; Put as a function. -/
import Derived.Test.YthbhmnakmhambaaGreatDoorZQB
namespace Go.Proofs.YthbhmnakmhambaaGreatDoor
open Go Go.RowKit Go.Shelf
def SS.From (s : SS) (n : Nat) : Prop := (∀ z, s.ea = some z → n ≤ z.block) ∧ (∀ z, s.ca = some z → n ≤ z.block) ∧ (∀ z, s.ga = some z → n ≤ z.block)
theorem SS.From.mono {s : SS} {n m : Nat} (h : s.From m) (hn : n ≤ m) : s.From n := ⟨fun z hz => Nat.le_trans hn (h.1 z hz), fun z hz => Nat.le_trans hn (h.2.1 z hz), fun z hz => Nat.le_trans hn (h.2.2 z hz)⟩
def SkN (n : Nat) (W : World) (v : Value) (k L : Nat) (B : Bd) : Prop := ∃ (y : Sk) (s : SS), y = skOf k L B ∧ v = .agg #[.int .i64 y.kind, .int .i64 y.level, .slice s.ea s.el s.ec, .int .i64 y.hb, .string y.hr, .int .i64 y.cr, .int .i64 y.cc, .slice s.ca s.cl s.cc, .int .i64 y.gf, .slice s.ga s.gl s.gc] ∧ s.At W.heap.size W y ∧ s.From n
theorem SkN.mono {n m : Nat} {W : World} {v : Value} {k L : Nat} {B : Bd} (h : SkN m W v k L B) (hn : n ≤ m) : SkN n W v k L B := by
 obtain ⟨y, s, h0, h1, h2, h3⟩ := h
 exact ⟨y, s, h0, h1, h2, h3.mono hn⟩
theorem SkN.go {n : Nat} {W W' : World} {v : Value} {k L : Nat} {B : Bd} (h : SkN n W v k L B) (hb : Below W.heap.size W W') : SkN n W' v k L B := by
 obtain ⟨y, s, h0, h1, h2, h3⟩ := h
 exact ⟨y, s, h0, h1, h2.go hb, h3⟩
theorem SkN.apart {n : Nat} {W V : World} {v : Value} {k L : Nat} {B : Bd} (h : SkN n W v k L B) {b : Nat} {cs : Array Value} {t : TypeId} (hX : W.heap[b]? = some (.cells cs t (0, 0))) (hc : ∀ (i : Nat) (u : Int), cs[i]? ≠ some (Value.int .u64 u)) (hV : OnlyAt b W V) : SkN n V v k L B := by
 obtain ⟨y, s, h0, h1, h2, h3⟩ := h
 exact ⟨y, s, h0, h1, ⟨slC_apart (i0 := 0) (by decide) (fun x => ⟨x, rfl⟩) hX hc hV h2.e, slC_apart (i0 := 0) (by decide) (fun x => ⟨x, rfl⟩) hX hc hV h2.c, slC_apart (i0 := 1) (by decide) (fun x => ⟨x.2, rfl⟩) hX hc hV h2.g⟩, h3⟩
theorem sketch_skN {k L : Nat} {B : Bd} {v : Value} {w : World} (h : B.Ok k L) (hv : BdAt w v B) :
  Calls Tryz.prog 92 #[.agg #[v, .int .i64 k, .int .i64 L]] w fun e w' => ∃ x, e = .returned x ∧ SkN w.heap.size w' x k L B ∧ Below w.heap.size w w' := by
 cases B with
 | num l =>
  obtain ⟨a, len, cap, rfl, hS⟩ := hv
  refine (sketch_num k L l a len cap w hS.1 (by have := h.2.2.2.1; have := hS.1.1; omega)).mono ?_
  rintro e w' ⟨s, rfl, hs, f1, f2, f3, hb⟩
  exact ⟨_, rfl, ⟨_, s, rfl, rfl, hs, f1, f2, f3⟩, hb⟩
 | reg b r =>
  obtain rfl : v = _ := hv
  refine (sketch_reg k L b (hlStr r) w).mono ?_
  rintro e w' ⟨s, rfl, hs, f1, f2, f3, hb⟩
  exact ⟨_, rfl, ⟨_, s, rfl, rfl, hs, f1, f2, f3⟩, hb⟩
 | cnt c l =>
  obtain ⟨a, len, cap, rfl, hS⟩ := hv
  refine (sketch_cnt k L 2 c l a len cap w hS.1 (by have := cols_of h.2.2.1 h.2.1; have := h.2.2.2.1; have := hS.1.1; omega)).mono ?_
  rintro e w' ⟨s, rfl, hs, f1, f2, f3, hb⟩
  exact ⟨_, rfl, ⟨_, s, rfl, rfl, hs, f1, f2, f3⟩, hb⟩
 | bkt f l =>
  obtain ⟨a, len, cap, rfl, hS⟩ := hv
  refine (sketch_bkt k L f l a len cap w hS.1 (by have := bins_len f l (by have := h.2.2.1; omega) h.2.2.2.1 h.2.2.2.2.2.2; have := hS.1.1; omega)).mono ?_
  rintro e w' ⟨s, rfl, hs, f1, f2, f3, hb⟩
  exact ⟨_, rfl, ⟨_, s, rfl, rfl, hs, f1, f2, f3⟩, hb⟩
set_option maxRecDepth 100000 in
set_option maxHeartbeats 2000000 in
theorem told_nilN (v : Value) (B : Bd) (kind level : Nat) (w : World) (hb : BdAt w v B) (hok : B.Ok kind level) :
  Calls Tryz.prog 59 #[.agg #[v, .int .i64 kind, .int .i64 level], .nilIface] w fun e w' => ∃ x, e = .returned (.tuple #[x, .int .i64 0]) ∧ SkN w.heap.size w' x kind level B ∧ Below w.heap.size w w' := by
 obtain ⟨T, rv, rfl⟩ := bd_iface hb
 obtain ⟨W0, hW0, hXp, hXr, hB0, hs0⟩ := boxes2 w #[.iface T rv, .int .i64 kind, .int .i64 level] 108 #[.int .i64 0, .int .i64 0, .slice none 0 0, .int .i64 0, .string ⟨#[]⟩, .int .i64 0, .int .i64 0, .slice none 0 0, .int .i64 0, .slice none 0 0] 39
 obtain ⟨c0, c1, c2⟩ := cl3 hXp
 have HS := Lib.hid (sketch_skN (w := W0) hok (hb.go hB0))
 have HXR := Lib.hid hXr
 have HB0 := Lib.hid hB0
 clear hXp hXr hB0 hb hok
 go_enter Tryz.func59, Tryz.ntmps59
 go_wp2_with fail
 refine HS.out.mono ?_
 rintro e w1 ⟨x, rfl, ⟨y, s, hy, rfl, hA, hFr⟩, hb1⟩
 have hR1 := known hb1 (Nat.le_refl _) HXR.out
 have HY := Lib.hid hy
 have HFr := Lib.hid (hFr.mono (n := w.heap.size) (by omega))
 clear hy hFr
 obtain ⟨r0, r1, r2, r3, r4, r5, r6, r7, r8, r9⟩ := cl10 hR1
 obtain ⟨g0, g1, g2, g3, g4, g5, g6, g7, g8, g9⟩ := cz10 hR1
 obtain ⟨V, hV, hVX, hVO, hVB⟩ := store10 (.int .i64 y.kind) (.int .i64 y.level) (.slice s.ea s.el s.ec) (.int .i64 y.hb) (.string y.hr) (.int .i64 y.cr) (.int .i64 y.cc) (.slice s.ca s.cl s.cc) (.int .i64 y.gf) (.slice s.ga s.gl s.gc) hR1
 have HR1 := Lib.hid hR1
 have HV := Lib.hid (And.intro hVO hVB)
 have HA := Lib.hid hA
 have Hb1 := Lib.hid hb1
 obtain ⟨k0, k1, k2, k3, k4, k5, k6, k7, k8, k9⟩ := cl10 hVX
 clear hR1 hVO hVB hA hb1 hVX
 go_wp2_with fail
 obtain ⟨hVO, hVB⟩ := HV.out
 have hS2 : SkN w.heap.size w1 (.agg #[.int .i64 y.kind, .int .i64 y.level, .slice s.ea s.el s.ec, .int .i64 y.hb, .string y.hr, .int .i64 y.cr, .int .i64 y.cc, .slice s.ca s.cl s.cc, .int .i64 y.gf, .slice s.ga s.gl s.gc]) kind level B := ⟨y, s, HY.out, rfl, HA.out, HFr.out⟩
 exact bodyPost_ret (v := .tuple #[.agg #[.int .i64 y.kind, .int .i64 y.level, .slice s.ea s.el s.ec, .int .i64 y.hb, .string y.hr, .int .i64 y.cr, .int .i64 y.cc, .slice s.ca s.cl s.cc, .int .i64 y.gf, .slice s.ga s.gl s.gc], .int .i64 0]) (by simp [results, Tryz.f59, go_sem, k0, k1, k2, k3, k4, k5, k6, k7, k8, k9]) rfl ⟨_, rfl, hS2.apart HR1.out (fun i u => noU_zero u) hVO, hVB _ _ (HB0.out.trans (Hb1.out.mono HB0.out.size)) (Nat.le_succ _)⟩
set_option maxRecDepth 100000 in
set_option maxHeartbeats 2000000 in
theorem Lower_anyN {k L : Nat}  {B : Bd} {v : Value} {w : World} (hok : B.Ok k L) (hlv : L < botN k) (hv : SkB w v k L B) :
  Calls Tryz.prog 67 #[v] w fun e w' => ∃ x, e = .returned (.tuple #[x, .int .i64 0]) ∧ SkN w.heap.size w' x k (L + 1) B.low ∧ Below w.heap.size w w' := by
 have hok2 : (B.low).Ok k ((L + 1)) := bd_low_ok hok hlv
 obtain ⟨y, s, hy, rfl, hA⟩ := hv
 obtain ⟨W0, hW0, hXp, hXr, hB0, hs0⟩ := boxes2 w #[.int .i64 y.kind, .int .i64 y.level, .slice s.ea s.el s.ec, .int .i64 y.hb, .string y.hr, .int .i64 y.cr, .int .i64 y.cc, .slice s.ca s.cl s.cc, .int .i64 y.gf, .slice s.ga s.gl s.gc] 39 #[.int .i64 0, .int .i64 0, .slice none 0 0, .int .i64 0, .string ⟨#[]⟩, .int .i64 0, .int .i64 0, .slice none 0 0, .int .i64 0, .slice none 0 0] 39
 have HO := Lib.hid (open_sk_any (w := W0) hok ⟨y, s, hy, rfl, hA.go hB0⟩)
 obtain ⟨L2, hL2⟩ : ∃ L2 : Nat, L + 1 = L2 := ⟨_, rfl⟩
 obtain ⟨B2, hB2⟩ : ∃ B2 : Bd, B.low = B2 := ⟨_, rfl⟩
 rw [hL2, hB2] at hok2 ⊢
 have HT : Hid (∀ b W, BdAt W b B → Calls Tryz.prog 100 #[.agg #[b, .int .i64 k, .int .i64 L]] W fun e w' => ∃ v', e = .returned (.tuple #[.agg #[v', .int .i64 k, .int .i64 L2], .nilIface]) ∧ BdAt w' v' B2 ∧ Below W.heap.size W w') := by
  rw [← hB2, ← hL2]
  rw [Int.natCast_add]
  exact fun b W h => lowered_any b B k L W h hok hlv
 have HN : Hid (∀ b W, BdAt W b B2 → Calls Tryz.prog 59 #[.agg #[b, .int .i64 k, .int .i64 L2], .nilIface] W fun e w' => ∃ x, e = .returned (.tuple #[x, .int .i64 0]) ∧ SkN W.heap.size w' x k L2 B2 ∧ Below W.heap.size W w') := fun b W h => told_nilN b B2 k L2 W h hok2
 obtain ⟨c0, c1, c2, c3, c4, c5, c6, c7, c8, c9⟩ := cl10 hXp
 have HXR := Lib.hid hXr
 have HB0 := Lib.hid hB0
 clear hXp hXr hB0 hA hy hok hok2 hL2 hB2 hlv
 go_enter Tryz.func67, Tryz.ntmps67
 go_wp2_with fail
 refine HO.out.mono ?_
 rintro e w1 ⟨b, rfl, hb, hb1⟩
 obtain ⟨T, rv, rfl⟩ := bd_iface hb
 obtain ⟨W2, hW2, hX2, hB2, hs2⟩ := boxes1 w1 #[.iface T rv, .int .i64 k, .int .i64 L] 108
 obtain ⟨d0, d1, d2⟩ := cl3 hX2
 have HT2 := Lib.hid (HT.out _ W2 (hb.go hB2))
 have HX2 := Lib.hid hX2
 have HB2 := Lib.hid hB2
 have HB1 := Lib.hid hb1
 clear hX2 hB2 hb1 hb
 go_wp2_with fail
 refine HT2.out.mono ?_
 rintro e w3 ⟨b3, rfl, hv3, hb3⟩
 obtain ⟨T3, rv3, rfl⟩ := bd_iface hv3
 have hX3 := known hb3 (Nat.le_refl _) HX2.out
 obtain ⟨p0, p1, p2⟩ := cl3 hX3
 obtain ⟨g0, g1, g2⟩ := cz3 hX3
 obtain ⟨V, hV, hVX, hVO, hVB⟩ := store3 (.iface T3 rv3) (.int .i64 k) (.int .i64 L2) hX3
 have HN2 := Lib.hid (HN.out _ V (BdAt.set_work hv3 hX3 (by simp) (by simp) (by simp) hVO))
 have hsz := HB1.out.size
 have HB3 : Hid (Below w.heap.size w V) := hVB _ _ (HB0.out.trans ((HB1.out.trans ((HB2.out.trans (hb3.mono HB2.out.size)).mono HB1.out.size)).mono HB0.out.size)) (by omega)
 have HR3 : Hid (V.heap[w.heap.size + 1]? = some (.cells #[.int .i64 0, .int .i64 0, .slice none 0 0, .int .i64 0, .string ⟨#[]⟩, .int .i64 0, .int .i64 0, .slice none 0 0, .int .i64 0, .slice none 0 0] 39 (0, 0))) := by
  refine (hVO.2 _ (by omega)).trans ?_
  exact known (HB1.out.trans ((HB2.out.trans (hb3.mono HB2.out.size)).mono HB1.out.size)) (Nat.le_refl _) HXR.out
 obtain ⟨q0, q1, q2⟩ := cl3 hVX
 clear hX3 hVX hVO hVB hv3 hb3
 go_wp2_with fail
 refine HN2.out.mono ?_
 rintro e w5 ⟨x, rfl, ⟨y5, s5, hy5, rfl, hA5, hF5⟩, hb5⟩
 have hR5 := known hb5 (Nat.le_refl _) HR3.out
 obtain ⟨r0, r1, r2, r3, r4, r5, r6, r7, r8, r9⟩ := cl10 hR5
 obtain ⟨f0, f1, f2, f3, f4, f5, f6, f7, f8, f9⟩ := cz10 hR5
 obtain ⟨U, hU, hUX, hUO, hUB⟩ := store10 (.int .i64 y5.kind) (.int .i64 y5.level) (.slice s5.ea s5.el s5.ec) (.int .i64 y5.hb) (.string y5.hr) (.int .i64 y5.cr) (.int .i64 y5.cc) (.slice s5.ca s5.cl s5.cc) (.int .i64 y5.gf) (.slice s5.ga s5.gl s5.gc) hR5
 obtain ⟨k0, k1, k2, k3, k4, k5, k6, k7, k8, k9⟩ := cl10 hUX
 have HS2 : Hid (SkN w.heap.size U (.agg #[.int .i64 y5.kind, .int .i64 y5.level, .slice s5.ea s5.el s5.ec, .int .i64 y5.hb, .string y5.hr, .int .i64 y5.cr, .int .i64 y5.cc, .slice s5.ca s5.cl s5.cc, .int .i64 y5.gf, .slice s5.ga s5.gl s5.gc]) k L2 B2) := SkN.apart ⟨y5, s5, hy5, rfl, hA5, hF5.mono (by have := HB3.out.size; omega)⟩ hR5 (fun i u => noU_zero u) hUO
 have HBU : Hid (Below w.heap.size w U) := hUB _ _ (HB3.out.trans (hb5.mono HB3.out.size)) (by omega)
 clear hR5 hUX hUO hUB hy5 hA5 hF5 hb5
 go_wp2_with fail
 exact bodyPost_ret (v := .tuple #[.agg #[.int .i64 y5.kind, .int .i64 y5.level, .slice s5.ea s5.el s5.ec, .int .i64 y5.hb, .string y5.hr, .int .i64 y5.cr, .int .i64 y5.cc, .slice s5.ca s5.cl s5.cc, .int .i64 y5.gf, .slice s5.ga s5.gl s5.gc], .int .i64 0]) (by simp [results, Tryz.f67, go_sem, k0, k1, k2, k3, k4, k5, k6, k7, k8, k9]) rfl ⟨_, rfl, HS2.out, HBU.out⟩
end Go.Proofs.YthbhmnakmhambaaGreatDoor
namespace Go.Proofs.YthbhmnakmhambaaGreatDoor
open Go Go.RowKit Go.Shelf
def isBudgetB (b : Int) : Bool := decide (0 ≤ b) && decide (b ≤ 1000000)
theorem isBudget_any (n : Int) (w : World) : Calls Tryz.prog 65 #[.int .i64 n] w fun e w' => e = .returned (.bool (isBudgetB n)) ∧ w' = w := by
 have HR : Hid (isBudgetB n = (decide (0 ≤ n) && decide (n ≤ 1000000))) := rfl
 generalize isBudgetB n = b at HR ⊢
 by_cases h1 : 0 ≤ n
 ·by_cases h2 : n ≤ 1000000
  ·have H9 : Hid (b = true) := by rw [Hid, HR.out, decide_eq_true h1, decide_eq_true h2]; rfl
   go_enter Tryz.func65, Tryz.ntmps65
   go_wp2_with fail
   go_ret
   exact ⟨by rw [H9.out]; rfl, rfl⟩
  ·have H9 : Hid (b = false) := by rw [Hid, HR.out, decide_eq_false h2, Bool.and_false]
   go_enter Tryz.func65, Tryz.ntmps65
   go_wp2_with fail
   go_ret
   exact ⟨by rw [H9.out]; rfl, rfl⟩
 ·have H9 : Hid (b = false) := by rw [Hid, HR.out, decide_eq_false h1, Bool.false_and]
  go_enter Tryz.func65, Tryz.ntmps65
  go_wp2_with fail
  go_ret
  exact ⟨by rw [H9.out]; rfl, rfl⟩
theorem encP_len (n : Nat) : (encP n).length = 1 := rfl
theorem encP_one (n : Nat) : ∀ u ∈ encP n, u.oneCell' = true := by
 intro u hu
 simp only [encP, List.mem_singleton] at hu
 subst hu
 rfl
def PTold (F base : Nat) (T pv : Value) (ps : List Nat) (p : Nat) (w w' : World) : Prop := ∃ pv', w'.heap[F]? = some (.cells #[pv', T] 123 (0, 0)) ∧ w'.ownsRow base 3 1 pv' (ps ++ [p]).length ((ps ++ [p]).flatMap encP) ∧ some F ≠ pv'.ownBlock ∧
   (∀ k, k < w.heap.size → k ≠ F → some k ≠ pv.ownBlock → w'.heap[k]? = w.heap[k]?) ∧ (pv'.ownBlock = pv.ownBlock ∨ ∃ g, pv'.ownBlock = some g ∧ w.heap.size ≤ g) ∧ Below base w w'
attribute [-go_sem] Builtin.append_
set_option maxRecDepth 100000 in
set_option maxHeartbeats 1000000 in
theorem ptell_any (F base : Nat) (T : Value) (pv : Value) (ps : List Nat) (p : Nat) (w : World) (hF : w.heap[F]? = some (.cells #[pv, T] 123 (0, 0))) (hb : base ≤ F) (hown : w.ownsRow base 3 1 pv ps.length (ps.flatMap encP)) (hne : some F ≠ pv.ownBlock) (hn : ps.length < 4294967) :
  Calls Tryz.prog 68 #[.pointer (some ⟨F, 0, none⟩), .int .i64 p] w fun e w' => e = .returned (.tuple #[]) ∧ PTold F base T pv ps p w w' := by
 have hFl := (Array.getElem?_eq_some_iff.1 hF).1
 obtain ⟨pa, pc, rfl⟩ := owns_formL hown
 obtain ⟨g, cap, w1, hap, hown1, hB1, hsz, -, hfr⟩ := append_one Tryz.prog 71 und_ints info_int rfl (by decide) (W := w) hown (Below.refl base w) (Nat.le_refl _) (by omega) (encP p) rfl (encP_one p) (by omega) (by decide)
 have hcell : ∀ j u, (encP p)[j]? = some u → (w.alloc (.cells (encP p).toArray 3)).cell? ((⟨w.heap.size, 0, none⟩ : Addr).add j) = some u := fun j u hj => by
  have := cCc (World.alloc_heap_new w (.cells (encP p).toArray 3)) j
  have ea : (⟨w.heap.size, 0, none⟩ : Addr).add j = ⟨w.heap.size, j, none⟩ := by unfold Addr.add; split <;> simp_all
  rw [ea, this]
  simpa using hj
 have hwh := append_where 71 und_ints info_int (hown.alloc _) (n := ps.length) (m := 1) rfl hcell (encP_one p) (by omega) (by unfold maxLen; omega) (by omega) hap
 have hwh2 : Value.ownBlock (.slice (some ⟨g, 0, none⟩) (ps.length + 1) cap) = Value.ownBlock (.slice pa ps.length pc) ∨ ∃ b, Value.ownBlock (.slice (some ⟨g, 0, none⟩) (ps.length + 1) cap) = some b ∧ w.heap.size ≤ b := by
  rcases hwh with e | ⟨b, e, h⟩
  ·exact .inl e
  ·refine .inr ⟨b, e, ?_⟩
   simp at h
   omega
 have hFg : F ≠ g := fun e => by
  rcases hwh2 with h | ⟨b, h, hb⟩
  ·exact hne (by rw [← h, e]; rfl)
  ·injection h with h
   simp at h
   omega
 have hF1 : w1.heap[F]? = some (.cells #[.slice pa ps.length pc, T] 123 (0, 0)) := (hfr F hFl hne).trans hF
 have hA1 : w.cell? ⟨F, 0, none⟩ = some (.slice pa ps.length pc) := cCc hF 0
 have hA2 : w1.cell? ⟨F, 0, none⟩ = some (.slice pa ps.length pc) := cCc hF1 0
 have hA3 : w1.frozen? ⟨F, 0, none⟩ = false := cFz hF1 0
 obtain ⟨V, hV, hFV, hAp, hBV, hs1, hs2⟩ := box_set (i := 0) hF1 (.slice (some ⟨g, 0, none⟩) (ps.length + 1) cap)
 have hlen : (ps ++ [p]).length = ps.length + 1 := by simp
 have hownV : V.ownsRow base 3 1 (.slice (some ⟨g, 0, none⟩) (ps.length + 1) cap) (ps.length + 1) ((ps ++ [p]).flatMap encP) := by
  rw [List.flatMap_append]
  rw [show ([p] : List Nat).flatMap encP = encP p from by simp]
  obtain ⟨h0, cur, h1, h2⟩ := own_blk hown1
  exact ⟨hown1.1, .inr ⟨g, cap, cur, rfl, h0, (hAp.2 g (Array.getElem?_eq_some_iff.1 h1).1 (fun e => hFg e.symm)).trans h1, h2⟩⟩
 have HE : Hid (PTold F base T (.slice pa ps.length pc) ps p w V) := by
  refine ⟨.slice (some ⟨g, 0, none⟩) (ps.length + 1) cap, hFV, by rw [hlen]; exact hownV, fun e => hFg (by injection e), fun k hk h1 h2 => ?_, hwh2, hBV _ _ hb hB1⟩
  exact (hAp.2 k (by omega) h1).trans (hfr k hk h2)
 unfold encP at hap
 clear hF hown hown1 hwh hwh2 hF1 hFV hAp hBV hownV hcell hfr hB1 hne hs1 hs2
 go_enter Tryz.func68, Tryz.ntmps68
 go_wp2_with fail
 go_end0
 exact ⟨rfl, HE.out⟩
end Go.Proofs.YthbhmnakmhambaaGreatDoor
namespace Go.Proofs.YthbhmnakmhambaaGreatDoor
open Go Go.RowKit Go.Shelf
theorem own_store10 {W : World} {base n c g k : Nat} {m : List (Ser × SerP)} {x : Ser} {p : SerP} (y : Sk) (s : SS) (hO : W.ownsRow base 43 12 (.slice (some ⟨g, 0, none⟩) n c) n (m.flatMap serEnc)) (he : m[k]? = some (x, p)) :
  ∃ V, (((((((((W.setCell ⟨g, k * 12 + 1, none⟩ (.int .i64 y.kind)).setCell ⟨g, k * 12 + 2, none⟩ (.int .i64 y.level)).setCell ⟨g, k * 12 + 3, none⟩ (.slice s.ea s.el s.ec)).setCell ⟨g, k * 12 + 4, none⟩ (.int .i64 y.hb)).setCell ⟨g, k * 12 + 5, none⟩ (.string y.hr)).setCell ⟨g, k * 12 + 6, none⟩ (.int .i64 y.cr)).setCell ⟨g, k * 12 + 7, none⟩ (.int .i64 y.cc)).setCell ⟨g, k * 12 + 8, none⟩ (.slice s.ca s.cl s.cc)).setCell ⟨g, k * 12 + 9, none⟩ (.int .i64 y.gf)).setCell ⟨g, k * 12 + 10, none⟩ (.slice s.ga s.gl s.gc) = V ∧
   V.ownsRow base 43 12 (.slice (some ⟨g, 0, none⟩) n c) n ((m.set k (⟨x.l, y, x.seen⟩, ⟨p.la, p.ll, p.lc, s⟩)).flatMap serEnc) ∧ Apart g W V ∧ (∀ n w0, n ≤ g → Below n w0 W → Below n w0 V) := by
 obtain ⟨V1, e1, o1, a1, b1, -, -, m1⟩ := own_store (i := 1) (⟨x.l, { x.sk with kind := y.kind }, x.seen⟩, p) (.int .i64 y.kind) hO he (by decide) rfl
 obtain ⟨V2, e2, o2, a2, b2, -, -, m2⟩ := own_store (i := 2) (⟨x.l, { x.sk with kind := y.kind, level := y.level }, x.seen⟩, p) (.int .i64 y.level) o1 m1 (by decide) rfl
 obtain ⟨V3, e3, o3, a3, b3, -, -, m3⟩ := own_store (i := 3) (⟨x.l, { x.sk with kind := y.kind, level := y.level }, x.seen⟩, (⟨p.la, p.ll, p.lc, { p.ss with ea := s.ea, el := s.el, ec := s.ec }⟩ : SerP)) (.slice s.ea s.el s.ec) o2 m2 (by decide) rfl
 obtain ⟨V4, e4, o4, a4, b4, -, -, m4⟩ := own_store (i := 4) (⟨x.l, { x.sk with kind := y.kind, level := y.level, hb := y.hb }, x.seen⟩, (⟨p.la, p.ll, p.lc, { p.ss with ea := s.ea, el := s.el, ec := s.ec }⟩ : SerP)) (.int .i64 y.hb) o3 m3 (by decide) rfl
 obtain ⟨V5, e5, o5, a5, b5, -, -, m5⟩ := own_store (i := 5) (⟨x.l, { x.sk with kind := y.kind, level := y.level, hb := y.hb, hr := y.hr }, x.seen⟩, (⟨p.la, p.ll, p.lc, { p.ss with ea := s.ea, el := s.el, ec := s.ec }⟩ : SerP)) (.string y.hr) o4 m4 (by decide) rfl
 obtain ⟨V6, e6, o6, a6, b6, -, -, m6⟩ := own_store (i := 6) (⟨x.l, { x.sk with kind := y.kind, level := y.level, hb := y.hb, hr := y.hr, cr := y.cr }, x.seen⟩, (⟨p.la, p.ll, p.lc, { p.ss with ea := s.ea, el := s.el, ec := s.ec }⟩ : SerP)) (.int .i64 y.cr) o5 m5 (by decide) rfl
 obtain ⟨V7, e7, o7, a7, b7, -, -, m7⟩ := own_store (i := 7) (⟨x.l, { x.sk with kind := y.kind, level := y.level, hb := y.hb, hr := y.hr, cr := y.cr, cc := y.cc }, x.seen⟩, (⟨p.la, p.ll, p.lc, { p.ss with ea := s.ea, el := s.el, ec := s.ec }⟩ : SerP)) (.int .i64 y.cc) o6 m6 (by decide) rfl
 obtain ⟨V8, e8, o8, a8, b8, -, -, m8⟩ := own_store (i := 8) (⟨x.l, { x.sk with kind := y.kind, level := y.level, hb := y.hb, hr := y.hr, cr := y.cr, cc := y.cc }, x.seen⟩, (⟨p.la, p.ll, p.lc, { p.ss with ea := s.ea, el := s.el, ec := s.ec, ca := s.ca, cl := s.cl, cc := s.cc }⟩ : SerP)) (.slice s.ca s.cl s.cc) o7 m7 (by decide) rfl
 obtain ⟨V9, e9, o9, a9, b9, -, -, m9⟩ := own_store (i := 9) (⟨x.l, { x.sk with kind := y.kind, level := y.level, hb := y.hb, hr := y.hr, cr := y.cr, cc := y.cc, gf := y.gf }, x.seen⟩, (⟨p.la, p.ll, p.lc, { p.ss with ea := s.ea, el := s.el, ec := s.ec, ca := s.ca, cl := s.cl, cc := s.cc }⟩ : SerP)) (.int .i64 y.gf) o8 m8 (by decide) rfl
 obtain ⟨V10, e10, o10, a10, b10, -, -, m10⟩ := own_store (i := 10) (⟨x.l, y, x.seen⟩, (⟨p.la, p.ll, p.lc, s⟩ : SerP)) (.slice s.ga s.gl s.gc) o9 m9 (by decide) rfl
 refine ⟨V10, ?_, ?_, ((((((((a1.trans a2).trans a3).trans a4).trans a5).trans a6).trans a7).trans a8).trans a9).trans a10, fun n w0 hn hb => b10 _ _ hn (b9 _ _ hn (b8 _ _ hn (b7 _ _ hn (b6 _ _ hn (b5 _ _ hn (b4 _ _ hn (b3 _ _ hn (b2 _ _ hn (b1 _ _ hn hb)))))))))⟩
 ·rw [e1, e2, e3, e4, e5, e6, e7, e8, e9, e10]
 ·simp only [List.set_set] at o10
  exact o10
structure FitAt (w : World) (F : Nat) (W : World) (m : List (Ser × SerP)) (tv pv : Value) (ps : List Nat) : Prop where
 tab : GrowS w.heap.size (fun b => w.heap.size ≤ b ∧ b ≠ F ∧ some b ≠ pv.ownBlock) W tv m
 box : W.heap[F]? = some (.cells #[pv, tv] 123 (0, 0))
 lo : w.heap.size ≤ F
 tF : some F ≠ tv.ownBlock
 own : W.ownsRow w.heap.size 3 1 pv ps.length (ps.flatMap encP)
 pF : some F ≠ pv.ownBlock
 pT : ∀ b, pv.ownBlock = some b → tv.ownBlock ≠ some b
 below : Below w.heap.size w W
section
variable {w W W' : World} {F : Nat} {m : List (Ser × SerP)} {tv pv : Value} {ps : List Nat}
theorem FitAt.go (h : FitAt w F W m tv pv ps) (hb : Below W.heap.size W W') : FitAt w F W' m tv pv ps :=
 ⟨h.tab.go hb, known hb (Nat.le_refl _) h.box, h.lo, h.tF, owns_go h.own hb, h.pF, h.pT, h.below.trans (hb.mono h.below.size)⟩
theorem owns_apart {A B : World} {base e size n g : Nat} {v : Value} {xs : List Value} (h : A.ownsRow base e size v n xs) (hA : Apart g A B) (hg : some g ≠ v.ownBlock) : B.ownsRow base e size v n xs := by
 refine ⟨h.1, h.2.imp id ?_⟩
 rintro ⟨b, cap, cur, rfl, h2, h3, h4⟩
 exact ⟨b, cap, cur, rfl, h2, (hA.2 b (Array.getElem?_eq_some_iff.1 h3).1 (fun e => hg (by rw [e]; rfl))).trans h3, h4⟩
theorem owns_of_heap {A B : World} {base e size n : Nat} {v : Value} {xs : List Value} (h : A.ownsRow base e size v n xs) (hB : ∀ b, b < A.heap.size → v.ownBlock = some b → B.heap[b]? = A.heap[b]?) : B.ownsRow base e size v n xs := by
 refine ⟨h.1, h.2.imp id ?_⟩
 rintro ⟨b, cap, cur, rfl, h2, h3, h4⟩
 exact ⟨b, cap, cur, rfl, h2, (hB b (Array.getElem?_eq_some_iff.1 h3).1 rfl).trans h3, h4⟩
theorem FitAt.low {g c k : Nat} {x : Ser} {p : SerP} {y : Sk} {s : SS} (h : FitAt w F W m (.slice (some ⟨g, 0, none⟩) m.length c) pv ps) (hx : m[k]? = some (x, p)) (hA : Apart g W W') (hB : ∀ n w0, n ≤ g → Below n w0 W → Below n w0 W')
  (hO : W'.ownsRow w.heap.size 43 12 (.slice (some ⟨g, 0, none⟩) m.length c) m.length ((m.set k (⟨x.l, y, x.seen⟩, ⟨p.la, p.ll, p.lc, s⟩)).flatMap serEnc)) (hs : s.At W.heap.size W y) (hf : ∃ n, s.From n ∧ g < n ∧ w.heap.size ≤ n ∧ F < n ∧ (∀ b, pv.ownBlock = some b → b < n)) :
  FitAt w F W' (m.set k (⟨x.l, y, x.seen⟩, ⟨p.la, p.ll, p.lc, s⟩)) (.slice (some ⟨g, 0, none⟩) (m.set k (⟨x.l, y, x.seen⟩, (⟨p.la, p.ll, p.lc, s⟩ : SerP))).length c) pv ps := by
 obtain ⟨n, hf, hg, hw, hF, hpv⟩ := hf
 have hlen : (m.set k (⟨x.l, y, x.seen⟩, (⟨p.la, p.ll, p.lc, s⟩ : SerP))).length = m.length := List.length_set ..
 have hxm := List.mem_of_getElem? hx
 have hq : ∀ e ∈ m.set k (⟨x.l, y, x.seen⟩, (⟨p.la, p.ll, p.lc, s⟩ : SerP)), e.2.At W.heap.size W e.1 ∧ e.2.Off (fun b => (w.heap.size ≤ b ∧ b ≠ F ∧ some b ≠ pv.ownBlock) ∧ some b ≠ Value.ownBlock (.slice (some ⟨g, 0, none⟩) m.length c)) := fun e he => by
  rcases List.mem_or_eq_of_mem_set he with he | rfl
  ·exact ⟨h.tab.at_ e he, h.tab.off e he⟩
  ·have h1 := h.tab.at_ _ hxm
   have h2 := h.tab.off _ hxm
   have hk : ∀ b, n ≤ b → (w.heap.size ≤ b ∧ b ≠ F ∧ some b ≠ pv.ownBlock) ∧ some b ≠ Value.ownBlock (.slice (some ⟨g, 0, none⟩) m.length c) := fun b hb => by
    refine ⟨⟨by omega, by omega, fun e => ?_⟩, fun e => ?_⟩
    ·have := hpv b e.symm; omega
    ·injection e with e; simp at e; omega
   exact ⟨⟨h1.l, hs⟩, ⟨h2.l, fun z hz _ => hk _ (hf.1 z hz), fun z hz _ => hk _ (hf.2.1 z hz), fun z hz _ => hk _ (hf.2.2 z hz)⟩⟩
 rw [hlen]
 refine ⟨⟨by rw [hlen]; exact hO, fun e he => ?_, fun e he => (hq e he).2⟩, ?_, h.lo, h.tF, owns_apart h.own hA ?_, h.pF, h.pT, hB _ _ (own_blk h.tab.own).1 h.below⟩
 ·obtain ⟨h1, h2⟩ := hq e he
  exact (h1.frame (h2.imp (r := (· ≠ g)) fun b hb e => hb.2 (by rw [e]; rfl)) hA.2).mono hA.1
 ·refine (hA.2 F (Array.getElem?_eq_some_iff.1 h.box).1 (fun e => h.tF (by rw [e]; rfl))).trans h.box
 ·intro e
  exact h.pT g e.symm rfl
theorem FitAt.told {k : Nat} (h : FitAt w F W m tv pv ps) (ht : PTold F w.heap.size tv pv ps k W W') : ∃ pv', FitAt w F W' m tv pv' (ps ++ [k]) := by
 obtain ⟨pv', h1, h2, h3, h4, h5, h6⟩ := ht
 have hnew : ∀ b, b < W.heap.size → some b ≠ pv.ownBlock → some b ≠ pv'.ownBlock := fun b hb hne e => by
  rcases h5 with h5 | ⟨g, h5, hg⟩
  ·exact hne (by rw [← h5]; exact e)
  ·rw [h5] at e; injection e with e; omega
 have hframe : ∀ b, b < W.heap.size → (w.heap.size ≤ b ∧ b ≠ F ∧ some b ≠ pv.ownBlock) → W'.heap[b]? = W.heap[b]? := fun b hb hq => h4 b hb hq.2.1 hq.2.2
 have hlt := h.tab.own.lt
 refine ⟨pv', ⟨owns_of_heap h.tab.own (fun b hb e => h4 b hb (fun e2 => h.tF (by rw [e, e2])) (fun e2 => h.pT b e2.symm e)), fun e he => ?_, fun e he => ?_⟩, h1, h.lo, h.tF, h2, h3, fun b hb hT => ?_, h.below.trans h6⟩
 ·exact ((h.tab.at_ e he).frame (h.tab.off e he) (fun b hb hq => hframe b hb hq.1)).mono h6.size
 ·exact ((h.tab.at_ e he).off.and (h.tab.off e he)).imp fun b hb => ⟨⟨hb.2.1.1, hb.2.1.2.1, hnew b hb.1 hb.2.1.2.2⟩, hb.2.2⟩
 ·rcases h5 with h5 | ⟨g, h5, hg⟩
  ·exact h.pT b (by rw [← h5]; exact hb) hT
  ·have := (hlt b hT).2
   rw [h5] at hb
   injection hb with hb
   omega
end
def fitAll (b : Int) (L : List Ser) : List Ser × List Nat × Int := if tabRight L then if isBudgetB b then match fit b L with
  | some (a, ps) => (a, ps, 0)
  | none => ([], [], 130)
 else ([], [], 130) else ([], [], 120)
def FitPost (b : Int) (L : List Ser) (w : World) (e : Ending) (w' : World) : Prop :=
 ∃ (m : List (Ser × SerP)) (ta : Option Addr) (tc : Nat) (pa : Option Addr) (pc : Nat), e = .returned (.tuple #[.slice ta m.length tc, .slice pa (fitAll b L).2.1.length pc, .int .i64 (fitAll b L).2.2]) ∧ Tab w'.heap.size w' ta m.length tc m ∧ m.map (·.1) = (fitAll b L).1 ∧
  (∀ z, ta = some z → w.heap.size ≤ z.block) ∧ (∀ e ∈ m, e.2.Off (fun b => w.heap.size ≤ b ∧ ∀ z, ta = some z → b ≠ z.block)) ∧ SlC encP 1 w'.heap.size w' pa (fitAll b L).2.1.length pc (fitAll b L).2.1 ∧ (∀ z, pa = some z → w.heap.size ≤ z.block) ∧ Below w.heap.size w w'
theorem FitPost.no {b : Int} {L : List Ser} {w w' : World} {n : Int} (h : fitAll b L = ([], [], n)) (hB : Below w.heap.size w w') : FitPost b L w (.returned (.tuple #[.slice none 0 0, .slice none 0 0, .int .i64 n])) w' := by
 unfold FitPost
 rw [h]
 exact ⟨[], none, 0, none, 0, rfl, Tab.nil, rfl, (fun z h => by cases h), (fun e h => by cases h), SlC.nil, (fun z h => by cases h), hB⟩
theorem FitAt.post {b : Int} {L : List Ser} {w W : World} {F : Nat} {m : List (Ser × SerP)} {ta pa : Option Addr} {tc pc : Nat} {ps : List Nat} (h : FitAt w F W m (.slice ta m.length tc) (.slice pa ps.length pc) ps) (he : fitAll b L = (m.map (·.1), ps, 0)) :
  FitPost b L w (.returned (.tuple #[.slice ta m.length tc, .slice pa ps.length pc, .int .i64 0])) W := by
 obtain ⟨a', c', e1, h1, h2, h3⟩ := h.tab.tab
 injection e1 with e1 e2 e3
 subst e1
 subst e3
 obtain ⟨a2, c2, e1, h4, h5⟩ := slC_of_owns (enc := encP) (l := ps) encP_len h.own
 injection e1 with e1 e2 e3
 subst e1
 subst e3
 unfold FitPost
 rw [he]
 exact ⟨m, ta, tc, pa, pc, rfl, h1, rfl, h2, fun e he => (h3 e he).imp fun b hb => ⟨hb.1.1, hb.2⟩, h4, h5, h.below⟩
section
variable {w W : World} {F : Nat} {m : List (Ser × SerP)} {ta : Option Addr} {tc : Nat} {pv : Value} {ps : List Nat}
theorem FitAt.tabOf (h : FitAt w F W m (.slice ta m.length tc) pv ps) : Tab W.heap.size W ta m.length tc m := by
 obtain ⟨a', c', e1, h1, -⟩ := h.tab.tab
 injection e1 with e1 e2 e3
 subst e1
 subst e3
 exact h1
theorem FitAt.cost (h : FitAt w F W m (.slice ta m.length tc) pv ps) (hq : QT (m.map (·.1))) (hG : GW w) :
  Calls Tryz.prog 12 #[.slice ta m.length tc] W fun e w' => e = .returned (.int .i64 (costL (m.map (·.1)))) ∧ Below W.heap.size W w' := by
 have h1 := series_Cost_any m ta m.length tc W h.tabOf (tabFit_of h.tabOf hq.fine) (hG.below h.below)
 rw [tabCost, hq.right, if_pos rfl] at h1
 exact h1
theorem FitAt.vict (h : FitAt w F W m (.slice ta m.length tc) pv ps) (hq : QT (m.map (·.1))) (hG : GW w) :
  Calls Tryz.prog 9 #[.slice ta m.length tc] W fun e w' => e = .returned (.tuple #[.int .i64 ((vic (m.map (·.1))).1 : Int), .bool (vic (m.map (·.1))).2.2]) ∧ Below W.heap.size W w' := by
 have h1 := Victim_any m ta m.length tc W h.tabOf (tabFit_of h.tabOf hq.fine) (hG.below h.below)
 rw [vicP, vicB, hq.right, if_pos rfl, Bool.true_and] at h1
 exact h1
end
theorem low_call {x : Ser} {p : SerP} {W : World} (hx : x.good) (hm : mayLow x = true) (hp : p.ss.At W.heap.size W x.sk) :
  Calls Tryz.prog 67 #[.agg #[.int .i64 x.sk.kind, .int .i64 x.sk.level, .slice p.ss.ea p.ss.el p.ss.ec, .int .i64 x.sk.hb, .string x.sk.hr, .int .i64 x.sk.cr, .int .i64 x.sk.cc, .slice p.ss.ca p.ss.cl p.ss.cc, .int .i64 x.sk.gf, .slice p.ss.ga p.ss.gl p.ss.gc]] W fun e w' => ∃ (y : Sk) (s : SS), y = skLow x.sk ∧ e = .returned (.tuple #[.agg #[.int .i64 y.kind, .int .i64 y.level, .slice s.ea s.el s.ec, .int .i64 y.hb, .string y.hr, .int .i64 y.cr, .int .i64 y.cc, .slice s.ca s.cl s.cc, .int .i64 y.gf, .slice s.ga s.gl s.gc], .int .i64 0]) ∧ s.At w'.heap.size w' y ∧ s.From W.heap.size ∧ Below W.heap.size W w' := by
 obtain ⟨k, L, B, e, hB⟩ := hx.sk
 have hx2 : x = ⟨x.l, skOf k L B, x.seen⟩ := by rw [← e]
 have hlt : L < botN k := by rw [hx2, mayLow_sk hB] at hm; simpa using hm
 refine (Lower_anyN (w := W) (v := .agg #[.int .i64 x.sk.kind, .int .i64 x.sk.level, .slice p.ss.ea p.ss.el p.ss.ec, .int .i64 x.sk.hb, .string x.sk.hr, .int .i64 x.sk.cr, .int .i64 x.sk.cc, .slice p.ss.ca p.ss.cl p.ss.cc, .int .i64 x.sk.gf, .slice p.ss.ga p.ss.gl p.ss.gc]) hB hlt ⟨x.sk, p.ss, e, rfl, hp⟩).mono ?_
 rintro e' w' ⟨v, h1, ⟨y, s, hy, rfl, hA, hF⟩, hb⟩
 exact ⟨y, s, by rw [hy, e, skLow_sk hB], h1, hA, hF, hb⟩
def plen (F : Nat) (W : World) : Nat := match W.cell? ⟨F, 0, none⟩ with
 | some (.slice _ n _) => n
 | _ => 0
theorem plen_of {F : Nat} {W : World} {a : Option Addr} {n c : Nat} {T : Value} {t : TypeId} {f : Nat × Nat} (h : W.heap[F]? = some (.cells #[.slice a n c, T] t f)) : plen F W = n := by
 have h1 : W.cell? ⟨F, 0, none⟩ = some (.slice a n c) := cCc h 0
 unfold plen
 rw [h1]
theorem mu_small : ∀ l : List Ser, (∀ x ∈ l, 0 ≤ x.sk.level) → mu l ≤ 4 * l.length
 | [], _ => Nat.le_refl _
 | x :: r, h => by
  have h1 := mu_small r fun y hy => h y (List.mem_cons_of_mem _ hy)
  have h2 := h x List.mem_cons_self
  have h3 : bottomB x.sk.kind ≤ 4 := by unfold bottomB; repeat' split; all_goals omega
  show slack x + mu r ≤ _
  unfold slack
  simp only [List.length_cons]
  omega
theorem QT.mu {l : List Ser} (h : QT l) : mu l ≤ 80 := by
 have h1 := mu_small l fun x hx => by obtain ⟨k, L, B, e, -⟩ := (h.good x hx).sk; rw [e, (skOf_kind k L B).2]; omega
 have h2 := h.len
 omega
theorem GrowS.weak {base base' : Nat} {q q' : Nat → Prop} {W : World} {v : Value} {l : List (Ser × SerP)} (h : GrowS base q W v l) (hb : base' ≤ base) (hq : ∀ b, b < W.heap.size → q b → q' b) : GrowS base' q' W v l := by
 refine ⟨⟨h.own.1, h.own.2.imp id ?_⟩, h.at_, fun e he => ((h.at_ e he).off.and (h.off e he)).imp fun b hb => ⟨hq b hb.1 hb.2.1, hb.2.2⟩⟩
 rintro ⟨g, cap, cur, h1, h2, h3⟩
 exact ⟨g, cap, cur, h1, by omega, h3⟩
theorem FitAt.start {w w2 w3 W : World} {m : List (Ser × SerP)} {v : Value} (h : GrowS w2.heap.size (w2.heap.size ≤ ·) w3 v m) (hX : W.heap[w3.heap.size]? = some (.cells #[.slice none 0 0, v] 123 (0, 0))) (hB : Below w3.heap.size w3 W) (h1 : Below w.heap.size w w2) (h3 : Below w2.heap.size w2 w3) : FitAt w w3.heap.size W m v (.slice none 0 0) [] := by
 have hs1 := h1.size
 have hs3 := h3.size
 have h2 := h.weak (base' := w.heap.size) (q' := fun b => w.heap.size ≤ b ∧ b ≠ w3.heap.size ∧ some b ≠ Value.ownBlock (.slice none 0 0)) hs1 (fun b hb hq => ⟨by omega, by omega, fun e => by cases e⟩)
 refine ⟨h2.go hB, hX, by omega, fun e => ?_, World.ownsRow_nil _ _ _ _, (fun e => by cases e), (fun b e => by cases e), h1.trans ((h3.trans (hB.mono hs3)).mono hs1)⟩
 have := (h.own.lt _ e.symm).2
 omega
set_option maxRecDepth 100000 in
set_option maxHeartbeats 4000000 in
theorem Fit_any (b : Int) (l : List (Ser × SerP)) (a : Option Addr) (len cap : Nat) (w : World) (hT : Tab w.heap.size w a len cap l) (hF : TabFit l) (hQ : tabRight (l.map (·.1)) = true → QT (l.map (·.1))) (hG : GW w) :
  Calls Tryz.prog 31 #[.slice a len cap, .int .i64 b] w (FitPost b (l.map (·.1)) w) := by
 have hR := series_Right_any l a len cap w hT hF hG
 have hlen := hT.row.1.1
 subst hlen
 have HT := Lib.hid hT
 have HF := Lib.hid hF
 have HG := Lib.hid hG
 clear hT hF hG
 cases hr : tabRight (l.map (·.1)) with
 | false =>
  rw [hr] at hR
  have HE : Hid (∀ w', Below w.heap.size w w' → FitPost b (l.map (·.1)) w (.returned (.tuple #[.slice none 0 0, .slice none 0 0, .int .i64 120])) w') := fun w' hb => FitPost.no (by unfold fitAll; rw [hr]; rfl) hb
  clear hr hQ
  generalize FitPost b (l.map (·.1)) w = Q at HE ⊢
  go_enter Tryz.func31, Tryz.ntmps31
  go_wp2_with (go_at_call 10; refine hR.mono ?_; rintro e w1 ⟨rfl, hb1⟩)
  go_ret3
  exact HE.out _ hb1
 | true =>
  rw [hr] at hR
  cases hbu : isBudgetB b with
  | false =>
   have HE : Hid (∀ w', Below w.heap.size w w' → FitPost b (l.map (·.1)) w (.returned (.tuple #[.slice none 0 0, .slice none 0 0, .int .i64 130])) w') := fun w' hb => FitPost.no (by unfold fitAll; rw [hr, hbu]; rfl) hb
   have HI : Hid (∀ w, Calls Tryz.prog 65 #[.int .i64 b] w fun e w' => e = .returned (.bool false) ∧ w' = w) := fun w => (isBudget_any b w).mono fun e w' ⟨h1, h2⟩ => ⟨by rw [h1, hbu], h2⟩
   clear hr hQ hbu
   generalize FitPost b (l.map (·.1)) w = Q at HE ⊢
   go_enter Tryz.func31, Tryz.ntmps31
   go_wp2_with (first
    | (go_at_call 10; refine hR.mono ?_; rintro e w1 ⟨rfl, hb1⟩)
    | (go_at_call 65; refine (HI.out _).mono ?_; rintro e w2 ⟨rfl, rfl⟩))
   go_ret3
   exact HE.out _ hb1
  | true =>
   have HI : Hid (∀ w, Calls Tryz.prog 65 #[.int .i64 b] w fun e w' => e = .returned (.bool true) ∧ w' = w) := fun w => (isBudget_any b w).mono fun e w' ⟨h1, h2⟩ => ⟨by rw [h1, hbu], h2⟩
   have HQ := Lib.hid (hQ hr)
   have HE : Hid (∀ w', fit b (l.map (·.1)) = none → Below w.heap.size w w' → FitPost b (l.map (·.1)) w (.returned (.tuple #[.slice none 0 0, .slice none 0 0, .int .i64 130])) w') := fun w' hn hb => FitPost.no (by unfold fitAll; rw [hr, hbu, hn]; rfl) hb
   have HD : Hid (∀ (F : Nat) (m : List (Ser × SerP)) (ta : Option Addr) (tc : Nat) (pa : Option Addr) (pc : Nat) (ps : List Nat) W, fit b (l.map (·.1)) = some (m.map (·.1), ps) → FitAt w F W m (.slice ta m.length tc) (.slice pa ps.length pc) ps → FitPost b (l.map (·.1)) w (.returned (.tuple #[.slice ta m.length tc, .slice pa ps.length pc, .int .i64 0])) W) := fun F m ta tc pa pc ps W hn h => h.post (by unfold fitAll; rw [hr, hbu, hn]; rfl)
   have HC : Hid (∀ w', Below w.heap.size w w' → Calls Tryz.prog 66 #[.slice a l.length cap] w' fun e w'' => ∃ v m, e = .returned v ∧ GrowS w'.heap.size (w'.heap.size ≤ ·) w'' v m ∧ m.map (·.1) = l.map (·.1) ∧ Below w'.heap.size w' w'') := fun w' hb => copied_any l a l.length cap w' (HT.out.go hb) (addFit_of hr HF.out HT.out) (by have := ((tabRight_iff _).1 hr).1; rw [List.length_map] at this; omega)
   have hbb : 0 ≤ b ∧ b ≤ 1000000 := by simpa [isBudgetB] using hbu
   obtain ⟨hv0, hv1⟩ := hbb
   clear hr hQ hbu
   generalize FitPost b (l.map (·.1)) w = Q at HE HD ⊢
   go_enter Tryz.func31, Tryz.ntmps31
   go_wp2_with (first
    | (go_at_call 10; refine hR.mono ?_; rintro e w1 ⟨rfl, hb1⟩)
    | (go_at_call 65; refine (HI.out _).mono ?_; rintro e w2 ⟨rfl, rfl⟩)
    | (go_at_call 66; refine (HC.out _ hb1).mono ?_; rintro e w3 ⟨tv, m, rfl, hgr, hm, hb3⟩; obtain ⟨ta, tc, rfl⟩ := hgr.form))
   obtain ⟨W4, hW4, hX4, hB4, hs4⟩ := boxes1 w3 #[.slice none 0 0, .slice ta m.length tc] 123
   have HA0 := Lib.hid (FitAt.start hgr hX4 hB4 hb1 hb3)
   have HM0 := Lib.hid hm
   generalize w3.heap.size = F at *
   rw [hW4]
   clear hW4 hX4 hB4 hs4 hgr hb3 hb1 hR HC HI hm
   go_loopw [8] (fun _ wr => ∃ (m : List (Ser × SerP)) (ta : Option Addr) (tc : Nat) (pa : Option Addr) (pc : Nat) (ps : List Nat), Hid (FitAt w F wr m (.slice ta m.length tc) (.slice pa ps.length pc) ps) ∧ Hid (QT (m.map (·.1))) ∧ Hid (fit b (l.map (·.1)) = (fit b (m.map (·.1))).map fun r => (r.1, ps ++ r.2)) ∧ ps.length + mu (m.map (·.1)) ≤ 80) (fun _ wr => 100 - plen F wr)
   case atStart =>
    refine ⟨m, ta, tc, none, 0, [], HA0.out, by rw [HM0.out]; exact HQ.out, ?_, ?_⟩
    ·rw [HM0.out]
     cases fit b (l.map (·.1)) <;> rfl
    ·rw [HM0.out]
     have := HQ.out.mu
     simpa using this
   case round =>
    obtain ⟨m, ta, tc, pa, pc, ps, HA, HQm, HFt, hmu⟩ := hrel
    have hbx := HA.out.box
    have hFl := (Array.getElem?_eq_some_iff.1 hbx).1
    have c1 : wr.cell? ⟨F, 1, none⟩ = some (.slice ta m.length tc) := cCc hbx 1
    have HCo := Lib.hid (HA.out.cost HQm.out HG.out)
    have hcs := costL_small m _ _ HA.out.tab.at_ (tabFit_of HA.out.tabOf HQm.out.fine)
    have h20 : m.length ≤ 20 := by have := HQm.out.len; rwa [List.length_map] at this
    clear hbx
    by_cases hc : costL (m.map (·.1)) ≤ b
    ·have H9 : Hid (fit b (l.map (·.1)) = some (m.map (·.1), ps)) := by rw [Hid, HFt.out, fit_done hc, Option.map_some, List.append_nil]
     generalize costL (m.map (·.1)) = cc at HCo hcs hc
     obtain ⟨k0, k1⟩ := hcs
     have hk2 : cc ≤ 4400000000000 := by omega
     clear k1 hmu
     go_wp2_with (go_at_call 12; refine HCo.out.mono ?_; rintro e w5 ⟨rfl, hb5⟩)
     have HA5 := Lib.hid (HA.out.go hb5)
     obtain ⟨d0, d1⟩ := cl2 HA5.out.box
     go_wp2_with fail
     go_quiet (fail)
     go_wp2_with fail
     go_ret3
     exact HD.out F m ta tc pa pc ps _ H9.out (HA5.out.go (bDr (Below.refl _ _) _))
    ·have hc' : b < costL (m.map (·.1)) := by omega
     have HVi : Hid (∀ W, FitAt w F W m (.slice ta m.length tc) (.slice pa ps.length pc) ps → Calls Tryz.prog 9 #[.slice ta m.length tc] W fun e w' => e = .returned (.tuple #[.int .i64 ((vic (m.map (·.1))).1 : Int), .bool (vic (m.map (·.1))).2.2]) ∧ Below W.heap.size W w') := fun W h => h.vict HQm.out HG.out
     cases hv : victim (m.map (·.1)) with
     | none =>
      have H9 : Hid (fit b (l.map (·.1)) = none) := by rw [Hid, HFt.out, fit_stuck hc' hv]; rfl
      have hvf := (victim_none hv).1
      rw [hvf] at HVi
      generalize costL (m.map (·.1)) = cc at HCo hcs hc hc'
      generalize (vic (m.map (·.1))).1 = vv at HVi
      obtain ⟨k0, k1⟩ := hcs
      have hk2 : cc ≤ 4400000000000 := by omega
      clear k1 hmu hv hvf hc
      go_wp2_with (first
       | (go_at_call 12; refine HCo.out.mono ?_; rintro e w5 ⟨rfl, hb5⟩; have HA5 := Lib.hid (HA.out.go hb5); have d1 : w5.cell? ⟨F, 1, none⟩ = some (.slice ta m.length tc) := cCc HA5.out.box 1)
       | (go_at_call 9; refine (HVi.out _ HA5.out).mono ?_; rintro e w6 ⟨rfl, hb6⟩))
      go_ret3
      exact HE.out _ H9.out (HA5.out.go hb6).below
     | some v =>
      obtain ⟨hf1, hf2, hvl, x, hx, hm⟩ := victim_some hv
      have hstep := fit_step HQm.out hc' hv
      have hmul := mu_low HQm.out hx hm
      have hql := HQm.out.low hx hm
      have hlo := lowAt_eq hx
      rw [hf1, hf2] at HVi
      rw [List.length_map] at hvl
      obtain ⟨⟨z, p⟩, hxm⟩ : ∃ e, m[v]? = some e := ⟨_, List.getElem?_eq_getElem hvl⟩
      obtain rfl : z = x := by
       have h1 : (m.map (·.1))[v]? = some z := by rw [List.getElem?_map, hxm]; rfl
       rw [hx] at h1
       exact (Option.some.inj h1).symm
      have HXM := Lib.hid hxm
      obtain ⟨g, rfl⟩ : ∃ g, ta = some ⟨g, 0, none⟩ := by
       rcases HA.out.tab.own.2 with ⟨h1, h2⟩ | ⟨g, cap, cur, h1, _⟩
       ·omega
       ·injection h1 with h1
        exact ⟨g, h1⟩
      have HLo : Hid (∀ W, FitAt w F W m (.slice (some ⟨g, 0, none⟩) m.length tc) (.slice pa ps.length pc) ps → Calls Tryz.prog 67 #[.agg #[.int .i64 z.sk.kind, .int .i64 z.sk.level, .slice p.ss.ea p.ss.el p.ss.ec, .int .i64 z.sk.hb, .string z.sk.hr, .int .i64 z.sk.cr, .int .i64 z.sk.cc, .slice p.ss.ca p.ss.cl p.ss.cc, .int .i64 z.sk.gf, .slice p.ss.ga p.ss.gl p.ss.gc]] W fun e w' => ∃ (y : Sk) (s : SS), y = skLow z.sk ∧ e = .returned (.tuple #[.agg #[.int .i64 y.kind, .int .i64 y.level, .slice s.ea s.el s.ec, .int .i64 y.hb, .string y.hr, .int .i64 y.cr, .int .i64 y.cc, .slice s.ca s.cl s.cc, .int .i64 y.gf, .slice s.ga s.gl s.gc], .int .i64 0]) ∧ s.At w'.heap.size w' y ∧ s.From W.heap.size ∧ Below W.heap.size W w') := fun W h => low_call (HQm.out.good z (List.mem_of_getElem? hx)) hm (h.tab.at_ _ (List.mem_of_getElem? HXM.out)).s
      have HNext : Hid (∀ (y : Sk) (s : SS), y = skLow z.sk → (m.set v (⟨z.l, y, z.seen⟩, (⟨p.la, p.ll, p.lc, s⟩ : SerP))).map (fun e : Ser × SerP => e.1) = lowAt (m.map (·.1)) v) := fun y s hy => by
       rw [List.map_set, hlo, hy]
       rfl
      have HStep : Hid (fit b (l.map (·.1)) = (fit b (lowAt (m.map (·.1)) v)).map fun r => (r.1, (ps ++ [v]) ++ r.2)) := by
       rw [Hid, HFt.out, hstep, Option.map_map]
       congr 1
       funext r
       simp
      have HQl := Lib.hid hql
      have HMu : Hid ((ps ++ [v]).length + mu (lowAt (m.map (·.1)) v) ≤ 80) := by rw [Hid, List.length_append]; simp; omega
      have hps : ps.length < 80 := by omega
      generalize lowAt (m.map (·.1)) v = L2 at HNext HStep HQl HMu
      generalize costL (m.map (·.1)) = cc at HCo hcs hc hc'
      obtain ⟨k0, k1⟩ := hcs
      have hk2 : cc ≤ 4400000000000 := by omega
      clear k1 hmu hv hc hf1 hf2 hx hm hstep hmul hql hlo hxm
      go_wp2_with (first
       | (go_at_call 12; refine HCo.out.mono ?_; rintro e w5 ⟨rfl, hb5⟩; have HA5 := Lib.hid (HA.out.go hb5); have d1 : w5.cell? ⟨F, 1, none⟩ = some (.slice (some ⟨g, 0, none⟩) m.length tc) := cCc HA5.out.box 1)
       | (go_at_call 9; refine (HVi.out _ HA5.out).mono ?_; rintro e w6 ⟨rfl, hb6⟩; have HA6 := Lib.hid (HA5.out.go hb6); have f1 : w6.cell? ⟨F, 1, none⟩ = some (.slice (some ⟨g, 0, none⟩) m.length tc) := cCc HA6.out.box 1; have e1 : w6.cell? ⟨g, v * 12 + 1, none⟩ = some (.int .i64 z.sk.kind) := own_cell HA6.out.tab.own (flat_at (i := 1) HXM.out (by decide)); have e2 : w6.cell? ⟨g, v * 12 + 2, none⟩ = some (.int .i64 z.sk.level) := own_cell HA6.out.tab.own (flat_at (i := 2) HXM.out (by decide)); have e3 : w6.cell? ⟨g, v * 12 + 3, none⟩ = some (.slice p.ss.ea p.ss.el p.ss.ec) := own_cell HA6.out.tab.own (flat_at (i := 3) HXM.out (by decide)); have e4 : w6.cell? ⟨g, v * 12 + 4, none⟩ = some (.int .i64 z.sk.hb) := own_cell HA6.out.tab.own (flat_at (i := 4) HXM.out (by decide)); have e5 : w6.cell? ⟨g, v * 12 + 5, none⟩ = some (.string z.sk.hr) := own_cell HA6.out.tab.own (flat_at (i := 5) HXM.out (by decide)); have e6 : w6.cell? ⟨g, v * 12 + 6, none⟩ = some (.int .i64 z.sk.cr) := own_cell HA6.out.tab.own (flat_at (i := 6) HXM.out (by decide)); have e7 : w6.cell? ⟨g, v * 12 + 7, none⟩ = some (.int .i64 z.sk.cc) := own_cell HA6.out.tab.own (flat_at (i := 7) HXM.out (by decide)); have e8 : w6.cell? ⟨g, v * 12 + 8, none⟩ = some (.slice p.ss.ca p.ss.cl p.ss.cc) := own_cell HA6.out.tab.own (flat_at (i := 8) HXM.out (by decide)); have e9 : w6.cell? ⟨g, v * 12 + 9, none⟩ = some (.int .i64 z.sk.gf) := own_cell HA6.out.tab.own (flat_at (i := 9) HXM.out (by decide)); have e10 : w6.cell? ⟨g, v * 12 + 10, none⟩ = some (.slice p.ss.ga p.ss.gl p.ss.gc) := own_cell HA6.out.tab.own (flat_at (i := 10) HXM.out (by decide)); clear HVi HCo)
       | (go_at_call 67; refine (HLo.out _ HA6.out).mono ?_; rintro e w7 ⟨y, s, hy, rfl, hsA, hsF, hb7⟩; have HY := Lib.hid hy; clear hy))
      obtain ⟨W8, hW8, hX8, hB8, hs8⟩ := boxes1 w7 #[.int .i64 y.kind, .int .i64 y.level, .slice s.ea s.el s.ec, .int .i64 y.hb, .string y.hr, .int .i64 y.cr, .int .i64 y.cc, .slice s.ca s.cl s.cc, .int .i64 y.gf, .slice s.ga s.gl s.gc] 39
      have HA8 := Lib.hid ((HA6.out.go hb7).go hB8)
      have hsz6 := HA6.out.below.size
      have hsz7 := hb7.size
      have hsz8 := hB8.size
      have hg6 := own_lt HA6.out.tab.own
      have hF6 := (Array.getElem?_eq_some_iff.1 HA6.out.box).1
      have hp6 := HA6.out.own.lt
      have hlo6 := HA6.out.lo
      obtain ⟨V, hV, hVO, hVA, hVB⟩ := own_store10 y s HA8.out.tab.own HXM.out
      have HV := Lib.hid (HA8.out.low HXM.out hVA hVB hVO (hsA.go hB8) ⟨w6.heap.size, hsF, hg6, hsz6, hF6, fun b hb => (hp6 b hb).2⟩)
      obtain ⟨r0, r1, r2, r3, r4, r5, r6, r7, r8, r9⟩ := cl10 hX8
      have q1 : W8.cell? ⟨F, 1, none⟩ = some (.slice (some ⟨g, 0, none⟩) m.length tc) := cCc HA8.out.box 1
      have s1 : W8.cell? ⟨g, v * 12 + 1, none⟩ = some (.int .i64 z.sk.kind) := own_cell HA8.out.tab.own (flat_at (i := 1) HXM.out (by decide))
      have t1 : W8.frozen? ⟨g, v * 12 + 1, none⟩ = false := own_frozen HA8.out.tab.own _
      have s2 : W8.cell? ⟨g, v * 12 + 2, none⟩ = some (.int .i64 z.sk.level) := own_cell HA8.out.tab.own (flat_at (i := 2) HXM.out (by decide))
      have t2 : W8.frozen? ⟨g, v * 12 + 2, none⟩ = false := own_frozen HA8.out.tab.own _
      have s3 : W8.cell? ⟨g, v * 12 + 3, none⟩ = some (.slice p.ss.ea p.ss.el p.ss.ec) := own_cell HA8.out.tab.own (flat_at (i := 3) HXM.out (by decide))
      have t3 : W8.frozen? ⟨g, v * 12 + 3, none⟩ = false := own_frozen HA8.out.tab.own _
      have s4 : W8.cell? ⟨g, v * 12 + 4, none⟩ = some (.int .i64 z.sk.hb) := own_cell HA8.out.tab.own (flat_at (i := 4) HXM.out (by decide))
      have t4 : W8.frozen? ⟨g, v * 12 + 4, none⟩ = false := own_frozen HA8.out.tab.own _
      have s5 : W8.cell? ⟨g, v * 12 + 5, none⟩ = some (.string z.sk.hr) := own_cell HA8.out.tab.own (flat_at (i := 5) HXM.out (by decide))
      have t5 : W8.frozen? ⟨g, v * 12 + 5, none⟩ = false := own_frozen HA8.out.tab.own _
      have s6 : W8.cell? ⟨g, v * 12 + 6, none⟩ = some (.int .i64 z.sk.cr) := own_cell HA8.out.tab.own (flat_at (i := 6) HXM.out (by decide))
      have t6 : W8.frozen? ⟨g, v * 12 + 6, none⟩ = false := own_frozen HA8.out.tab.own _
      have s7 : W8.cell? ⟨g, v * 12 + 7, none⟩ = some (.int .i64 z.sk.cc) := own_cell HA8.out.tab.own (flat_at (i := 7) HXM.out (by decide))
      have t7 : W8.frozen? ⟨g, v * 12 + 7, none⟩ = false := own_frozen HA8.out.tab.own _
      have s8 : W8.cell? ⟨g, v * 12 + 8, none⟩ = some (.slice p.ss.ca p.ss.cl p.ss.cc) := own_cell HA8.out.tab.own (flat_at (i := 8) HXM.out (by decide))
      have t8 : W8.frozen? ⟨g, v * 12 + 8, none⟩ = false := own_frozen HA8.out.tab.own _
      have s9 : W8.cell? ⟨g, v * 12 + 9, none⟩ = some (.int .i64 z.sk.gf) := own_cell HA8.out.tab.own (flat_at (i := 9) HXM.out (by decide))
      have t9 : W8.frozen? ⟨g, v * 12 + 9, none⟩ = false := own_frozen HA8.out.tab.own _
      have s10 : W8.cell? ⟨g, v * 12 + 10, none⟩ = some (.slice p.ss.ga p.ss.gl p.ss.gc) := own_cell HA8.out.tab.own (flat_at (i := 10) HXM.out (by decide))
      have t10 : W8.frozen? ⟨g, v * 12 + 10, none⟩ = false := own_frozen HA8.out.tab.own _
      rw [hW8]
      clear e1 e2 e3 e4 e5 e6 e7 e8 e9 e10 d1 f1 hX8 hW8 hB8 hVO hVA hVB hsA hsF
      go_region
      clear s1 s2 s3 s4 s5 s6 s7 s8 s9 s10 t1 t2 t3 t4 t5 t6 t7 t8 t9 t10 r0 r1 r2 r3 r4 r5 r6 r7 r8 r9 q1 hV
      have HVd := Lib.hid (HV.out.go ((Below.refl V.heap.size V).drew))
      have HTl := Lib.hid (ptell_any F w.heap.size _ _ ps v V.drew HVd.out.box HVd.out.lo HVd.out.own HVd.out.pF (by omega))
      go_wp2_with (go_at_call 68; refine HTl.out.mono ?_; rintro e w9 ⟨rfl, htold⟩)
      obtain ⟨pv', HA9⟩ := HVd.out.told htold
      obtain ⟨pa', pc', rfl⟩ := owns_formL HA9.own
      have HA9' := Lib.hid HA9
      have hpl : plen F w9 = (ps ++ [v]).length := plen_of HA9.box
      have hpl0 : plen F wr = ps.length := plen_of HA.out.box
      clear HA9 htold
      go_roundw
      case rel => exact ⟨m.set v (⟨z.l, y, z.seen⟩, ⟨p.la, p.ll, p.lc, s⟩), some ⟨g, 0, none⟩, tc, pa', pc', ps ++ [v], HA9'.out, by rw [HNext.out y s HY.out]; exact HQl.out, by rw [HNext.out y s HY.out]; exact HStep.out, by rw [HNext.out y s HY.out]; exact HMu.out⟩
      case measure => rw [hpl, hpl0, List.length_append]; simp; omega
end Go.Proofs.YthbhmnakmhambaaGreatDoor
namespace Go.Proofs.YthbhmnakmhambaaGreatDoor
open Go Go.RowKit Go.Shelf
def putE (L : List Ser) (x : Ser) : Int := if putOk L x then 0 else 120
def putR (L : List Ser) (x : Ser) : List Ser := if putOk L x then putL L x else []
theorem putR_ok {L : List Ser} {x : Ser} (h : putOk L x = true) : putR L x = putL L x := if_pos h
theorem putE_of {L : List Ser} {x : Ser} (h : putOk L x = true) : putE L x = 0 := if_pos h
theorem series_Put_fn (l : List (Ser × SerP)) (a : Option Addr) (len cap : Nat) (x : Ser) (p : SerP) (w : World) (hT : Tab w.heap.size w a len cap l) (hF : ∀ y ∈ l.map (·.1), y.fine) (hP : p.At w.heap.size w x) (hx : x.fine) (hG : GW w) :
  Calls Tryz.prog 23 #[.slice a len cap, .agg #[.slice p.la p.ll p.lc, .int .i64 x.sk.kind, .int .i64 x.sk.level, .slice p.ss.ea p.ss.el p.ss.ec, .int .i64 x.sk.hb, .string x.sk.hr, .int .i64 x.sk.cr, .int .i64 x.sk.cc, .slice p.ss.ca p.ss.cl p.ss.cc, .int .i64 x.sk.gf, .slice p.ss.ga p.ss.gl p.ss.gc, .int .u64 x.seen]] w fun e w' => ∃ a' cap' m, e = .returned (.tuple #[.slice a' (List.length m) cap', .int .i64 (putE (l.map (·.1)) x)]) ∧ Tab w'.heap.size w' a' m.length cap' m ∧ m.map (·.1) = putR (l.map (·.1)) x ∧ Below w.heap.size w w' ∧ (∀ z, a' = some z → w.heap.size ≤ z.block) ∧ (∀ e ∈ m, e.2.Off (fun b => w.heap.size ≤ b ∧ ∀ z, a' = some z → b ≠ z.block)) ∧ (∀ z, a' = some z → Loose w' z.block) ∧ (∀ e ∈ m, LabFree w' e) :=
 (series_Put_any l a len cap x p w hT (tabFit_of hT hF) hP (hx.serFit hP) hG).mono fun e w' h => by
  obtain ⟨hb, ⟨h1, rfl⟩ | ⟨h1, a', cap', m, rfl, h2, h3, h4, h5, h6, h7⟩⟩ := h
  ·exact ⟨none, 0, [], by rw [putE, h1]; rfl, Tab.nil, by rw [putR, h1]; rfl, hb, (fun z h => by cases h), (fun e h => by cases h), (fun z h => by cases h), (fun e h => by cases h)⟩
  ·exact ⟨a', cap', m, by rw [putE, h1]; rfl, h2, by rw [putR, h1]; exact h3, hb, h4, h5, h6, h7⟩
end Go.Proofs.YthbhmnakmhambaaGreatDoor

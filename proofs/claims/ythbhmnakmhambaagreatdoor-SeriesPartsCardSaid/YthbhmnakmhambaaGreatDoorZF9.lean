/- aviarylaw12: One: printed by wip/tools/gen_f8.py. Tables of series in memory. aviarylaw12.Few. -/
import Derived.Test.YthbhmnakmhambaaGreatDoorZF4
namespace Go.Proofs.YthbhmnakmhambaaGreatDoor
open Go Go.RowKit
structure Ser where
 l : List Lab
 sk : Sk
 seen : Int
structure SerP where
 la : Option Addr
 ll : Nat
 lc : Nat
 ss : SS
structure SerP.At (p : SerP) (n₀ : Nat) (w : World) (x : Ser) : Prop where
 l : SlC Lab.enc 2 n₀ w p.la p.ll p.lc x.l
 s : p.ss.At n₀ w x.sk
def serVals (x : Ser) (p : SerP) : List Value := [.slice p.la p.ll p.lc, .int .i64 x.sk.kind, .int .i64 x.sk.level, .slice p.ss.ea p.ss.el p.ss.ec, .int .i64 x.sk.hb, .string x.sk.hr, .int .i64 x.sk.cr, .int .i64 x.sk.cc, .slice p.ss.ca p.ss.cl p.ss.cc, .int .i64 x.sk.gf, .slice p.ss.ga p.ss.gl p.ss.gc, .int .u64 x.seen]
def Ser.cut (x : Ser) : Ser := ⟨(few04 x.l).map (·.1), x.sk.cut, x.seen⟩
theorem und_series : Tryz.prog.underlying 43 = some (.struct (Tryz.prog.fieldsOf 43)) := by kernel_rfl
theorem size_series : (Tryz.prog.info? 43).map (·.size) = some 12 := by kernel_rfl
def sets12 (W : World) (B : Nat) (v0 v1 v2 v3 v4 v5 v6 v7 v8 v9 v10 v11 : Value) : World := ((((((((((((W.setCell ⟨B, 0, none⟩ v0).setCell ⟨B, 1, none⟩ v1).setCell ⟨B, 2, none⟩ v2).setCell ⟨B, 3, none⟩ v3).setCell ⟨B, 4, none⟩ v4).setCell ⟨B, 5, none⟩ v5).setCell ⟨B, 6, none⟩ v6).setCell ⟨B, 7, none⟩ v7).setCell ⟨B, 8, none⟩ v8).setCell ⟨B, 9, none⟩ v9).setCell ⟨B, 10, none⟩ v10).setCell ⟨B, 11, none⟩ v11)
theorem set12 {W : World} {B : Nat} {x0 x1 x2 x3 x4 x5 x6 x7 x8 x9 x10 x11 v0 v1 v2 v3 v4 v5 v6 v7 v8 v9 v10 v11 : Value} {t : TypeId} (h : W.heap[B]? = some (.cells #[x0, x1, x2, x3, x4, x5, x6, x7, x8, x9, x10, x11] t (0, 0))) :
  (sets12 W B v0 v1 v2 v3 v4 v5 v6 v7 v8 v9 v10 v11).heap[B]? = some (.cells #[v0, v1, v2, v3, v4, v5, v6, v7, v8, v9, v10, v11] t (0, 0)) := by
 unfold sets12
 replace h : (W.setCell ⟨B, 0, none⟩ v0).heap[B]? = some (.cells #[v0, x1, x2, x3, x4, x5, x6, x7, x8, x9, x10, x11] t (0, 0)) := hSk h v0
 generalize W.setCell ⟨B, 0, none⟩ v0 = W at h ⊢
 replace h : (W.setCell ⟨B, 1, none⟩ v1).heap[B]? = some (.cells #[v0, v1, x2, x3, x4, x5, x6, x7, x8, x9, x10, x11] t (0, 0)) := hSk h v1
 generalize W.setCell ⟨B, 1, none⟩ v1 = W at h ⊢
 replace h : (W.setCell ⟨B, 2, none⟩ v2).heap[B]? = some (.cells #[v0, v1, v2, x3, x4, x5, x6, x7, x8, x9, x10, x11] t (0, 0)) := hSk h v2
 generalize W.setCell ⟨B, 2, none⟩ v2 = W at h ⊢
 replace h : (W.setCell ⟨B, 3, none⟩ v3).heap[B]? = some (.cells #[v0, v1, v2, v3, x4, x5, x6, x7, x8, x9, x10, x11] t (0, 0)) := hSk h v3
 generalize W.setCell ⟨B, 3, none⟩ v3 = W at h ⊢
 replace h : (W.setCell ⟨B, 4, none⟩ v4).heap[B]? = some (.cells #[v0, v1, v2, v3, v4, x5, x6, x7, x8, x9, x10, x11] t (0, 0)) := hSk h v4
 generalize W.setCell ⟨B, 4, none⟩ v4 = W at h ⊢
 replace h : (W.setCell ⟨B, 5, none⟩ v5).heap[B]? = some (.cells #[v0, v1, v2, v3, v4, v5, x6, x7, x8, x9, x10, x11] t (0, 0)) := hSk h v5
 generalize W.setCell ⟨B, 5, none⟩ v5 = W at h ⊢
 replace h : (W.setCell ⟨B, 6, none⟩ v6).heap[B]? = some (.cells #[v0, v1, v2, v3, v4, v5, v6, x7, x8, x9, x10, x11] t (0, 0)) := hSk h v6
 generalize W.setCell ⟨B, 6, none⟩ v6 = W at h ⊢
 replace h : (W.setCell ⟨B, 7, none⟩ v7).heap[B]? = some (.cells #[v0, v1, v2, v3, v4, v5, v6, v7, x8, x9, x10, x11] t (0, 0)) := hSk h v7
 generalize W.setCell ⟨B, 7, none⟩ v7 = W at h ⊢
 replace h : (W.setCell ⟨B, 8, none⟩ v8).heap[B]? = some (.cells #[v0, v1, v2, v3, v4, v5, v6, v7, v8, x9, x10, x11] t (0, 0)) := hSk h v8
 generalize W.setCell ⟨B, 8, none⟩ v8 = W at h ⊢
 replace h : (W.setCell ⟨B, 9, none⟩ v9).heap[B]? = some (.cells #[v0, v1, v2, v3, v4, v5, v6, v7, v8, v9, x10, x11] t (0, 0)) := hSk h v9
 generalize W.setCell ⟨B, 9, none⟩ v9 = W at h ⊢
 replace h : (W.setCell ⟨B, 10, none⟩ v10).heap[B]? = some (.cells #[v0, v1, v2, v3, v4, v5, v6, v7, v8, v9, v10, x11] t (0, 0)) := hSk h v10
 generalize W.setCell ⟨B, 10, none⟩ v10 = W at h ⊢
 replace h : (W.setCell ⟨B, 11, none⟩ v11).heap[B]? = some (.cells #[v0, v1, v2, v3, v4, v5, v6, v7, v8, v9, v10, v11] t (0, 0)) := hSk h v11
 exact h
theorem below_sets12 {n B : Nat} {w W : World} (h : Below n w W) (hn : n ≤ B) (v0 v1 v2 v3 v4 v5 v6 v7 v8 v9 v10 v11 : Value) : Below n w (sets12 W B v0 v1 v2 v3 v4 v5 v6 v7 v8 v9 v10 v11) :=
 (((((((((((h.setCell (p := ⟨B, 0, none⟩) hn _).setCell (p := ⟨B, 1, none⟩) hn _).setCell (p := ⟨B, 2, none⟩) hn _).setCell (p := ⟨B, 3, none⟩) hn _).setCell (p := ⟨B, 4, none⟩) hn _).setCell (p := ⟨B, 5, none⟩) hn _).setCell (p := ⟨B, 6, none⟩) hn _).setCell (p := ⟨B, 7, none⟩) hn _).setCell (p := ⟨B, 8, none⟩) hn _).setCell (p := ⟨B, 9, none⟩) hn _).setCell (p := ⟨B, 10, none⟩) hn _).setCell (p := ⟨B, 11, none⟩) hn _
theorem sets12_size (W : World) (B : Nat) (v0 v1 v2 v3 v4 v5 v6 v7 v8 v9 v10 v11 : Value) : (sets12 W B v0 v1 v2 v3 v4 v5 v6 v7 v8 v9 v10 v11).heap.size = W.heap.size := by unfold sets12; simp only [World.size_setCell]
theorem SlC.sets12 {α : Type} {enc : α → List Value} {k n₀ B : Nat} {W : World} {a : Option Addr} {len cap : Nat} {l : List α} (hs : SlC enc k n₀ W a len cap l) (hp : ∀ x, a = some x → B ≠ x.block) (v0 v1 v2 v3 v4 v5 v6 v7 v8 v9 v10 v11 : Value) : SlC enc k n₀ (sets12 W B v0 v1 v2 v3 v4 v5 v6 v7 v8 v9 v10 v11) a len cap l :=
 (((((((((((hs.set_far (p := ⟨B, 0, none⟩) hp _).set_far (p := ⟨B, 1, none⟩) hp _).set_far (p := ⟨B, 2, none⟩) hp _).set_far (p := ⟨B, 3, none⟩) hp _).set_far (p := ⟨B, 4, none⟩) hp _).set_far (p := ⟨B, 5, none⟩) hp _).set_far (p := ⟨B, 6, none⟩) hp _).set_far (p := ⟨B, 7, none⟩) hp _).set_far (p := ⟨B, 8, none⟩) hp _).set_far (p := ⟨B, 9, none⟩) hp _).set_far (p := ⟨B, 10, none⟩) hp _).set_far (p := ⟨B, 11, none⟩) hp _
theorem one12_fin {l : List Lab} {k : Sk} {seen : Int} {s : SS} {w W0 w2 w3 : World} {a' : Option Addr} {cap' : Nat} {v0 v1 v2 v3 v4 v5 v6 v7 v8 v9 v10 v11 : Value} (hs : s.At w.heap.size w k) (hsz : w.heap.size + 1 < W0.heap.size)
  (hsl : SlC Lab.enc 2 w2.heap.size w2 a' (few04 l).length cap' ((few04 l).map (·.1))) (hlo : ∀ x, a' = some x → W0.heap.size ≤ x.block) (hB2 : Below w.heap.size w w2) (hb3 : Below w2.heap.size w2 w3) :
  SerP.At ⟨a', (few04 l).length, cap', s.cut⟩ (sets12 w3 (w.heap.size + 1) v0 v1 v2 v3 v4 v5 v6 v7 v8 v9 v10 v11).heap.size (sets12 w3 (w.heap.size + 1) v0 v1 v2 v3 v4 v5 v6 v7 v8 v9 v10 v11) (Ser.cut ⟨l, k, seen⟩) ∧ (∀ z, a' = some z → w.heap.size ≤ z.block) ∧ Below w.heap.size w (sets12 w3 (w.heap.size + 1) v0 v1 v2 v3 v4 v5 v6 v7 v8 v9 v10 v11) := by
 have hB3 : Below w.heap.size w (sets12 w3 (w.heap.size + 1) v0 v1 v2 v3 v4 v5 v6 v7 v8 v9 v10 v11) := below_sets12 (hB2.trans (hb3.mono hB2.size)) (Nat.le_succ _) ..
 refine ⟨⟨?_, (hs.go hB3).cut⟩, fun z hz => by have := hlo z hz; omega, hB3⟩
 rw [sets12_size]
 exact (hsl.go hb3).sets12 (fun x hx => by have := hlo x hx; omega) ..
set_option maxRecDepth 100000 in
set_option maxHeartbeats 4000000 in
theorem one12_any (x : Ser) (p : SerP) (w : World) (h : p.At w.heap.size w x) :
  Calls Tryz.prog 22 #[.agg (serVals x p).toArray] w fun e w' => ∃ p' : SerP, e = .returned (.agg (serVals x.cut p').toArray) ∧ p'.ss = p.ss.cut ∧ p'.At w'.heap.size w' x.cut ∧ (∀ z, p'.la = some z → w.heap.size ≤ z.block) ∧ Below w.heap.size w w' := by
 obtain ⟨l, k, seen⟩ := x
 obtain ⟨la, ll, lc, s⟩ := p
 obtain ⟨hl, hs⟩ := h
 dsimp only at hl hs
 unfold serVals
 dsimp only
 obtain ⟨W0, hW0, hX0, hX1, hB0, hs0⟩ := boxes2 w #[.slice la ll lc, .int .i64 k.kind, .int .i64 k.level, .slice s.ea s.el s.ec, .int .i64 k.hb, .string k.hr, .int .i64 k.cr, .int .i64 k.cc, .slice s.ca s.cl s.cc, .int .i64 k.gf, .slice s.ga s.gl s.gc, .int .u64 seen] 43 #[.slice none 0 0, .int .i64 0, .int .i64 0, .slice none 0 0, .int .i64 0, .string ⟨#[]⟩, .int .i64 0, .int .i64 0, .slice none 0 0, .int .i64 0, .slice none 0 0, .int .u64 0] 43
 obtain ⟨c0, c1, c2, c3, c4, c5, c6, c7, c8, c9, c10, c11⟩ := cl12 hX0
 have hE : SlE Lab.enc 2 W0.drew.heap.size W0.drew la ll l := (hl.1.go hB0).drew
 have hS0 : s.At W0.heap.size W0 k := hs.go hB0
 have hz0 : w.heap.size + 1 < W0.drew.heap.size := by show _ < W0.heap.size; omega
 have hY0 : W0.drew.heap[w.heap.size]? = _ := hX0
 have hY1 : W0.drew.heap[w.heap.size + 1]? = _ := hX1
 have hBd : Below w.heap.size w W0.drew := hB0.drew
 have HS := Lib.hid hs
 clear hX0 hX1 hs0 hl hs
 go_enter Tryz.func22, Tryz.ntmps22
 go_wp2_with fail
 refine wp_region_any (by kernel_rfl) ?_
 change wpAny _ _ _ _ _ _ _ (World.drew _)
 refine tk 0 (v := ?_) rfl ?_ ?_
 rotate_left
 ·intro w; go_simp; with_reducible rfl
 refine tk 3 (v := ?_) rfl ?_ ?_
 rotate_left
 ·intro w; go_simp; with_reducible rfl
 refine tk 6 (v := ?_) rfl ?_ ?_
 rotate_left
 ·intro w; go_simp; with_reducible rfl
 refine wpAny_ready (rs := [1, 4, 7]) (by kernel_rfl) (by simp) ?_
 refine AllReady.cons rfl (fun K hK => ?_) ?_
 ·go_simp
  refine hK _ _ ?_
  clear hK K
  refine wpAny_ready (rs := [2, 4, 7]) (by kernel_rfl) (by simp) ?_
  refine AllReady.cons rfl (fun K hK => ?_) ?_
  ·go_simp
   refine (few04_any l la ll lc _ hE).mono ?_
   rintro e w2 ⟨a', cap', rfl, hsl, hlo, hb2⟩
   have hU0 := (hb2.block w.heap.size (by omega)).trans hY0
   have hU1 := (hb2.block (w.heap.size + 1) (by omega)).trans hY1
   obtain ⟨r0, r1, r2, r3, r4, r5, r6, r7, r8, r9, r10, r11⟩ := cl12 hU0
   have hS2 : s.At w2.heap.size w2 k := (hS0.go ((Below.refl _ W0).drew)).go hb2
   have hz2 := hb2.size
   have hBw2 : Below w.heap.size w w2 := hBd.trans (hb2.mono (by omega))
   refine hK _ _ ?_
   clear hK K
   refine wpAny_ready (rs := [4, 7]) (by kernel_rfl) (by simp) ?_
   refine AllReady.cons rfl (fun K hK => ?_) ?_
   ·go_simp
    refine hK _ _ ?_
    clear hK K
    refine wpAny_ready (rs := [5, 7]) (by kernel_rfl) (by simp) ?_
    refine AllReady.cons rfl (fun K hK => ?_) ?_
    ·go_simp
     refine (few10_any k s w2 hS2).mono ?_
     rintro e w3 ⟨rfl, hb3⟩
     unfold skVal
     have hV0 := (hb3.block w.heap.size (by omega)).trans hU0
     have hV1 := (hb3.block (w.heap.size + 1) (by omega)).trans hU1
     obtain ⟨t0, t1, t2, t3, t4, t5, t6, t7, t8, t9, t10, t11⟩ := cl12 hV0
     obtain ⟨d0, d1, d2, d3, d4, d5, d6, d7, d8, d9, d10, d11⟩ := cl12 hV1
     obtain ⟨f0, f1, f2, f3, f4, f5, f6, f7, f8, f9, f10, f11⟩ := cz12 hV1
     refine hK _ _ ?_
     clear hK K
     refine wpAny_ready (rs := [7]) (by kernel_rfl) (by simp) ?_
     refine AllReady.cons rfl (fun K hK => ?_) ?_
     ·go_simp
      refine hK _ _ ?_
      clear hK K
      refine tk 8 (v := ?_) rfl ?_ ?_
      rotate_left
      ·intro w; go_simp; with_reducible rfl
      refine wpAny_ready (rs := [9]) (by kernel_rfl) (by simp) ?_
      refine AllReady.cons rfl (fun K hK => ?_) ?_
      ·go_simp
       refine hK _ _ ?_
       clear hK K
       refine wpAny_done (by kernel_rfl) ?_ _
       clear hY0 hY1 hU0 hU1 hV0 hb2 c0 c1 c2 c3 c4 c5 c6 c7 c8 c9 c10 c11 hE hS0 hS2 hBd
       go_wp2_with fail
       refine bodyPost_ret (results_cell_row rfl _ _ (w.heap.size + 1) 43 _ (0, 0) _ rfl (set12 hV1) und_series rfl size_series) rfl ?_
       exact ⟨⟨a', _, cap', s.cut⟩, rfl, rfl, one12_fin HS.out hz0 hsl hlo hBw2 hb3⟩
      exact AllReady.nil
     exact AllReady.nil
    refine AllReady.cons rfl (fun K hK => ?_) ?_
    ·go_simp
     refine hK _ _ ?_
     clear hK K
     refine wpAny_ready (rs := [5]) (by kernel_rfl) (by simp) ?_
     refine AllReady.cons rfl (fun K hK => ?_) ?_
     ·go_simp
      refine (few10_any k s w2 hS2).mono ?_
      rintro e w3 ⟨rfl, hb3⟩
      unfold skVal
      have hV0 := (hb3.block w.heap.size (by omega)).trans hU0
      have hV1 := (hb3.block (w.heap.size + 1) (by omega)).trans hU1
      obtain ⟨t0, t1, t2, t3, t4, t5, t6, t7, t8, t9, t10, t11⟩ := cl12 hV0
      obtain ⟨d0, d1, d2, d3, d4, d5, d6, d7, d8, d9, d10, d11⟩ := cl12 hV1
      obtain ⟨f0, f1, f2, f3, f4, f5, f6, f7, f8, f9, f10, f11⟩ := cz12 hV1
      refine hK _ _ ?_
      clear hK K
      refine tk 8 (v := ?_) rfl ?_ ?_
      rotate_left
      ·intro w; go_simp; with_reducible rfl
      refine wpAny_ready (rs := [9]) (by kernel_rfl) (by simp) ?_
      refine AllReady.cons rfl (fun K hK => ?_) ?_
      ·go_simp
       refine hK _ _ ?_
       clear hK K
       refine wpAny_done (by kernel_rfl) ?_ _
       clear hY0 hY1 hU0 hU1 hV0 hb2 c0 c1 c2 c3 c4 c5 c6 c7 c8 c9 c10 c11 hE hS0 hS2 hBd
       go_wp2_with fail
       refine bodyPost_ret (results_cell_row rfl _ _ (w.heap.size + 1) 43 _ (0, 0) _ rfl (set12 hV1) und_series rfl size_series) rfl ?_
       exact ⟨⟨a', _, cap', s.cut⟩, rfl, rfl, one12_fin HS.out hz0 hsl hlo hBw2 hb3⟩
      exact AllReady.nil
     exact AllReady.nil
    exact AllReady.nil
   refine AllReady.cons rfl (fun K hK => ?_) ?_
   ·go_simp
    refine hK _ _ ?_
    clear hK K
    refine wpAny_ready (rs := [4]) (by kernel_rfl) (by simp) ?_
    refine AllReady.cons rfl (fun K hK => ?_) ?_
    ·go_simp
     refine hK _ _ ?_
     clear hK K
     refine wpAny_ready (rs := [5]) (by kernel_rfl) (by simp) ?_
     refine AllReady.cons rfl (fun K hK => ?_) ?_
     ·go_simp
      refine (few10_any k s w2 hS2).mono ?_
      rintro e w3 ⟨rfl, hb3⟩
      unfold skVal
      have hV0 := (hb3.block w.heap.size (by omega)).trans hU0
      have hV1 := (hb3.block (w.heap.size + 1) (by omega)).trans hU1
      obtain ⟨t0, t1, t2, t3, t4, t5, t6, t7, t8, t9, t10, t11⟩ := cl12 hV0
      obtain ⟨d0, d1, d2, d3, d4, d5, d6, d7, d8, d9, d10, d11⟩ := cl12 hV1
      obtain ⟨f0, f1, f2, f3, f4, f5, f6, f7, f8, f9, f10, f11⟩ := cz12 hV1
      refine hK _ _ ?_
      clear hK K
      refine tk 8 (v := ?_) rfl ?_ ?_
      rotate_left
      ·intro w; go_simp; with_reducible rfl
      refine wpAny_ready (rs := [9]) (by kernel_rfl) (by simp) ?_
      refine AllReady.cons rfl (fun K hK => ?_) ?_
      ·go_simp
       refine hK _ _ ?_
       clear hK K
       refine wpAny_done (by kernel_rfl) ?_ _
       clear hY0 hY1 hU0 hU1 hV0 hb2 c0 c1 c2 c3 c4 c5 c6 c7 c8 c9 c10 c11 hE hS0 hS2 hBd
       go_wp2_with fail
       refine bodyPost_ret (results_cell_row rfl _ _ (w.heap.size + 1) 43 _ (0, 0) _ rfl (set12 hV1) und_series rfl size_series) rfl ?_
       exact ⟨⟨a', _, cap', s.cut⟩, rfl, rfl, one12_fin HS.out hz0 hsl hlo hBw2 hb3⟩
      exact AllReady.nil
     exact AllReady.nil
    exact AllReady.nil
   exact AllReady.nil
  refine AllReady.cons rfl (fun K hK => ?_) ?_
  ·go_simp
   refine hK _ _ ?_
   clear hK K
   refine wpAny_ready (rs := [2, 7]) (by kernel_rfl) (by simp) ?_
   refine AllReady.cons rfl (fun K hK => ?_) ?_
   ·go_simp
    refine (few04_any l la ll lc _ hE).mono ?_
    rintro e w2 ⟨a', cap', rfl, hsl, hlo, hb2⟩
    have hU0 := (hb2.block w.heap.size (by omega)).trans hY0
    have hU1 := (hb2.block (w.heap.size + 1) (by omega)).trans hY1
    obtain ⟨r0, r1, r2, r3, r4, r5, r6, r7, r8, r9, r10, r11⟩ := cl12 hU0
    have hS2 : s.At w2.heap.size w2 k := (hS0.go ((Below.refl _ W0).drew)).go hb2
    have hz2 := hb2.size
    have hBw2 : Below w.heap.size w w2 := hBd.trans (hb2.mono (by omega))
    refine hK _ _ ?_
    clear hK K
    refine wpAny_ready (rs := [5, 7]) (by kernel_rfl) (by simp) ?_
    refine AllReady.cons rfl (fun K hK => ?_) ?_
    ·go_simp
     refine (few10_any k s w2 hS2).mono ?_
     rintro e w3 ⟨rfl, hb3⟩
     unfold skVal
     have hV0 := (hb3.block w.heap.size (by omega)).trans hU0
     have hV1 := (hb3.block (w.heap.size + 1) (by omega)).trans hU1
     obtain ⟨t0, t1, t2, t3, t4, t5, t6, t7, t8, t9, t10, t11⟩ := cl12 hV0
     obtain ⟨d0, d1, d2, d3, d4, d5, d6, d7, d8, d9, d10, d11⟩ := cl12 hV1
     obtain ⟨f0, f1, f2, f3, f4, f5, f6, f7, f8, f9, f10, f11⟩ := cz12 hV1
     refine hK _ _ ?_
     clear hK K
     refine wpAny_ready (rs := [7]) (by kernel_rfl) (by simp) ?_
     refine AllReady.cons rfl (fun K hK => ?_) ?_
     ·go_simp
      refine hK _ _ ?_
      clear hK K
      refine tk 8 (v := ?_) rfl ?_ ?_
      rotate_left
      ·intro w; go_simp; with_reducible rfl
      refine wpAny_ready (rs := [9]) (by kernel_rfl) (by simp) ?_
      refine AllReady.cons rfl (fun K hK => ?_) ?_
      ·go_simp
       refine hK _ _ ?_
       clear hK K
       refine wpAny_done (by kernel_rfl) ?_ _
       clear hY0 hY1 hU0 hU1 hV0 hb2 c0 c1 c2 c3 c4 c5 c6 c7 c8 c9 c10 c11 hE hS0 hS2 hBd
       go_wp2_with fail
       refine bodyPost_ret (results_cell_row rfl _ _ (w.heap.size + 1) 43 _ (0, 0) _ rfl (set12 hV1) und_series rfl size_series) rfl ?_
       exact ⟨⟨a', _, cap', s.cut⟩, rfl, rfl, one12_fin HS.out hz0 hsl hlo hBw2 hb3⟩
      exact AllReady.nil
     exact AllReady.nil
    refine AllReady.cons rfl (fun K hK => ?_) ?_
    ·go_simp
     refine hK _ _ ?_
     clear hK K
     refine wpAny_ready (rs := [5]) (by kernel_rfl) (by simp) ?_
     refine AllReady.cons rfl (fun K hK => ?_) ?_
     ·go_simp
      refine (few10_any k s w2 hS2).mono ?_
      rintro e w3 ⟨rfl, hb3⟩
      unfold skVal
      have hV0 := (hb3.block w.heap.size (by omega)).trans hU0
      have hV1 := (hb3.block (w.heap.size + 1) (by omega)).trans hU1
      obtain ⟨t0, t1, t2, t3, t4, t5, t6, t7, t8, t9, t10, t11⟩ := cl12 hV0
      obtain ⟨d0, d1, d2, d3, d4, d5, d6, d7, d8, d9, d10, d11⟩ := cl12 hV1
      obtain ⟨f0, f1, f2, f3, f4, f5, f6, f7, f8, f9, f10, f11⟩ := cz12 hV1
      refine hK _ _ ?_
      clear hK K
      refine tk 8 (v := ?_) rfl ?_ ?_
      rotate_left
      ·intro w; go_simp; with_reducible rfl
      refine wpAny_ready (rs := [9]) (by kernel_rfl) (by simp) ?_
      refine AllReady.cons rfl (fun K hK => ?_) ?_
      ·go_simp
       refine hK _ _ ?_
       clear hK K
       refine wpAny_done (by kernel_rfl) ?_ _
       clear hY0 hY1 hU0 hU1 hV0 hb2 c0 c1 c2 c3 c4 c5 c6 c7 c8 c9 c10 c11 hE hS0 hS2 hBd
       go_wp2_with fail
       refine bodyPost_ret (results_cell_row rfl _ _ (w.heap.size + 1) 43 _ (0, 0) _ rfl (set12 hV1) und_series rfl size_series) rfl ?_
       exact ⟨⟨a', _, cap', s.cut⟩, rfl, rfl, one12_fin HS.out hz0 hsl hlo hBw2 hb3⟩
      exact AllReady.nil
     exact AllReady.nil
    exact AllReady.nil
   refine AllReady.cons rfl (fun K hK => ?_) ?_
   ·go_simp
    refine hK _ _ ?_
    clear hK K
    refine wpAny_ready (rs := [2]) (by kernel_rfl) (by simp) ?_
    refine AllReady.cons rfl (fun K hK => ?_) ?_
    ·go_simp
     refine (few04_any l la ll lc _ hE).mono ?_
     rintro e w2 ⟨a', cap', rfl, hsl, hlo, hb2⟩
     have hU0 := (hb2.block w.heap.size (by omega)).trans hY0
     have hU1 := (hb2.block (w.heap.size + 1) (by omega)).trans hY1
     obtain ⟨r0, r1, r2, r3, r4, r5, r6, r7, r8, r9, r10, r11⟩ := cl12 hU0
     have hS2 : s.At w2.heap.size w2 k := (hS0.go ((Below.refl _ W0).drew)).go hb2
     have hz2 := hb2.size
     have hBw2 : Below w.heap.size w w2 := hBd.trans (hb2.mono (by omega))
     refine hK _ _ ?_
     clear hK K
     refine wpAny_ready (rs := [5]) (by kernel_rfl) (by simp) ?_
     refine AllReady.cons rfl (fun K hK => ?_) ?_
     ·go_simp
      refine (few10_any k s w2 hS2).mono ?_
      rintro e w3 ⟨rfl, hb3⟩
      unfold skVal
      have hV0 := (hb3.block w.heap.size (by omega)).trans hU0
      have hV1 := (hb3.block (w.heap.size + 1) (by omega)).trans hU1
      obtain ⟨t0, t1, t2, t3, t4, t5, t6, t7, t8, t9, t10, t11⟩ := cl12 hV0
      obtain ⟨d0, d1, d2, d3, d4, d5, d6, d7, d8, d9, d10, d11⟩ := cl12 hV1
      obtain ⟨f0, f1, f2, f3, f4, f5, f6, f7, f8, f9, f10, f11⟩ := cz12 hV1
      refine hK _ _ ?_
      clear hK K
      refine tk 8 (v := ?_) rfl ?_ ?_
      rotate_left
      ·intro w; go_simp; with_reducible rfl
      refine wpAny_ready (rs := [9]) (by kernel_rfl) (by simp) ?_
      refine AllReady.cons rfl (fun K hK => ?_) ?_
      ·go_simp
       refine hK _ _ ?_
       clear hK K
       refine wpAny_done (by kernel_rfl) ?_ _
       clear hY0 hY1 hU0 hU1 hV0 hb2 c0 c1 c2 c3 c4 c5 c6 c7 c8 c9 c10 c11 hE hS0 hS2 hBd
       go_wp2_with fail
       refine bodyPost_ret (results_cell_row rfl _ _ (w.heap.size + 1) 43 _ (0, 0) _ rfl (set12 hV1) und_series rfl size_series) rfl ?_
       exact ⟨⟨a', _, cap', s.cut⟩, rfl, rfl, one12_fin HS.out hz0 hsl hlo hBw2 hb3⟩
      exact AllReady.nil
     exact AllReady.nil
    exact AllReady.nil
   exact AllReady.nil
  refine AllReady.cons rfl (fun K hK => ?_) ?_
  ·go_simp
   refine hK _ _ ?_
   clear hK K
   refine wpAny_ready (rs := [2, 4]) (by kernel_rfl) (by simp) ?_
   refine AllReady.cons rfl (fun K hK => ?_) ?_
   ·go_simp
    refine (few04_any l la ll lc _ hE).mono ?_
    rintro e w2 ⟨a', cap', rfl, hsl, hlo, hb2⟩
    have hU0 := (hb2.block w.heap.size (by omega)).trans hY0
    have hU1 := (hb2.block (w.heap.size + 1) (by omega)).trans hY1
    obtain ⟨r0, r1, r2, r3, r4, r5, r6, r7, r8, r9, r10, r11⟩ := cl12 hU0
    have hS2 : s.At w2.heap.size w2 k := (hS0.go ((Below.refl _ W0).drew)).go hb2
    have hz2 := hb2.size
    have hBw2 : Below w.heap.size w w2 := hBd.trans (hb2.mono (by omega))
    refine hK _ _ ?_
    clear hK K
    refine wpAny_ready (rs := [4]) (by kernel_rfl) (by simp) ?_
    refine AllReady.cons rfl (fun K hK => ?_) ?_
    ·go_simp
     refine hK _ _ ?_
     clear hK K
     refine wpAny_ready (rs := [5]) (by kernel_rfl) (by simp) ?_
     refine AllReady.cons rfl (fun K hK => ?_) ?_
     ·go_simp
      refine (few10_any k s w2 hS2).mono ?_
      rintro e w3 ⟨rfl, hb3⟩
      unfold skVal
      have hV0 := (hb3.block w.heap.size (by omega)).trans hU0
      have hV1 := (hb3.block (w.heap.size + 1) (by omega)).trans hU1
      obtain ⟨t0, t1, t2, t3, t4, t5, t6, t7, t8, t9, t10, t11⟩ := cl12 hV0
      obtain ⟨d0, d1, d2, d3, d4, d5, d6, d7, d8, d9, d10, d11⟩ := cl12 hV1
      obtain ⟨f0, f1, f2, f3, f4, f5, f6, f7, f8, f9, f10, f11⟩ := cz12 hV1
      refine hK _ _ ?_
      clear hK K
      refine tk 8 (v := ?_) rfl ?_ ?_
      rotate_left
      ·intro w; go_simp; with_reducible rfl
      refine wpAny_ready (rs := [9]) (by kernel_rfl) (by simp) ?_
      refine AllReady.cons rfl (fun K hK => ?_) ?_
      ·go_simp
       refine hK _ _ ?_
       clear hK K
       refine wpAny_done (by kernel_rfl) ?_ _
       clear hY0 hY1 hU0 hU1 hV0 hb2 c0 c1 c2 c3 c4 c5 c6 c7 c8 c9 c10 c11 hE hS0 hS2 hBd
       go_wp2_with fail
       refine bodyPost_ret (results_cell_row rfl _ _ (w.heap.size + 1) 43 _ (0, 0) _ rfl (set12 hV1) und_series rfl size_series) rfl ?_
       exact ⟨⟨a', _, cap', s.cut⟩, rfl, rfl, one12_fin HS.out hz0 hsl hlo hBw2 hb3⟩
      exact AllReady.nil
     exact AllReady.nil
    exact AllReady.nil
   refine AllReady.cons rfl (fun K hK => ?_) ?_
   ·go_simp
    refine hK _ _ ?_
    clear hK K
    refine wpAny_ready (rs := [2]) (by kernel_rfl) (by simp) ?_
    refine AllReady.cons rfl (fun K hK => ?_) ?_
    ·go_simp
     refine (few04_any l la ll lc _ hE).mono ?_
     rintro e w2 ⟨a', cap', rfl, hsl, hlo, hb2⟩
     have hU0 := (hb2.block w.heap.size (by omega)).trans hY0
     have hU1 := (hb2.block (w.heap.size + 1) (by omega)).trans hY1
     obtain ⟨r0, r1, r2, r3, r4, r5, r6, r7, r8, r9, r10, r11⟩ := cl12 hU0
     have hS2 : s.At w2.heap.size w2 k := (hS0.go ((Below.refl _ W0).drew)).go hb2
     have hz2 := hb2.size
     have hBw2 : Below w.heap.size w w2 := hBd.trans (hb2.mono (by omega))
     refine hK _ _ ?_
     clear hK K
     refine wpAny_ready (rs := [5]) (by kernel_rfl) (by simp) ?_
     refine AllReady.cons rfl (fun K hK => ?_) ?_
     ·go_simp
      refine (few10_any k s w2 hS2).mono ?_
      rintro e w3 ⟨rfl, hb3⟩
      unfold skVal
      have hV0 := (hb3.block w.heap.size (by omega)).trans hU0
      have hV1 := (hb3.block (w.heap.size + 1) (by omega)).trans hU1
      obtain ⟨t0, t1, t2, t3, t4, t5, t6, t7, t8, t9, t10, t11⟩ := cl12 hV0
      obtain ⟨d0, d1, d2, d3, d4, d5, d6, d7, d8, d9, d10, d11⟩ := cl12 hV1
      obtain ⟨f0, f1, f2, f3, f4, f5, f6, f7, f8, f9, f10, f11⟩ := cz12 hV1
      refine hK _ _ ?_
      clear hK K
      refine tk 8 (v := ?_) rfl ?_ ?_
      rotate_left
      ·intro w; go_simp; with_reducible rfl
      refine wpAny_ready (rs := [9]) (by kernel_rfl) (by simp) ?_
      refine AllReady.cons rfl (fun K hK => ?_) ?_
      ·go_simp
       refine hK _ _ ?_
       clear hK K
       refine wpAny_done (by kernel_rfl) ?_ _
       clear hY0 hY1 hU0 hU1 hV0 hb2 c0 c1 c2 c3 c4 c5 c6 c7 c8 c9 c10 c11 hE hS0 hS2 hBd
       go_wp2_with fail
       refine bodyPost_ret (results_cell_row rfl _ _ (w.heap.size + 1) 43 _ (0, 0) _ rfl (set12 hV1) und_series rfl size_series) rfl ?_
       exact ⟨⟨a', _, cap', s.cut⟩, rfl, rfl, one12_fin HS.out hz0 hsl hlo hBw2 hb3⟩
      exact AllReady.nil
     exact AllReady.nil
    exact AllReady.nil
   exact AllReady.nil
  exact AllReady.nil
 refine AllReady.cons rfl (fun K hK => ?_) ?_
 ·go_simp
  refine hK _ _ ?_
  clear hK K
  refine wpAny_ready (rs := [1, 7]) (by kernel_rfl) (by simp) ?_
  refine AllReady.cons rfl (fun K hK => ?_) ?_
  ·go_simp
   refine hK _ _ ?_
   clear hK K
   refine wpAny_ready (rs := [2, 7]) (by kernel_rfl) (by simp) ?_
   refine AllReady.cons rfl (fun K hK => ?_) ?_
   ·go_simp
    refine (few04_any l la ll lc _ hE).mono ?_
    rintro e w2 ⟨a', cap', rfl, hsl, hlo, hb2⟩
    have hU0 := (hb2.block w.heap.size (by omega)).trans hY0
    have hU1 := (hb2.block (w.heap.size + 1) (by omega)).trans hY1
    obtain ⟨r0, r1, r2, r3, r4, r5, r6, r7, r8, r9, r10, r11⟩ := cl12 hU0
    have hS2 : s.At w2.heap.size w2 k := (hS0.go ((Below.refl _ W0).drew)).go hb2
    have hz2 := hb2.size
    have hBw2 : Below w.heap.size w w2 := hBd.trans (hb2.mono (by omega))
    refine hK _ _ ?_
    clear hK K
    refine wpAny_ready (rs := [5, 7]) (by kernel_rfl) (by simp) ?_
    refine AllReady.cons rfl (fun K hK => ?_) ?_
    ·go_simp
     refine (few10_any k s w2 hS2).mono ?_
     rintro e w3 ⟨rfl, hb3⟩
     unfold skVal
     have hV0 := (hb3.block w.heap.size (by omega)).trans hU0
     have hV1 := (hb3.block (w.heap.size + 1) (by omega)).trans hU1
     obtain ⟨t0, t1, t2, t3, t4, t5, t6, t7, t8, t9, t10, t11⟩ := cl12 hV0
     obtain ⟨d0, d1, d2, d3, d4, d5, d6, d7, d8, d9, d10, d11⟩ := cl12 hV1
     obtain ⟨f0, f1, f2, f3, f4, f5, f6, f7, f8, f9, f10, f11⟩ := cz12 hV1
     refine hK _ _ ?_
     clear hK K
     refine wpAny_ready (rs := [7]) (by kernel_rfl) (by simp) ?_
     refine AllReady.cons rfl (fun K hK => ?_) ?_
     ·go_simp
      refine hK _ _ ?_
      clear hK K
      refine tk 8 (v := ?_) rfl ?_ ?_
      rotate_left
      ·intro w; go_simp; with_reducible rfl
      refine wpAny_ready (rs := [9]) (by kernel_rfl) (by simp) ?_
      refine AllReady.cons rfl (fun K hK => ?_) ?_
      ·go_simp
       refine hK _ _ ?_
       clear hK K
       refine wpAny_done (by kernel_rfl) ?_ _
       clear hY0 hY1 hU0 hU1 hV0 hb2 c0 c1 c2 c3 c4 c5 c6 c7 c8 c9 c10 c11 hE hS0 hS2 hBd
       go_wp2_with fail
       refine bodyPost_ret (results_cell_row rfl _ _ (w.heap.size + 1) 43 _ (0, 0) _ rfl (set12 hV1) und_series rfl size_series) rfl ?_
       exact ⟨⟨a', _, cap', s.cut⟩, rfl, rfl, one12_fin HS.out hz0 hsl hlo hBw2 hb3⟩
      exact AllReady.nil
     exact AllReady.nil
    refine AllReady.cons rfl (fun K hK => ?_) ?_
    ·go_simp
     refine hK _ _ ?_
     clear hK K
     refine wpAny_ready (rs := [5]) (by kernel_rfl) (by simp) ?_
     refine AllReady.cons rfl (fun K hK => ?_) ?_
     ·go_simp
      refine (few10_any k s w2 hS2).mono ?_
      rintro e w3 ⟨rfl, hb3⟩
      unfold skVal
      have hV0 := (hb3.block w.heap.size (by omega)).trans hU0
      have hV1 := (hb3.block (w.heap.size + 1) (by omega)).trans hU1
      obtain ⟨t0, t1, t2, t3, t4, t5, t6, t7, t8, t9, t10, t11⟩ := cl12 hV0
      obtain ⟨d0, d1, d2, d3, d4, d5, d6, d7, d8, d9, d10, d11⟩ := cl12 hV1
      obtain ⟨f0, f1, f2, f3, f4, f5, f6, f7, f8, f9, f10, f11⟩ := cz12 hV1
      refine hK _ _ ?_
      clear hK K
      refine tk 8 (v := ?_) rfl ?_ ?_
      rotate_left
      ·intro w; go_simp; with_reducible rfl
      refine wpAny_ready (rs := [9]) (by kernel_rfl) (by simp) ?_
      refine AllReady.cons rfl (fun K hK => ?_) ?_
      ·go_simp
       refine hK _ _ ?_
       clear hK K
       refine wpAny_done (by kernel_rfl) ?_ _
       clear hY0 hY1 hU0 hU1 hV0 hb2 c0 c1 c2 c3 c4 c5 c6 c7 c8 c9 c10 c11 hE hS0 hS2 hBd
       go_wp2_with fail
       refine bodyPost_ret (results_cell_row rfl _ _ (w.heap.size + 1) 43 _ (0, 0) _ rfl (set12 hV1) und_series rfl size_series) rfl ?_
       exact ⟨⟨a', _, cap', s.cut⟩, rfl, rfl, one12_fin HS.out hz0 hsl hlo hBw2 hb3⟩
      exact AllReady.nil
     exact AllReady.nil
    exact AllReady.nil
   refine AllReady.cons rfl (fun K hK => ?_) ?_
   ·go_simp
    refine hK _ _ ?_
    clear hK K
    refine wpAny_ready (rs := [2]) (by kernel_rfl) (by simp) ?_
    refine AllReady.cons rfl (fun K hK => ?_) ?_
    ·go_simp
     refine (few04_any l la ll lc _ hE).mono ?_
     rintro e w2 ⟨a', cap', rfl, hsl, hlo, hb2⟩
     have hU0 := (hb2.block w.heap.size (by omega)).trans hY0
     have hU1 := (hb2.block (w.heap.size + 1) (by omega)).trans hY1
     obtain ⟨r0, r1, r2, r3, r4, r5, r6, r7, r8, r9, r10, r11⟩ := cl12 hU0
     have hS2 : s.At w2.heap.size w2 k := (hS0.go ((Below.refl _ W0).drew)).go hb2
     have hz2 := hb2.size
     have hBw2 : Below w.heap.size w w2 := hBd.trans (hb2.mono (by omega))
     refine hK _ _ ?_
     clear hK K
     refine wpAny_ready (rs := [5]) (by kernel_rfl) (by simp) ?_
     refine AllReady.cons rfl (fun K hK => ?_) ?_
     ·go_simp
      refine (few10_any k s w2 hS2).mono ?_
      rintro e w3 ⟨rfl, hb3⟩
      unfold skVal
      have hV0 := (hb3.block w.heap.size (by omega)).trans hU0
      have hV1 := (hb3.block (w.heap.size + 1) (by omega)).trans hU1
      obtain ⟨t0, t1, t2, t3, t4, t5, t6, t7, t8, t9, t10, t11⟩ := cl12 hV0
      obtain ⟨d0, d1, d2, d3, d4, d5, d6, d7, d8, d9, d10, d11⟩ := cl12 hV1
      obtain ⟨f0, f1, f2, f3, f4, f5, f6, f7, f8, f9, f10, f11⟩ := cz12 hV1
      refine hK _ _ ?_
      clear hK K
      refine tk 8 (v := ?_) rfl ?_ ?_
      rotate_left
      ·intro w; go_simp; with_reducible rfl
      refine wpAny_ready (rs := [9]) (by kernel_rfl) (by simp) ?_
      refine AllReady.cons rfl (fun K hK => ?_) ?_
      ·go_simp
       refine hK _ _ ?_
       clear hK K
       refine wpAny_done (by kernel_rfl) ?_ _
       clear hY0 hY1 hU0 hU1 hV0 hb2 c0 c1 c2 c3 c4 c5 c6 c7 c8 c9 c10 c11 hE hS0 hS2 hBd
       go_wp2_with fail
       refine bodyPost_ret (results_cell_row rfl _ _ (w.heap.size + 1) 43 _ (0, 0) _ rfl (set12 hV1) und_series rfl size_series) rfl ?_
       exact ⟨⟨a', _, cap', s.cut⟩, rfl, rfl, one12_fin HS.out hz0 hsl hlo hBw2 hb3⟩
      exact AllReady.nil
     exact AllReady.nil
    exact AllReady.nil
   exact AllReady.nil
  refine AllReady.cons rfl (fun K hK => ?_) ?_
  ·go_simp
   refine hK _ _ ?_
   clear hK K
   refine wpAny_ready (rs := [1]) (by kernel_rfl) (by simp) ?_
   refine AllReady.cons rfl (fun K hK => ?_) ?_
   ·go_simp
    refine hK _ _ ?_
    clear hK K
    refine wpAny_ready (rs := [2]) (by kernel_rfl) (by simp) ?_
    refine AllReady.cons rfl (fun K hK => ?_) ?_
    ·go_simp
     refine (few04_any l la ll lc _ hE).mono ?_
     rintro e w2 ⟨a', cap', rfl, hsl, hlo, hb2⟩
     have hU0 := (hb2.block w.heap.size (by omega)).trans hY0
     have hU1 := (hb2.block (w.heap.size + 1) (by omega)).trans hY1
     obtain ⟨r0, r1, r2, r3, r4, r5, r6, r7, r8, r9, r10, r11⟩ := cl12 hU0
     have hS2 : s.At w2.heap.size w2 k := (hS0.go ((Below.refl _ W0).drew)).go hb2
     have hz2 := hb2.size
     have hBw2 : Below w.heap.size w w2 := hBd.trans (hb2.mono (by omega))
     refine hK _ _ ?_
     clear hK K
     refine wpAny_ready (rs := [5]) (by kernel_rfl) (by simp) ?_
     refine AllReady.cons rfl (fun K hK => ?_) ?_
     ·go_simp
      refine (few10_any k s w2 hS2).mono ?_
      rintro e w3 ⟨rfl, hb3⟩
      unfold skVal
      have hV0 := (hb3.block w.heap.size (by omega)).trans hU0
      have hV1 := (hb3.block (w.heap.size + 1) (by omega)).trans hU1
      obtain ⟨t0, t1, t2, t3, t4, t5, t6, t7, t8, t9, t10, t11⟩ := cl12 hV0
      obtain ⟨d0, d1, d2, d3, d4, d5, d6, d7, d8, d9, d10, d11⟩ := cl12 hV1
      obtain ⟨f0, f1, f2, f3, f4, f5, f6, f7, f8, f9, f10, f11⟩ := cz12 hV1
      refine hK _ _ ?_
      clear hK K
      refine tk 8 (v := ?_) rfl ?_ ?_
      rotate_left
      ·intro w; go_simp; with_reducible rfl
      refine wpAny_ready (rs := [9]) (by kernel_rfl) (by simp) ?_
      refine AllReady.cons rfl (fun K hK => ?_) ?_
      ·go_simp
       refine hK _ _ ?_
       clear hK K
       refine wpAny_done (by kernel_rfl) ?_ _
       clear hY0 hY1 hU0 hU1 hV0 hb2 c0 c1 c2 c3 c4 c5 c6 c7 c8 c9 c10 c11 hE hS0 hS2 hBd
       go_wp2_with fail
       refine bodyPost_ret (results_cell_row rfl _ _ (w.heap.size + 1) 43 _ (0, 0) _ rfl (set12 hV1) und_series rfl size_series) rfl ?_
       exact ⟨⟨a', _, cap', s.cut⟩, rfl, rfl, one12_fin HS.out hz0 hsl hlo hBw2 hb3⟩
      exact AllReady.nil
     exact AllReady.nil
    exact AllReady.nil
   exact AllReady.nil
  exact AllReady.nil
 refine AllReady.cons rfl (fun K hK => ?_) ?_
 ·go_simp
  refine hK _ _ ?_
  clear hK K
  refine wpAny_ready (rs := [1, 4]) (by kernel_rfl) (by simp) ?_
  refine AllReady.cons rfl (fun K hK => ?_) ?_
  ·go_simp
   refine hK _ _ ?_
   clear hK K
   refine wpAny_ready (rs := [2, 4]) (by kernel_rfl) (by simp) ?_
   refine AllReady.cons rfl (fun K hK => ?_) ?_
   ·go_simp
    refine (few04_any l la ll lc _ hE).mono ?_
    rintro e w2 ⟨a', cap', rfl, hsl, hlo, hb2⟩
    have hU0 := (hb2.block w.heap.size (by omega)).trans hY0
    have hU1 := (hb2.block (w.heap.size + 1) (by omega)).trans hY1
    obtain ⟨r0, r1, r2, r3, r4, r5, r6, r7, r8, r9, r10, r11⟩ := cl12 hU0
    have hS2 : s.At w2.heap.size w2 k := (hS0.go ((Below.refl _ W0).drew)).go hb2
    have hz2 := hb2.size
    have hBw2 : Below w.heap.size w w2 := hBd.trans (hb2.mono (by omega))
    refine hK _ _ ?_
    clear hK K
    refine wpAny_ready (rs := [4]) (by kernel_rfl) (by simp) ?_
    refine AllReady.cons rfl (fun K hK => ?_) ?_
    ·go_simp
     refine hK _ _ ?_
     clear hK K
     refine wpAny_ready (rs := [5]) (by kernel_rfl) (by simp) ?_
     refine AllReady.cons rfl (fun K hK => ?_) ?_
     ·go_simp
      refine (few10_any k s w2 hS2).mono ?_
      rintro e w3 ⟨rfl, hb3⟩
      unfold skVal
      have hV0 := (hb3.block w.heap.size (by omega)).trans hU0
      have hV1 := (hb3.block (w.heap.size + 1) (by omega)).trans hU1
      obtain ⟨t0, t1, t2, t3, t4, t5, t6, t7, t8, t9, t10, t11⟩ := cl12 hV0
      obtain ⟨d0, d1, d2, d3, d4, d5, d6, d7, d8, d9, d10, d11⟩ := cl12 hV1
      obtain ⟨f0, f1, f2, f3, f4, f5, f6, f7, f8, f9, f10, f11⟩ := cz12 hV1
      refine hK _ _ ?_
      clear hK K
      refine tk 8 (v := ?_) rfl ?_ ?_
      rotate_left
      ·intro w; go_simp; with_reducible rfl
      refine wpAny_ready (rs := [9]) (by kernel_rfl) (by simp) ?_
      refine AllReady.cons rfl (fun K hK => ?_) ?_
      ·go_simp
       refine hK _ _ ?_
       clear hK K
       refine wpAny_done (by kernel_rfl) ?_ _
       clear hY0 hY1 hU0 hU1 hV0 hb2 c0 c1 c2 c3 c4 c5 c6 c7 c8 c9 c10 c11 hE hS0 hS2 hBd
       go_wp2_with fail
       refine bodyPost_ret (results_cell_row rfl _ _ (w.heap.size + 1) 43 _ (0, 0) _ rfl (set12 hV1) und_series rfl size_series) rfl ?_
       exact ⟨⟨a', _, cap', s.cut⟩, rfl, rfl, one12_fin HS.out hz0 hsl hlo hBw2 hb3⟩
      exact AllReady.nil
     exact AllReady.nil
    exact AllReady.nil
   refine AllReady.cons rfl (fun K hK => ?_) ?_
   ·go_simp
    refine hK _ _ ?_
    clear hK K
    refine wpAny_ready (rs := [2]) (by kernel_rfl) (by simp) ?_
    refine AllReady.cons rfl (fun K hK => ?_) ?_
    ·go_simp
     refine (few04_any l la ll lc _ hE).mono ?_
     rintro e w2 ⟨a', cap', rfl, hsl, hlo, hb2⟩
     have hU0 := (hb2.block w.heap.size (by omega)).trans hY0
     have hU1 := (hb2.block (w.heap.size + 1) (by omega)).trans hY1
     obtain ⟨r0, r1, r2, r3, r4, r5, r6, r7, r8, r9, r10, r11⟩ := cl12 hU0
     have hS2 : s.At w2.heap.size w2 k := (hS0.go ((Below.refl _ W0).drew)).go hb2
     have hz2 := hb2.size
     have hBw2 : Below w.heap.size w w2 := hBd.trans (hb2.mono (by omega))
     refine hK _ _ ?_
     clear hK K
     refine wpAny_ready (rs := [5]) (by kernel_rfl) (by simp) ?_
     refine AllReady.cons rfl (fun K hK => ?_) ?_
     ·go_simp
      refine (few10_any k s w2 hS2).mono ?_
      rintro e w3 ⟨rfl, hb3⟩
      unfold skVal
      have hV0 := (hb3.block w.heap.size (by omega)).trans hU0
      have hV1 := (hb3.block (w.heap.size + 1) (by omega)).trans hU1
      obtain ⟨t0, t1, t2, t3, t4, t5, t6, t7, t8, t9, t10, t11⟩ := cl12 hV0
      obtain ⟨d0, d1, d2, d3, d4, d5, d6, d7, d8, d9, d10, d11⟩ := cl12 hV1
      obtain ⟨f0, f1, f2, f3, f4, f5, f6, f7, f8, f9, f10, f11⟩ := cz12 hV1
      refine hK _ _ ?_
      clear hK K
      refine tk 8 (v := ?_) rfl ?_ ?_
      rotate_left
      ·intro w; go_simp; with_reducible rfl
      refine wpAny_ready (rs := [9]) (by kernel_rfl) (by simp) ?_
      refine AllReady.cons rfl (fun K hK => ?_) ?_
      ·go_simp
       refine hK _ _ ?_
       clear hK K
       refine wpAny_done (by kernel_rfl) ?_ _
       clear hY0 hY1 hU0 hU1 hV0 hb2 c0 c1 c2 c3 c4 c5 c6 c7 c8 c9 c10 c11 hE hS0 hS2 hBd
       go_wp2_with fail
       refine bodyPost_ret (results_cell_row rfl _ _ (w.heap.size + 1) 43 _ (0, 0) _ rfl (set12 hV1) und_series rfl size_series) rfl ?_
       exact ⟨⟨a', _, cap', s.cut⟩, rfl, rfl, one12_fin HS.out hz0 hsl hlo hBw2 hb3⟩
      exact AllReady.nil
     exact AllReady.nil
    exact AllReady.nil
   exact AllReady.nil
  refine AllReady.cons rfl (fun K hK => ?_) ?_
  ·go_simp
   refine hK _ _ ?_
   clear hK K
   refine wpAny_ready (rs := [1]) (by kernel_rfl) (by simp) ?_
   refine AllReady.cons rfl (fun K hK => ?_) ?_
   ·go_simp
    refine hK _ _ ?_
    clear hK K
    refine wpAny_ready (rs := [2]) (by kernel_rfl) (by simp) ?_
    refine AllReady.cons rfl (fun K hK => ?_) ?_
    ·go_simp
     refine (few04_any l la ll lc _ hE).mono ?_
     rintro e w2 ⟨a', cap', rfl, hsl, hlo, hb2⟩
     have hU0 := (hb2.block w.heap.size (by omega)).trans hY0
     have hU1 := (hb2.block (w.heap.size + 1) (by omega)).trans hY1
     obtain ⟨r0, r1, r2, r3, r4, r5, r6, r7, r8, r9, r10, r11⟩ := cl12 hU0
     have hS2 : s.At w2.heap.size w2 k := (hS0.go ((Below.refl _ W0).drew)).go hb2
     have hz2 := hb2.size
     have hBw2 : Below w.heap.size w w2 := hBd.trans (hb2.mono (by omega))
     refine hK _ _ ?_
     clear hK K
     refine wpAny_ready (rs := [5]) (by kernel_rfl) (by simp) ?_
     refine AllReady.cons rfl (fun K hK => ?_) ?_
     ·go_simp
      refine (few10_any k s w2 hS2).mono ?_
      rintro e w3 ⟨rfl, hb3⟩
      unfold skVal
      have hV0 := (hb3.block w.heap.size (by omega)).trans hU0
      have hV1 := (hb3.block (w.heap.size + 1) (by omega)).trans hU1
      obtain ⟨t0, t1, t2, t3, t4, t5, t6, t7, t8, t9, t10, t11⟩ := cl12 hV0
      obtain ⟨d0, d1, d2, d3, d4, d5, d6, d7, d8, d9, d10, d11⟩ := cl12 hV1
      obtain ⟨f0, f1, f2, f3, f4, f5, f6, f7, f8, f9, f10, f11⟩ := cz12 hV1
      refine hK _ _ ?_
      clear hK K
      refine tk 8 (v := ?_) rfl ?_ ?_
      rotate_left
      ·intro w; go_simp; with_reducible rfl
      refine wpAny_ready (rs := [9]) (by kernel_rfl) (by simp) ?_
      refine AllReady.cons rfl (fun K hK => ?_) ?_
      ·go_simp
       refine hK _ _ ?_
       clear hK K
       refine wpAny_done (by kernel_rfl) ?_ _
       clear hY0 hY1 hU0 hU1 hV0 hb2 c0 c1 c2 c3 c4 c5 c6 c7 c8 c9 c10 c11 hE hS0 hS2 hBd
       go_wp2_with fail
       refine bodyPost_ret (results_cell_row rfl _ _ (w.heap.size + 1) 43 _ (0, 0) _ rfl (set12 hV1) und_series rfl size_series) rfl ?_
       exact ⟨⟨a', _, cap', s.cut⟩, rfl, rfl, one12_fin HS.out hz0 hsl hlo hBw2 hb3⟩
      exact AllReady.nil
     exact AllReady.nil
    exact AllReady.nil
   exact AllReady.nil
  exact AllReady.nil
 exact AllReady.nil
end Go.Proofs.YthbhmnakmhambaaGreatDoor
namespace Go.Proofs.YthbhmnakmhambaaGreatDoor
open Go Go.RowKit Go.Shelf
theorem cell_heap {A B : World} {p : Addr} (h : B.heap[p.block]? = A.heap[p.block]?) : B.cell? p = A.cell? p := by unfold World.cell?; rw [h]
theorem SlC.frame {α : Type} {enc : α → List Value} {k n₀ : Nat} {A B : World} {a : Option Addr} {len cap : Nat} {l : List α} {q : Nat → Prop} (hs : SlC enc k n₀ A a len cap l) (hq : ∀ z, a = some z → 0 < cap → q z.block) (hf : ∀ b, b < n₀ → q b → B.heap[b]? = A.heap[b]?) : SlC enc k n₀ B a len cap l :=
 ⟨⟨hs.1.1, fun j x hx => by
  obtain ⟨b, off, e, hb, hc⟩ := hs.1.2 j x hx
  have hlt := (List.getElem?_eq_some_iff.1 hx).1
  have h1 := hs.1.1
  have h2 := hs.2.1
  exact ⟨b, off, e, hb, fun i hi => (cell_heap (hf b hb (hq _ e (by omega)))).trans (hc i hi)⟩⟩, hs.2⟩
structure SerP.Off (p : SerP) (q : Nat → Prop) : Prop where
 l : ∀ z, p.la = some z → 0 < p.lc → q z.block
 e : ∀ z, p.ss.ea = some z → 0 < p.ss.ec → q z.block
 c : ∀ z, p.ss.ca = some z → 0 < p.ss.cc → q z.block
 g : ∀ z, p.ss.ga = some z → 0 < p.ss.gc → q z.block
theorem SerP.Off.imp {p : SerP} {q r : Nat → Prop} (h : p.Off q) (hi : ∀ b, q b → r b) : p.Off r := ⟨fun z h1 h2 => hi _ (h.l z h1 h2), fun z h1 h2 => hi _ (h.e z h1 h2), fun z h1 h2 => hi _ (h.c z h1 h2), fun z h1 h2 => hi _ (h.g z h1 h2)⟩
theorem SerP.Off.and {p : SerP} {q r : Nat → Prop} (h : p.Off q) (h' : p.Off r) : p.Off (fun b => q b ∧ r b) := ⟨fun z h1 h2 => ⟨h.l z h1 h2, h'.l z h1 h2⟩, fun z h1 h2 => ⟨h.e z h1 h2, h'.e z h1 h2⟩, fun z h1 h2 => ⟨h.c z h1 h2, h'.c z h1 h2⟩, fun z h1 h2 => ⟨h.g z h1 h2, h'.g z h1 h2⟩⟩
section
variable {n n₁ : Nat} {A B w : World} {x : Ser} {p : SerP}
theorem SerP.At.off (h : p.At n w x) : p.Off (· < n) := ⟨fun z h1 h2 => (h.l.2.2.2.2 z h1 h2).2, fun z h1 h2 => (h.s.e.2.2.2.2 z h1 h2).2, fun z h1 h2 => (h.s.c.2.2.2.2 z h1 h2).2, fun z h1 h2 => (h.s.g.2.2.2.2 z h1 h2).2⟩
theorem SerP.At.frame {q : Nat → Prop} (h : p.At n A x) (hq : p.Off q) (hf : ∀ b, b < n → q b → B.heap[b]? = A.heap[b]?) : p.At n B x :=
 ⟨h.l.frame hq.l hf, ⟨h.s.e.frame hq.e hf, h.s.c.frame hq.c hf, h.s.g.frame hq.g hf⟩⟩
theorem SerP.At.below (h : p.At n A x) (hb : Below n A B) : p.At n B x := ⟨h.l.below hb, h.s.below hb⟩
theorem SerP.At.mono (h : p.At n A x) (hn : n ≤ n₁) : p.At n₁ A x := ⟨h.l.mono hn, h.s.mono hn⟩
theorem SerP.At.drew (h : p.At n w x) : p.At n w.drew x := ⟨h.l, ⟨h.s.e, h.s.c, h.s.g⟩⟩
theorem SerP.At.go (h : p.At A.heap.size A x) (hb : Below A.heap.size A B) : p.At B.heap.size B x := (h.below hb).mono hb.size
end
def serEnc (e : Ser × SerP) : List Value := serVals e.1 e.2
theorem serEnc_len (e : Ser × SerP) : (serEnc e).length = 12 := rfl
theorem serEnc_one (e : Ser × SerP) : ∀ u ∈ serEnc e, u.oneCell' = true := by
 intro u hu
 simp only [serEnc, serVals, List.mem_cons, List.not_mem_nil, or_false] at hu
 rcases hu with h | h | h | h | h | h | h | h | h | h | h | h <;> (subst h; rfl)
structure Tab (n₀ : Nat) (w : World) (a : Option Addr) (len cap : Nat) (l : List (Ser × SerP)) : Prop where
 row : SlC serEnc 12 n₀ w a len cap l
 at_ : ∀ e ∈ l, e.2.At n₀ w e.1
section
variable {n₀ n₁ : Nat} {A B w : World} {a : Option Addr} {len cap : Nat} {l : List (Ser × SerP)}
theorem Tab.below (h : Tab n₀ A a len cap l) (hb : Below n₀ A B) : Tab n₀ B a len cap l := ⟨h.row.below hb, fun e he => (h.at_ e he).below hb⟩
theorem Tab.mono (h : Tab n₀ A a len cap l) (hn : n₀ ≤ n₁) : Tab n₁ A a len cap l := ⟨h.row.mono hn, fun e he => (h.at_ e he).mono hn⟩
theorem Tab.go (h : Tab A.heap.size A a len cap l) (hb : Below A.heap.size A B) : Tab B.heap.size B a len cap l := (h.below hb).mono hb.size
theorem Tab.nil : Tab n₀ w none 0 0 [] := ⟨SlC.nil, fun e he => by cases he⟩
theorem Tab.drew (h : Tab n₀ w a len cap l) : Tab n₀ w.drew a len cap l := ⟨h.row, fun e he => (h.at_ e he).drew⟩
theorem Tab.take (h : Tab n₀ w a len cap l) (m : Nat) (hm : m ≤ len) : Tab n₀ w a m cap (l.take m) := ⟨h.row.take m hm, fun e he => h.at_ e (List.mem_of_mem_take he)⟩
end
theorem append_where {P : Program} {t e : TypeId} {z : Value} {size bytes : Nat} (ty : TypeId) (ht : P.underlying t = some (.slice e)) (hinfo : (P.info? e).map (fun i => (i.zero, i.size, i.bytes)) = some (some z, size, bytes))
  {W w1 : World} {base : Nat} {v v' : Value} {n m c : Nat} {xs : List Value} (hown : W.ownsRow base e size v n xs) {a : Addr} {news : List Value} (hl : news.length = m * size) (hnews : ∀ j u, news[j]? = some u → W.cell? (a.add j) = some u) (h1 : ∀ u ∈ news, u.oneCell' = true) (hm : 0 < m)
  (h63 : n + m ≤ maxLen) (hbytes : (n + m) * bytes ≤ 140737488355328)
  (hr : (Builtin.append_ #[t, t] ty #[v, .slice (some a) m c]).run P W = .ok v' w1) : v'.ownBlock = v.ownBlock ∨ ∃ g, v'.ownBlock = some g ∧ W.heap.size ≤ g := by
 obtain ⟨i, hi, hz, hsize, hby⟩ := info_parts hinfo
 subst hsize
 subst hby
 have hsmall : n + m ≤ 9223372036854775807 := by simp only [maxLen] at h63; omega
 rcases hown.2 with ⟨rfl, rfl⟩ | ⟨g, cap, cur, rfl, hbg, hg, hnc, hcm, hcs, htake⟩
 ·have hx : xs = [] := List.eq_nil_of_length_eq_zero (by simpa using hown.1)
  subst hx
  rw [run_append_nil (P := P) W t ty e i z ht hi hz a m c news hl hnews (by omega) (by omega) (by have hb := hbytes; simp only [Nat.zero_add] at hb; omega)] at hr
  injection hr with hr1
  subst hr1
  exact .inr ⟨_, rfl, Nat.le_refl _⟩
 ·by_cases hroom : n + m ≤ cap
  ·have hfit : n * i.size + news.length ≤ cur.size := by rw [hl, hcs, ← Nat.add_mul]; exact Nat.mul_le_mul_right _ hroom
   rw [run_append_room (P := P) W t ty e i ht hi g n cap cur hg a m c news hl hnews h1 hroom hfit] at hr
   injection hr with hr1
   subst hr1
   exact .inl rfl
  ·have holds : ∀ j u, xs[j]? = some u → W.cell? ((⟨g, 0, none⟩ : Addr).add j) = some u := hown.cells (g := g) rfl
   rw [run_append_grow (P := P) W t ty e i z ht hi hz ⟨g, 0, none⟩ n cap xs hown.1 holds a m c news hl hnews (by omega) (by omega) (growslice_fits (by omega) hbytes)] at hr
   injection hr with hr1
   subst hr1
   exact .inr ⟨_, rfl, Nat.le_refl _⟩
theorem und_table : Tryz.prog.underlying 22 = some (.slice 43) := by kernel_rfl
theorem info_series : (Tryz.prog.info? 43).map (fun i => (i.zero, i.size, i.bytes)) = some (some (.agg #[.slice none 0 0, .int .i64 0, .int .i64 0, .slice none 0 0, .int .i64 0, .string ⟨#[]⟩, .int .i64 0, .int .i64 0, .slice none 0 0, .int .i64 0, .slice none 0 0, .int .u64 0]), 12, 168) := by kernel_rfl
structure GrowS (base : Nat) (q : Nat → Prop) (w : World) (v : Value) (l : List (Ser × SerP)) : Prop where
 own : w.ownsRow base 43 12 v l.length (l.flatMap serEnc)
 at_ : ∀ e ∈ l, e.2.At w.heap.size w e.1
 off : ∀ e ∈ l, e.2.Off (fun b => q b ∧ some b ≠ v.ownBlock)
theorem GrowS.nil (base : Nat) (q : Nat → Prop) (w : World) : GrowS base q w (.slice none 0 0) [] := ⟨World.ownsRow_nil _ _ _ _, (fun e h => by cases h), (fun e h => by cases h)⟩
theorem GrowS.form {base : Nat} {q : Nat → Prop} {w : World} {v : Value} {l : List (Ser × SerP)} (h : GrowS base q w v l) : ∃ a c, v = .slice a l.length c := owns_formL h.own
theorem GrowS.drew {base : Nat} {q : Nat → Prop} {w : World} {v : Value} {l : List (Ser × SerP)} (h : GrowS base q w v l) : GrowS base q w.drew v l := ⟨h.own, fun e he => (h.at_ e he).drew, h.off⟩
theorem GrowS.go {base : Nat} {q : Nat → Prop} {A B : World} {v : Value} {l : List (Ser × SerP)} (h : GrowS base q A v l) (hb : Below A.heap.size A B) : GrowS base q B v l :=
 ⟨⟨h.own.1, h.own.2.imp id (fun ⟨g, cap, cur, h1, h2, h3, h4⟩ => ⟨g, cap, cur, h1, h2, known hb (Nat.le_refl _) h3, h4⟩)⟩, fun e he => (h.at_ e he).go hb, h.off⟩
theorem GrowS.tab {base : Nat} {q : Nat → Prop} {w : World} {v : Value} {l : List (Ser × SerP)} (h : GrowS base q w v l) : ∃ a cap, v = .slice a l.length cap ∧ Tab w.heap.size w a l.length cap l ∧ (∀ z, a = some z → base ≤ z.block) ∧ (∀ e ∈ l, e.2.Off (fun b => q b ∧ ∀ z, a = some z → b ≠ z.block)) := by
 obtain ⟨a, cap, rfl, h1, h2⟩ := slC_of_owns (enc := serEnc) serEnc_len h.own
 refine ⟨a, cap, rfl, ⟨h1, h.at_⟩, h2, fun e he => (h.off e he).imp fun b hb => ⟨hb.1, fun z hz hbz => ?_⟩⟩
 subst hz
 exact hb.2 (by rw [hbz]; rfl)
theorem GrowS.push {base B : Nat} {q : Nat → Prop} {W w0 : World} {v : Value} {l : List (Ser × SerP)} (h : GrowS base q W v l) (hB : Below B w0 W) (hBb : B ≤ base) (hbase : base ≤ W.heap.size) (hn : l.length < 4294967) {x : Ser} {p : SerP} (hp : p.At W.heap.size W x) (ho : p.Off (fun b => q b ∧ some b ≠ v.ownBlock)) :
  ∃ g cap w1, (Builtin.append_ #[22, 22] 22 #[v, .slice (some ⟨W.heap.size, 0, none⟩) 1 1]).run Tryz.prog (W.alloc (.cells (serVals x p).toArray 43)) = .ok (.slice (some ⟨g, 0, none⟩) (l.length + 1) cap) w1 ∧
   GrowS base q w1 (.slice (some ⟨g, 0, none⟩) (l.length + 1) cap) (l ++ [(x, p)]) ∧ Below B w0 w1 ∧ W.heap.size < w1.heap.size ∧ (∀ k, k < W.heap.size → some k ≠ v.ownBlock → w1.heap[k]? = W.heap[k]?) := by
 obtain ⟨g, cap, w1, hap, hown, hB1, hsz, -, hfr⟩ := append_one Tryz.prog 22 und_table info_series rfl (by decide) (W := W) h.own hB hBb hbase (serVals x p) rfl (serEnc_one (x, p)) (by omega) (by decide)
 have hcell : ∀ j u, (serVals x p)[j]? = some u → (W.alloc (.cells (serVals x p).toArray 43)).cell? ((⟨W.heap.size, 0, none⟩ : Addr).add j) = some u := fun j u hj => by
  have := cCc (World.alloc_heap_new W (.cells (serVals x p).toArray 43)) j
  have ea : (⟨W.heap.size, 0, none⟩ : Addr).add j = ⟨W.heap.size, j, none⟩ := by unfold Addr.add; split <;> simp_all
  rw [ea, this]
  simpa using hj
 have hwh := append_where 22 und_table info_series (h.own.alloc _) (n := l.length) (m := 1) rfl hcell (serEnc_one (x, p)) (by omega) (by unfold maxLen; omega) (by omega) hap
 have hoff : ∀ b, b < W.heap.size → some b ≠ v.ownBlock → some b ≠ Value.ownBlock (.slice (some ⟨g, 0, none⟩) (l.length + 1) cap) := fun b hb hne => by
  rcases hwh with e | ⟨g', e, hg⟩
  ·rw [e]; exact hne
  ·rw [e]
   intro hc
   injection hc with hc
   simp at hg
   omega
 have hmem : ∀ e ∈ l ++ [(x, p)], e.2.At W.heap.size W e.1 ∧ e.2.Off (fun b => q b ∧ some b ≠ v.ownBlock) := fun e he => by
  rcases List.mem_append.1 he with h1 | h1
  ·exact ⟨h.at_ e h1, h.off e h1⟩
  ·rw [List.mem_singleton] at h1
   subst h1
   exact ⟨hp, ho⟩
 refine ⟨g, cap, w1, hap, ⟨?_, fun e he => ?_, fun e he => ?_⟩, hB1, hsz, hfr⟩
 ·rw [List.length_append, List.flatMap_append]
  simpa [serEnc] using hown
 ·obtain ⟨h1, h2⟩ := hmem e he
  exact (h1.frame h2 (fun b hb hq => hfr b hb hq.2)).mono (by omega)
 ·obtain ⟨h1, h2⟩ := hmem e he
  exact (h1.off.and h2).imp fun b hb => ⟨hb.2.1, hoff b hb.1 hb.2.2⟩
end Go.Proofs.YthbhmnakmhambaaGreatDoor
namespace Go.Proofs.YthbhmnakmhambaaGreatDoor
open Go Go.RowKit Go.Shelf
attribute [-go_sem] Builtin.append_
theorem grow_off {k : Nat} {va : Option Addr} {vc n : Nat} {W : World} {m : List (Ser × SerP)} (h : GrowS n (fun _ => True) W (.slice va k vc) m) {p : SerP} {c : SerP} (hl : ∀ z, p.la = some z → W.heap.size ≤ z.block) (hc : c.Off (· < n)) (e : p.ss = c.ss.cut) : p.Off (fun b => True ∧ some b ≠ Value.ownBlock (.slice va k vc)) := by
 have hown := h.own.lt
 refine ⟨fun z h1 _ => ⟨trivial, fun h3 => ?_⟩, fun z h1 h2 => ⟨trivial, fun h3 => ?_⟩, fun z h1 h2 => ⟨trivial, fun h3 => ?_⟩, fun z h1 h2 => ⟨trivial, fun h3 => ?_⟩⟩
 ·have := hl z h1; have := hown _ h3.symm; omega
 ·rw [e] at h1 h2; have := hc.e z h1 h2; have := hown _ h3.symm; omega
 ·rw [e] at h1 h2; have := hc.c z h1 h2; have := hown _ h3.symm; omega
 ·rw [e] at h1 h2; have := hc.g z h1 h2; have := hown _ h3.symm; omega
def LabsFrom (n : Nat) (l m : List (Ser × SerP)) : Prop := (∀ e ∈ m, ∀ z, e.2.la = some z → n ≤ z.block) ∧ ∀ q : Nat → Prop, (∀ e ∈ l, e.2.Off q) → ∀ e ∈ m, e.2.Off (fun b => q b ∨ n ≤ b)
def few12 (l : List Ser) : List Ser := (l.take 22).map Ser.cut
set_option maxRecDepth 100000 in
set_option maxHeartbeats 2000000 in
theorem few12_any (l : List (Ser × SerP)) (a : Option Addr) (len cap : Nat) (w : World) (hT : Tab w.heap.size w a len cap l) :
  Calls Tryz.prog 8 #[.slice a len cap] w fun e w' => ∃ a' cap' m, e = .returned (.slice a' m.length cap') ∧ Tab w'.heap.size w' a' m.length cap' m ∧ m.map (·.1) = few12 (l.map (·.1)) ∧ (∀ x, a' = some x → w.heap.size ≤ x.block) ∧ LabsFrom w.heap.size l m ∧ Below w.heap.size w w' := by
 have hlen := hT.row.1.1
 subst hlen
 have HT := Lib.hid hT
 clear hT
 go_enter Tryz.func8, Tryz.ntmps8
 go_wp2_with fail
 go_loopw [3, 4] (fun v i wr => ∃ (k : Nat) (m : List (Ser × SerP)), i = .int .i64 k ∧ k ≤ l.length ∧ k ≤ 22 ∧ m.length = k ∧ m.map (·.1) = ((l.map (·.1)).take k).map Ser.cut ∧ LabsFrom w.heap.size l m ∧ Below w.heap.size w wr ∧ GrowS w.heap.size (fun _ => True) wr v m) (fun _ i _ => l.length - (intOf i).toNat)
 case atStart => exact ⟨0, [], rfl, Nat.zero_le _, by omega, rfl, rfl, ⟨(fun e h => by cases h), fun q _ e h => by cases h⟩, Below.refl _ _, GrowS.nil _ _ _⟩
 case round =>
  obtain ⟨k, m, rfl, hk, hk22, hmk, hmm, hml, hB, hG⟩ := hrel
  have hsz := hB.size
  by_cases hlt : k < l.length ∧ k < 22
  ·obtain ⟨hlt, hlt22⟩ := hlt
   obtain ⟨⟨x, p⟩, hx⟩ : ∃ x, l[k]? = some x := ⟨_, List.getElem?_eq_getElem hlt⟩
   obtain ⟨b, off, rfl, hbb, hc⟩ := (HT.out.below hB).row.1.2 k (x, p) hx
   have c0 : wr.cell? ⟨b, off + k * 12, none⟩ = some (.slice p.la p.ll p.lc) := hc 0 (by omega)
   have c1 : wr.cell? ⟨b, off + k * 12 + 1, none⟩ = some (.int .i64 x.sk.kind) := hc 1 (by omega)
   have c2 : wr.cell? ⟨b, off + k * 12 + 2, none⟩ = some (.int .i64 x.sk.level) := hc 2 (by omega)
   have c3 : wr.cell? ⟨b, off + k * 12 + 3, none⟩ = some (.slice p.ss.ea p.ss.el p.ss.ec) := hc 3 (by omega)
   have c4 : wr.cell? ⟨b, off + k * 12 + 4, none⟩ = some (.int .i64 x.sk.hb) := hc 4 (by omega)
   have c5 : wr.cell? ⟨b, off + k * 12 + 5, none⟩ = some (.string x.sk.hr) := hc 5 (by omega)
   have c6 : wr.cell? ⟨b, off + k * 12 + 6, none⟩ = some (.int .i64 x.sk.cr) := hc 6 (by omega)
   have c7 : wr.cell? ⟨b, off + k * 12 + 7, none⟩ = some (.int .i64 x.sk.cc) := hc 7 (by omega)
   have c8 : wr.cell? ⟨b, off + k * 12 + 8, none⟩ = some (.slice p.ss.ca p.ss.cl p.ss.cc) := hc 8 (by omega)
   have c9 : wr.cell? ⟨b, off + k * 12 + 9, none⟩ = some (.int .i64 x.sk.gf) := hc 9 (by omega)
   have c10 : wr.cell? ⟨b, off + k * 12 + 10, none⟩ = some (.slice p.ss.ga p.ss.gl p.ss.gc) := hc 10 (by omega)
   have c11 : wr.cell? ⟨b, off + k * 12 + 11, none⟩ = some (.int .u64 x.seen) := hc 11 (by omega)
   have hX := Lib.hid hx
   have HG := Lib.hid hG
   have HM := Lib.hid hmm
   have HL := Lib.hid hmk
   have HP : Hid (p.At wr.heap.size wr x) := ((HT.out.at_ _ (List.mem_of_getElem? hx)).below hB).mono hsz
   have HO : Hid (p.Off (· < w.heap.size)) := (HT.out.at_ _ (List.mem_of_getElem? hx)).off
   obtain ⟨va, vc, rfl⟩ := hG.form
   have HO2 := Lib.hid (fun p' hl e => grow_off (p := p') HG.out hl HO.out e)
   clear hc hx hG hmm hmk
   have e4 : (k : Int) < 22 := by omega
   go_wp2_with (go_at_call 22; refine (one12_any x p _ HP.out).mono ?_; rintro e w2 ⟨⟨la', ll', lc', s'⟩, rfl, hss, hat, hfr, hb2⟩; have HSS := Lib.hid hss; obtain ⟨g5, cap5, w5, hap5, hG5, hB5, hz5, -⟩ := (HG.out.go hb2).push (hB.trans (hb2.mono hsz)) (Nat.le_refl _) (Nat.le_trans hsz hb2.size) (by rw [HL.out]; omega) hat (HO2.out _ hfr hss); have HG5 := Lib.hid hG5; have HA := Lib.hid hat; have hZ := hb2.size; clear hG5 hat hss; unfold serVals at hap5 ⊢; dsimp only at hap5 ⊢)
   refine ⟨⟨k + 1, m ++ [(x.cut, ⟨la', ll', lc', s'⟩)], by go_num, by omega, by omega, by rw [List.length_append, HL.out]; rfl, ?_, ?_, hB5, HG5.out⟩, by simp [intOf]; omega⟩
   ·rw [List.map_append, HM.out, take_snoc' (x := x) (by rw [List.getElem?_map, hX.out]; rfl), List.map_append]; rfl
   ·refine ⟨fun e he z hz => ?_, fun q hq e he => ?_⟩
    ·rcases List.mem_append.1 he with h | h
     ·exact hml.1 e h z hz
     ·rw [List.mem_singleton] at h
      subst h
      exact Nat.le_trans hsz (hfr z hz)
    ·rcases List.mem_append.1 he with h | h
     ·exact hml.2 q hq e h
     ·rw [List.mem_singleton] at h
      subst h
      have h4 := hq (x, p) (List.mem_of_getElem? hX.out)
      have hs4 : s' = p.ss.cut := HSS.out
      subst hs4
      exact ⟨fun z hz _ => .inr (Nat.le_trans hsz (hfr z hz)), fun z h1 h2 => .inl (h4.e z h1 h2), fun z h1 h2 => .inl (h4.c z h1 h2), fun z h1 h2 => .inl (h4.g z h1 h2)⟩
  ·have HK : Hid (k = min l.length 22) := by rw [Hid]; omega
   obtain ⟨va, vc, rfl, hTb, hlo, hoff⟩ := hG.tab
   have FI : Hid (∃ a' cap' m', Ending.returned (.slice va m.length vc) = .returned (.slice a' m'.length cap') ∧ Tab wr.heap.size wr a' m'.length cap' m' ∧ m'.map (·.1) = few12 (l.map (·.1)) ∧ (∀ x, a' = some x → w.heap.size ≤ x.block) ∧ LabsFrom w.heap.size l m' ∧ Below w.heap.size w wr) := by
    refine ⟨va, vc, m, rfl, hTb, ?_, hlo, hml, hB⟩
    rw [hmm, few12, HK.out]
    congr 1
    have hl2 : (l.map (·.1)).length = l.length := List.length_map ..
    rw [Nat.min_comm, ← hl2]
    exact List.take_eq_take_min.symm
   clear hmm hmk HK hG hTb hoff
   go_wp2_with fail
   all_goals go_ret
   all_goals exact FI.out
end Go.Proofs.YthbhmnakmhambaaGreatDoor

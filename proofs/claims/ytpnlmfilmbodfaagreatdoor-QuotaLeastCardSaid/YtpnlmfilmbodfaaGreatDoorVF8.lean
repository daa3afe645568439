/- aviarylaw12: One: printed by wip/tools/gen_f8.py. -/
import Derived.Test.YtpnlmfilmbodfaaGreatDoorVF7
import Derived.Test.YtpnlmfilmbodfaaGreatDoorVF4
namespace Go.Proofs.YtpnlmfilmbodfaaGreatDoor
open Go Go.RowKit
structure Ser where
  l : List Lab
  sk : Sk
  seen : Int
structure SerP where
  la : Option Addr
  ll : Nat
  lc : Nat
  ss : SS
structure SerP.At (p : SerP) (n₀ : Nat) (w : World) (x : Ser) : Prop where
  l : SlC Lab.enc 2 n₀ w p.la p.ll p.lc x.l
  s : p.ss.At n₀ w x.sk
def serVals (x : Ser) (p : SerP) : List Value := [.slice p.la p.ll p.lc, .int .i64 x.sk.kind, .int .i64 x.sk.level, .slice p.ss.ea p.ss.el p.ss.ec, .int .i64 x.sk.hb, .string x.sk.hr, .int .i64 x.sk.cr, .int .i64 x.sk.cc, .slice p.ss.ca p.ss.cl p.ss.cc, .int .i64 x.sk.gf, .slice p.ss.ga p.ss.gl p.ss.gc, .int .u64 x.seen]
def Ser.cut (x : Ser) : Ser := ⟨(few04 x.l).map (·.1), x.sk.cut, x.seen⟩
theorem und_series : Tryz.prog.underlying 64 = some (.struct (Tryz.prog.fieldsOf 64)) := by kernel_rfl
theorem size_series : (Tryz.prog.info? 64).map (·.size) = some 12 := by kernel_rfl
def sets12 (W : World) (B : Nat) (v0 v1 v2 v3 v4 v5 v6 v7 v8 v9 v10 v11 : Value) : World := ((((((((((((W.setCell ⟨B, 0, none⟩ v0).setCell ⟨B, 1, none⟩ v1).setCell ⟨B, 2, none⟩ v2).setCell ⟨B, 3, none⟩ v3).setCell ⟨B, 4, none⟩ v4).setCell ⟨B, 5, none⟩ v5).setCell ⟨B, 6, none⟩ v6).setCell ⟨B, 7, none⟩ v7).setCell ⟨B, 8, none⟩ v8).setCell ⟨B, 9, none⟩ v9).setCell ⟨B, 10, none⟩ v10).setCell ⟨B, 11, none⟩ v11)
theorem set12 {W : World} {B : Nat} {x0 x1 x2 x3 x4 x5 x6 x7 x8 x9 x10 x11 v0 v1 v2 v3 v4 v5 v6 v7 v8 v9 v10 v11 : Value} {t : TypeId} (h : W.heap[B]? = some (.cells #[x0, x1, x2, x3, x4, x5, x6, x7, x8, x9, x10, x11] t (0, 0))) :
    (sets12 W B v0 v1 v2 v3 v4 v5 v6 v7 v8 v9 v10 v11).heap[B]? = some (.cells #[v0, v1, v2, v3, v4, v5, v6, v7, v8, v9, v10, v11] t (0, 0)) := by
  unfold sets12
  replace h : (W.setCell ⟨B, 0, none⟩ v0).heap[B]? = some (.cells #[v0, x1, x2, x3, x4, x5, x6, x7, x8, x9, x10, x11] t (0, 0)) := hSk h v0
  generalize W.setCell ⟨B, 0, none⟩ v0 = W at h ⊢
  replace h : (W.setCell ⟨B, 1, none⟩ v1).heap[B]? = some (.cells #[v0, v1, x2, x3, x4, x5, x6, x7, x8, x9, x10, x11] t (0, 0)) := hSk h v1
  generalize W.setCell ⟨B, 1, none⟩ v1 = W at h ⊢
  replace h : (W.setCell ⟨B, 2, none⟩ v2).heap[B]? = some (.cells #[v0, v1, v2, x3, x4, x5, x6, x7, x8, x9, x10, x11] t (0, 0)) := hSk h v2
  generalize W.setCell ⟨B, 2, none⟩ v2 = W at h ⊢
  replace h : (W.setCell ⟨B, 3, none⟩ v3).heap[B]? = some (.cells #[v0, v1, v2, v3, x4, x5, x6, x7, x8, x9, x10, x11] t (0, 0)) := hSk h v3
  generalize W.setCell ⟨B, 3, none⟩ v3 = W at h ⊢
  replace h : (W.setCell ⟨B, 4, none⟩ v4).heap[B]? = some (.cells #[v0, v1, v2, v3, v4, x5, x6, x7, x8, x9, x10, x11] t (0, 0)) := hSk h v4
  generalize W.setCell ⟨B, 4, none⟩ v4 = W at h ⊢
  replace h : (W.setCell ⟨B, 5, none⟩ v5).heap[B]? = some (.cells #[v0, v1, v2, v3, v4, v5, x6, x7, x8, x9, x10, x11] t (0, 0)) := hSk h v5
  generalize W.setCell ⟨B, 5, none⟩ v5 = W at h ⊢
  replace h : (W.setCell ⟨B, 6, none⟩ v6).heap[B]? = some (.cells #[v0, v1, v2, v3, v4, v5, v6, x7, x8, x9, x10, x11] t (0, 0)) := hSk h v6
  generalize W.setCell ⟨B, 6, none⟩ v6 = W at h ⊢
  replace h : (W.setCell ⟨B, 7, none⟩ v7).heap[B]? = some (.cells #[v0, v1, v2, v3, v4, v5, v6, v7, x8, x9, x10, x11] t (0, 0)) := hSk h v7
  generalize W.setCell ⟨B, 7, none⟩ v7 = W at h ⊢
  replace h : (W.setCell ⟨B, 8, none⟩ v8).heap[B]? = some (.cells #[v0, v1, v2, v3, v4, v5, v6, v7, v8, x9, x10, x11] t (0, 0)) := hSk h v8
  generalize W.setCell ⟨B, 8, none⟩ v8 = W at h ⊢
  replace h : (W.setCell ⟨B, 9, none⟩ v9).heap[B]? = some (.cells #[v0, v1, v2, v3, v4, v5, v6, v7, v8, v9, x10, x11] t (0, 0)) := hSk h v9
  generalize W.setCell ⟨B, 9, none⟩ v9 = W at h ⊢
  replace h : (W.setCell ⟨B, 10, none⟩ v10).heap[B]? = some (.cells #[v0, v1, v2, v3, v4, v5, v6, v7, v8, v9, v10, x11] t (0, 0)) := hSk h v10
  generalize W.setCell ⟨B, 10, none⟩ v10 = W at h ⊢
  replace h : (W.setCell ⟨B, 11, none⟩ v11).heap[B]? = some (.cells #[v0, v1, v2, v3, v4, v5, v6, v7, v8, v9, v10, v11] t (0, 0)) := hSk h v11
  exact h
theorem below_sets12 {n B : Nat} {w W : World} (h : Below n w W) (hn : n ≤ B) (v0 v1 v2 v3 v4 v5 v6 v7 v8 v9 v10 v11 : Value) : Below n w (sets12 W B v0 v1 v2 v3 v4 v5 v6 v7 v8 v9 v10 v11) :=
  (((((((((((h.setCell (p := ⟨B, 0, none⟩) hn _).setCell (p := ⟨B, 1, none⟩) hn _).setCell (p := ⟨B, 2, none⟩) hn _).setCell (p := ⟨B, 3, none⟩) hn _).setCell (p := ⟨B, 4, none⟩) hn _).setCell (p := ⟨B, 5, none⟩) hn _).setCell (p := ⟨B, 6, none⟩) hn _).setCell (p := ⟨B, 7, none⟩) hn _).setCell (p := ⟨B, 8, none⟩) hn _).setCell (p := ⟨B, 9, none⟩) hn _).setCell (p := ⟨B, 10, none⟩) hn _).setCell (p := ⟨B, 11, none⟩) hn _
theorem sets12_size (W : World) (B : Nat) (v0 v1 v2 v3 v4 v5 v6 v7 v8 v9 v10 v11 : Value) : (sets12 W B v0 v1 v2 v3 v4 v5 v6 v7 v8 v9 v10 v11).heap.size = W.heap.size := by unfold sets12; simp only [World.size_setCell]
theorem SlC.sets12 {α : Type} {enc : α → List Value} {k n₀ B : Nat} {W : World} {a : Option Addr} {len cap : Nat} {l : List α} (hs : SlC enc k n₀ W a len cap l) (hp : ∀ x, a = some x → B ≠ x.block) (v0 v1 v2 v3 v4 v5 v6 v7 v8 v9 v10 v11 : Value) : SlC enc k n₀ (sets12 W B v0 v1 v2 v3 v4 v5 v6 v7 v8 v9 v10 v11) a len cap l :=
  (((((((((((hs.set_far (p := ⟨B, 0, none⟩) hp _).set_far (p := ⟨B, 1, none⟩) hp _).set_far (p := ⟨B, 2, none⟩) hp _).set_far (p := ⟨B, 3, none⟩) hp _).set_far (p := ⟨B, 4, none⟩) hp _).set_far (p := ⟨B, 5, none⟩) hp _).set_far (p := ⟨B, 6, none⟩) hp _).set_far (p := ⟨B, 7, none⟩) hp _).set_far (p := ⟨B, 8, none⟩) hp _).set_far (p := ⟨B, 9, none⟩) hp _).set_far (p := ⟨B, 10, none⟩) hp _).set_far (p := ⟨B, 11, none⟩) hp _
theorem one12_fin {l : List Lab} {k : Sk} {seen : Int} {s : SS} {w W0 w2 w3 : World} {a' : Option Addr} {cap' : Nat} {v0 v1 v2 v3 v4 v5 v6 v7 v8 v9 v10 v11 : Value} (hs : s.At w.heap.size w k) (hsz : w.heap.size + 1 < W0.heap.size)
    (hsl : SlC Lab.enc 2 w2.heap.size w2 a' (few04 l).length cap' ((few04 l).map (·.1))) (hlo : ∀ x, a' = some x → W0.heap.size ≤ x.block) (hB2 : Below w.heap.size w w2) (hb3 : Below w2.heap.size w2 w3) :
    SerP.At ⟨a', (few04 l).length, cap', s.cut⟩ (sets12 w3 (w.heap.size + 1) v0 v1 v2 v3 v4 v5 v6 v7 v8 v9 v10 v11).heap.size (sets12 w3 (w.heap.size + 1) v0 v1 v2 v3 v4 v5 v6 v7 v8 v9 v10 v11) (Ser.cut ⟨l, k, seen⟩) ∧ (∀ z, a' = some z → w.heap.size ≤ z.block) ∧ Below w.heap.size w (sets12 w3 (w.heap.size + 1) v0 v1 v2 v3 v4 v5 v6 v7 v8 v9 v10 v11) := by
  have hB3 : Below w.heap.size w (sets12 w3 (w.heap.size + 1) v0 v1 v2 v3 v4 v5 v6 v7 v8 v9 v10 v11) := below_sets12 (hB2.trans (hb3.mono hB2.size)) (Nat.le_succ _) ..
  refine ⟨⟨?_, (hs.go hB3).cut⟩, fun z hz => by have := hlo z hz; omega, hB3⟩
  rw [sets12_size]
  exact (hsl.go hb3).sets12 (fun x hx => by have := hlo x hx; omega) ..
set_option maxRecDepth 100000 in
set_option maxHeartbeats 4000000 in
theorem one12_any (x : Ser) (p : SerP) (w : World) (h : p.At w.heap.size w x) :
    Calls Tryz.prog 107 #[.agg (serVals x p).toArray] w fun e w' => ∃ p' : SerP, e = .returned (.agg (serVals x.cut p').toArray) ∧ p'.ss = p.ss.cut ∧ p'.At w'.heap.size w' x.cut ∧ (∀ z, p'.la = some z → w.heap.size ≤ z.block) ∧ Below w.heap.size w w' := by
  obtain ⟨l, k, seen⟩ := x
  obtain ⟨la, ll, lc, s⟩ := p
  obtain ⟨hl, hs⟩ := h
  dsimp only at hl hs
  unfold serVals
  dsimp only
  obtain ⟨W0, hW0, hX0, hX1, hB0, hs0⟩ := boxes2 w #[.slice la ll lc, .int .i64 k.kind, .int .i64 k.level, .slice s.ea s.el s.ec, .int .i64 k.hb, .string k.hr, .int .i64 k.cr, .int .i64 k.cc, .slice s.ca s.cl s.cc, .int .i64 k.gf, .slice s.ga s.gl s.gc, .int .u64 seen] 64 #[.slice none 0 0, .int .i64 0, .int .i64 0, .slice none 0 0, .int .i64 0, .string ⟨#[]⟩, .int .i64 0, .int .i64 0, .slice none 0 0, .int .i64 0, .slice none 0 0, .int .u64 0] 64
  have c0 : W0.cell? ⟨w.heap.size, 0, none⟩ = some (.slice la ll lc) := cCc hX0 0
  have c1 : W0.cell? ⟨w.heap.size, 1, none⟩ = some (.int .i64 k.kind) := cCc hX0 1
  have c2 : W0.cell? ⟨w.heap.size, 2, none⟩ = some (.int .i64 k.level) := cCc hX0 2
  have c3 : W0.cell? ⟨w.heap.size, 3, none⟩ = some (.slice s.ea s.el s.ec) := cCc hX0 3
  have c4 : W0.cell? ⟨w.heap.size, 4, none⟩ = some (.int .i64 k.hb) := cCc hX0 4
  have c5 : W0.cell? ⟨w.heap.size, 5, none⟩ = some (.string k.hr) := cCc hX0 5
  have c6 : W0.cell? ⟨w.heap.size, 6, none⟩ = some (.int .i64 k.cr) := cCc hX0 6
  have c7 : W0.cell? ⟨w.heap.size, 7, none⟩ = some (.int .i64 k.cc) := cCc hX0 7
  have c8 : W0.cell? ⟨w.heap.size, 8, none⟩ = some (.slice s.ca s.cl s.cc) := cCc hX0 8
  have c9 : W0.cell? ⟨w.heap.size, 9, none⟩ = some (.int .i64 k.gf) := cCc hX0 9
  have c10 : W0.cell? ⟨w.heap.size, 10, none⟩ = some (.slice s.ga s.gl s.gc) := cCc hX0 10
  have c11 : W0.cell? ⟨w.heap.size, 11, none⟩ = some (.int .u64 seen) := cCc hX0 11
  have hE : SlE Lab.enc 2 W0.drew.heap.size W0.drew la ll l := (hl.1.go hB0).drew
  have hS0 : s.At W0.heap.size W0 k := hs.go hB0
  have hz0 : w.heap.size + 1 < W0.drew.heap.size := by show _ < W0.heap.size; omega
  have hY0 : W0.drew.heap[w.heap.size]? = _ := hX0
  have hY1 : W0.drew.heap[w.heap.size + 1]? = _ := hX1
  have hBd : Below w.heap.size w W0.drew := hB0.drew
  have HS := Lib.hid hs
  clear hX0 hX1 hs0 hl hs
  go_enter Tryz.func107, Tryz.ntmps107
  go_wp2_with fail
  refine wp_region_any (by kernel_rfl) ?_
  change wpAny _ _ _ _ _ _ _ (World.drew _)
  refine wpAny_take (i := 0) (v := ?_) rfl (by kernel_rfl) (by kernel_rfl) (by kernel_rfl) (fun _ _ _ h => h) (Or.inl ⟨by rfl, ?_⟩) ?_
  rotate_left
  · intro w; go_simp; with_reducible rfl
  refine wpAny_take (i := 3) (v := ?_) rfl (by kernel_rfl) (by kernel_rfl) (by kernel_rfl) (fun _ _ _ h => h) (Or.inl ⟨by rfl, ?_⟩) ?_
  rotate_left
  · intro w; go_simp; with_reducible rfl
  refine wpAny_take (i := 6) (v := ?_) rfl (by kernel_rfl) (by kernel_rfl) (by kernel_rfl) (fun _ _ _ h => h) (Or.inl ⟨by rfl, ?_⟩) ?_
  rotate_left
  · intro w; go_simp; with_reducible rfl
  refine wpAny_ready (rs := [1, 4, 7]) (by kernel_rfl) (by simp) ?_
  refine AllReady.cons rfl (fun K hK => ?_) ?_
  · go_simp
    refine hK _ _ ?_
    clear hK K
    refine wpAny_ready (rs := [2, 4, 7]) (by kernel_rfl) (by simp) ?_
    refine AllReady.cons rfl (fun K hK => ?_) ?_
    · go_simp
      refine (few04_any l la ll lc _ hE).mono ?_
      rintro e w2 ⟨a', cap', rfl, hsl, hlo, hb2⟩
      have hU0 := (hb2.block w.heap.size (by omega)).trans hY0
      have hU1 := (hb2.block (w.heap.size + 1) (by omega)).trans hY1
      have r0 : w2.cell? ⟨w.heap.size, 0, none⟩ = some (.slice la ll lc) := cCc hU0 0
      have r1 : w2.cell? ⟨w.heap.size, 1, none⟩ = some (.int .i64 k.kind) := cCc hU0 1
      have r2 : w2.cell? ⟨w.heap.size, 2, none⟩ = some (.int .i64 k.level) := cCc hU0 2
      have r3 : w2.cell? ⟨w.heap.size, 3, none⟩ = some (.slice s.ea s.el s.ec) := cCc hU0 3
      have r4 : w2.cell? ⟨w.heap.size, 4, none⟩ = some (.int .i64 k.hb) := cCc hU0 4
      have r5 : w2.cell? ⟨w.heap.size, 5, none⟩ = some (.string k.hr) := cCc hU0 5
      have r6 : w2.cell? ⟨w.heap.size, 6, none⟩ = some (.int .i64 k.cr) := cCc hU0 6
      have r7 : w2.cell? ⟨w.heap.size, 7, none⟩ = some (.int .i64 k.cc) := cCc hU0 7
      have r8 : w2.cell? ⟨w.heap.size, 8, none⟩ = some (.slice s.ca s.cl s.cc) := cCc hU0 8
      have r9 : w2.cell? ⟨w.heap.size, 9, none⟩ = some (.int .i64 k.gf) := cCc hU0 9
      have r10 : w2.cell? ⟨w.heap.size, 10, none⟩ = some (.slice s.ga s.gl s.gc) := cCc hU0 10
      have r11 : w2.cell? ⟨w.heap.size, 11, none⟩ = some (.int .u64 seen) := cCc hU0 11
      have hS2 : s.At w2.heap.size w2 k := (hS0.go ((Below.refl _ W0).drew)).go hb2
      have hz2 := hb2.size
      have hBw2 : Below w.heap.size w w2 := hBd.trans (hb2.mono (by omega))
      refine hK _ _ ?_
      clear hK K
      refine wpAny_ready (rs := [4, 7]) (by kernel_rfl) (by simp) ?_
      refine AllReady.cons rfl (fun K hK => ?_) ?_
      · go_simp
        refine hK _ _ ?_
        clear hK K
        refine wpAny_ready (rs := [5, 7]) (by kernel_rfl) (by simp) ?_
        refine AllReady.cons rfl (fun K hK => ?_) ?_
        · go_simp
          refine (few10_any k s w2 hS2).mono ?_
          rintro e w3 ⟨rfl, hb3⟩
          unfold skVal
          have hV0 := (hb3.block w.heap.size (by omega)).trans hU0
          have hV1 := (hb3.block (w.heap.size + 1) (by omega)).trans hU1
          have t0 : w3.cell? ⟨w.heap.size, 0, none⟩ = some (.slice la ll lc) := cCc hV0 0
          have t1 : w3.cell? ⟨w.heap.size, 1, none⟩ = some (.int .i64 k.kind) := cCc hV0 1
          have t2 : w3.cell? ⟨w.heap.size, 2, none⟩ = some (.int .i64 k.level) := cCc hV0 2
          have t3 : w3.cell? ⟨w.heap.size, 3, none⟩ = some (.slice s.ea s.el s.ec) := cCc hV0 3
          have t4 : w3.cell? ⟨w.heap.size, 4, none⟩ = some (.int .i64 k.hb) := cCc hV0 4
          have t5 : w3.cell? ⟨w.heap.size, 5, none⟩ = some (.string k.hr) := cCc hV0 5
          have t6 : w3.cell? ⟨w.heap.size, 6, none⟩ = some (.int .i64 k.cr) := cCc hV0 6
          have t7 : w3.cell? ⟨w.heap.size, 7, none⟩ = some (.int .i64 k.cc) := cCc hV0 7
          have t8 : w3.cell? ⟨w.heap.size, 8, none⟩ = some (.slice s.ca s.cl s.cc) := cCc hV0 8
          have t9 : w3.cell? ⟨w.heap.size, 9, none⟩ = some (.int .i64 k.gf) := cCc hV0 9
          have t10 : w3.cell? ⟨w.heap.size, 10, none⟩ = some (.slice s.ga s.gl s.gc) := cCc hV0 10
          have t11 : w3.cell? ⟨w.heap.size, 11, none⟩ = some (.int .u64 seen) := cCc hV0 11
          have d0 : w3.cell? ⟨w.heap.size + 1, 0, none⟩ = some (.slice none 0 0) := cCc hV1 0
          have d1 : w3.cell? ⟨w.heap.size + 1, 1, none⟩ = some (.int .i64 0) := cCc hV1 1
          have d2 : w3.cell? ⟨w.heap.size + 1, 2, none⟩ = some (.int .i64 0) := cCc hV1 2
          have d3 : w3.cell? ⟨w.heap.size + 1, 3, none⟩ = some (.slice none 0 0) := cCc hV1 3
          have d4 : w3.cell? ⟨w.heap.size + 1, 4, none⟩ = some (.int .i64 0) := cCc hV1 4
          have d5 : w3.cell? ⟨w.heap.size + 1, 5, none⟩ = some (.string ⟨#[]⟩) := cCc hV1 5
          have d6 : w3.cell? ⟨w.heap.size + 1, 6, none⟩ = some (.int .i64 0) := cCc hV1 6
          have d7 : w3.cell? ⟨w.heap.size + 1, 7, none⟩ = some (.int .i64 0) := cCc hV1 7
          have d8 : w3.cell? ⟨w.heap.size + 1, 8, none⟩ = some (.slice none 0 0) := cCc hV1 8
          have d9 : w3.cell? ⟨w.heap.size + 1, 9, none⟩ = some (.int .i64 0) := cCc hV1 9
          have d10 : w3.cell? ⟨w.heap.size + 1, 10, none⟩ = some (.slice none 0 0) := cCc hV1 10
          have d11 : w3.cell? ⟨w.heap.size + 1, 11, none⟩ = some (.int .u64 0) := cCc hV1 11
          have f0 : w3.frozen? ⟨w.heap.size + 1, 0, none⟩ = false := cFz hV1 0
          have f1 : w3.frozen? ⟨w.heap.size + 1, 1, none⟩ = false := cFz hV1 1
          have f2 : w3.frozen? ⟨w.heap.size + 1, 2, none⟩ = false := cFz hV1 2
          have f3 : w3.frozen? ⟨w.heap.size + 1, 3, none⟩ = false := cFz hV1 3
          have f4 : w3.frozen? ⟨w.heap.size + 1, 4, none⟩ = false := cFz hV1 4
          have f5 : w3.frozen? ⟨w.heap.size + 1, 5, none⟩ = false := cFz hV1 5
          have f6 : w3.frozen? ⟨w.heap.size + 1, 6, none⟩ = false := cFz hV1 6
          have f7 : w3.frozen? ⟨w.heap.size + 1, 7, none⟩ = false := cFz hV1 7
          have f8 : w3.frozen? ⟨w.heap.size + 1, 8, none⟩ = false := cFz hV1 8
          have f9 : w3.frozen? ⟨w.heap.size + 1, 9, none⟩ = false := cFz hV1 9
          have f10 : w3.frozen? ⟨w.heap.size + 1, 10, none⟩ = false := cFz hV1 10
          have f11 : w3.frozen? ⟨w.heap.size + 1, 11, none⟩ = false := cFz hV1 11
          refine hK _ _ ?_
          clear hK K
          refine wpAny_ready (rs := [7]) (by kernel_rfl) (by simp) ?_
          refine AllReady.cons rfl (fun K hK => ?_) ?_
          · go_simp
            refine hK _ _ ?_
            clear hK K
            refine wpAny_take (i := 8) (v := ?_) rfl (by kernel_rfl) (by kernel_rfl) (by kernel_rfl) (fun _ _ _ h => h) (Or.inl ⟨by rfl, ?_⟩) ?_
            rotate_left
            · intro w; go_simp; with_reducible rfl
            refine wpAny_ready (rs := [9]) (by kernel_rfl) (by simp) ?_
            refine AllReady.cons rfl (fun K hK => ?_) ?_
            · go_simp
              refine hK _ _ ?_
              clear hK K
              refine wpAny_done (by kernel_rfl) ?_ _
              clear hY0 hY1 hU0 hU1 hV0 hb2 c0 c1 c2 c3 c4 c5 c6 c7 c8 c9 c10 c11 hE hS0 hS2 hBd
              go_wp2_with fail
              refine bodyPost_ret (results_cell_row rfl _ _ (w.heap.size + 1) 64 _ (0, 0) _ rfl (set12 hV1) und_series rfl size_series) rfl ?_
              exact ⟨⟨a', _, cap', s.cut⟩, rfl, rfl, one12_fin HS.out hz0 hsl hlo hBw2 hb3⟩
            exact AllReady.nil
          exact AllReady.nil
        refine AllReady.cons rfl (fun K hK => ?_) ?_
        · go_simp
          refine hK _ _ ?_
          clear hK K
          refine wpAny_ready (rs := [5]) (by kernel_rfl) (by simp) ?_
          refine AllReady.cons rfl (fun K hK => ?_) ?_
          · go_simp
            refine (few10_any k s w2 hS2).mono ?_
            rintro e w3 ⟨rfl, hb3⟩
            unfold skVal
            have hV0 := (hb3.block w.heap.size (by omega)).trans hU0
            have hV1 := (hb3.block (w.heap.size + 1) (by omega)).trans hU1
            have t0 : w3.cell? ⟨w.heap.size, 0, none⟩ = some (.slice la ll lc) := cCc hV0 0
            have t1 : w3.cell? ⟨w.heap.size, 1, none⟩ = some (.int .i64 k.kind) := cCc hV0 1
            have t2 : w3.cell? ⟨w.heap.size, 2, none⟩ = some (.int .i64 k.level) := cCc hV0 2
            have t3 : w3.cell? ⟨w.heap.size, 3, none⟩ = some (.slice s.ea s.el s.ec) := cCc hV0 3
            have t4 : w3.cell? ⟨w.heap.size, 4, none⟩ = some (.int .i64 k.hb) := cCc hV0 4
            have t5 : w3.cell? ⟨w.heap.size, 5, none⟩ = some (.string k.hr) := cCc hV0 5
            have t6 : w3.cell? ⟨w.heap.size, 6, none⟩ = some (.int .i64 k.cr) := cCc hV0 6
            have t7 : w3.cell? ⟨w.heap.size, 7, none⟩ = some (.int .i64 k.cc) := cCc hV0 7
            have t8 : w3.cell? ⟨w.heap.size, 8, none⟩ = some (.slice s.ca s.cl s.cc) := cCc hV0 8
            have t9 : w3.cell? ⟨w.heap.size, 9, none⟩ = some (.int .i64 k.gf) := cCc hV0 9
            have t10 : w3.cell? ⟨w.heap.size, 10, none⟩ = some (.slice s.ga s.gl s.gc) := cCc hV0 10
            have t11 : w3.cell? ⟨w.heap.size, 11, none⟩ = some (.int .u64 seen) := cCc hV0 11
            have d0 : w3.cell? ⟨w.heap.size + 1, 0, none⟩ = some (.slice none 0 0) := cCc hV1 0
            have d1 : w3.cell? ⟨w.heap.size + 1, 1, none⟩ = some (.int .i64 0) := cCc hV1 1
            have d2 : w3.cell? ⟨w.heap.size + 1, 2, none⟩ = some (.int .i64 0) := cCc hV1 2
            have d3 : w3.cell? ⟨w.heap.size + 1, 3, none⟩ = some (.slice none 0 0) := cCc hV1 3
            have d4 : w3.cell? ⟨w.heap.size + 1, 4, none⟩ = some (.int .i64 0) := cCc hV1 4
            have d5 : w3.cell? ⟨w.heap.size + 1, 5, none⟩ = some (.string ⟨#[]⟩) := cCc hV1 5
            have d6 : w3.cell? ⟨w.heap.size + 1, 6, none⟩ = some (.int .i64 0) := cCc hV1 6
            have d7 : w3.cell? ⟨w.heap.size + 1, 7, none⟩ = some (.int .i64 0) := cCc hV1 7
            have d8 : w3.cell? ⟨w.heap.size + 1, 8, none⟩ = some (.slice none 0 0) := cCc hV1 8
            have d9 : w3.cell? ⟨w.heap.size + 1, 9, none⟩ = some (.int .i64 0) := cCc hV1 9
            have d10 : w3.cell? ⟨w.heap.size + 1, 10, none⟩ = some (.slice none 0 0) := cCc hV1 10
            have d11 : w3.cell? ⟨w.heap.size + 1, 11, none⟩ = some (.int .u64 0) := cCc hV1 11
            have f0 : w3.frozen? ⟨w.heap.size + 1, 0, none⟩ = false := cFz hV1 0
            have f1 : w3.frozen? ⟨w.heap.size + 1, 1, none⟩ = false := cFz hV1 1
            have f2 : w3.frozen? ⟨w.heap.size + 1, 2, none⟩ = false := cFz hV1 2
            have f3 : w3.frozen? ⟨w.heap.size + 1, 3, none⟩ = false := cFz hV1 3
            have f4 : w3.frozen? ⟨w.heap.size + 1, 4, none⟩ = false := cFz hV1 4
            have f5 : w3.frozen? ⟨w.heap.size + 1, 5, none⟩ = false := cFz hV1 5
            have f6 : w3.frozen? ⟨w.heap.size + 1, 6, none⟩ = false := cFz hV1 6
            have f7 : w3.frozen? ⟨w.heap.size + 1, 7, none⟩ = false := cFz hV1 7
            have f8 : w3.frozen? ⟨w.heap.size + 1, 8, none⟩ = false := cFz hV1 8
            have f9 : w3.frozen? ⟨w.heap.size + 1, 9, none⟩ = false := cFz hV1 9
            have f10 : w3.frozen? ⟨w.heap.size + 1, 10, none⟩ = false := cFz hV1 10
            have f11 : w3.frozen? ⟨w.heap.size + 1, 11, none⟩ = false := cFz hV1 11
            refine hK _ _ ?_
            clear hK K
            refine wpAny_take (i := 8) (v := ?_) rfl (by kernel_rfl) (by kernel_rfl) (by kernel_rfl) (fun _ _ _ h => h) (Or.inl ⟨by rfl, ?_⟩) ?_
            rotate_left
            · intro w; go_simp; with_reducible rfl
            refine wpAny_ready (rs := [9]) (by kernel_rfl) (by simp) ?_
            refine AllReady.cons rfl (fun K hK => ?_) ?_
            · go_simp
              refine hK _ _ ?_
              clear hK K
              refine wpAny_done (by kernel_rfl) ?_ _
              clear hY0 hY1 hU0 hU1 hV0 hb2 c0 c1 c2 c3 c4 c5 c6 c7 c8 c9 c10 c11 hE hS0 hS2 hBd
              go_wp2_with fail
              refine bodyPost_ret (results_cell_row rfl _ _ (w.heap.size + 1) 64 _ (0, 0) _ rfl (set12 hV1) und_series rfl size_series) rfl ?_
              exact ⟨⟨a', _, cap', s.cut⟩, rfl, rfl, one12_fin HS.out hz0 hsl hlo hBw2 hb3⟩
            exact AllReady.nil
          exact AllReady.nil
        exact AllReady.nil
      refine AllReady.cons rfl (fun K hK => ?_) ?_
      · go_simp
        refine hK _ _ ?_
        clear hK K
        refine wpAny_ready (rs := [4]) (by kernel_rfl) (by simp) ?_
        refine AllReady.cons rfl (fun K hK => ?_) ?_
        · go_simp
          refine hK _ _ ?_
          clear hK K
          refine wpAny_ready (rs := [5]) (by kernel_rfl) (by simp) ?_
          refine AllReady.cons rfl (fun K hK => ?_) ?_
          · go_simp
            refine (few10_any k s w2 hS2).mono ?_
            rintro e w3 ⟨rfl, hb3⟩
            unfold skVal
            have hV0 := (hb3.block w.heap.size (by omega)).trans hU0
            have hV1 := (hb3.block (w.heap.size + 1) (by omega)).trans hU1
            have t0 : w3.cell? ⟨w.heap.size, 0, none⟩ = some (.slice la ll lc) := cCc hV0 0
            have t1 : w3.cell? ⟨w.heap.size, 1, none⟩ = some (.int .i64 k.kind) := cCc hV0 1
            have t2 : w3.cell? ⟨w.heap.size, 2, none⟩ = some (.int .i64 k.level) := cCc hV0 2
            have t3 : w3.cell? ⟨w.heap.size, 3, none⟩ = some (.slice s.ea s.el s.ec) := cCc hV0 3
            have t4 : w3.cell? ⟨w.heap.size, 4, none⟩ = some (.int .i64 k.hb) := cCc hV0 4
            have t5 : w3.cell? ⟨w.heap.size, 5, none⟩ = some (.string k.hr) := cCc hV0 5
            have t6 : w3.cell? ⟨w.heap.size, 6, none⟩ = some (.int .i64 k.cr) := cCc hV0 6
            have t7 : w3.cell? ⟨w.heap.size, 7, none⟩ = some (.int .i64 k.cc) := cCc hV0 7
            have t8 : w3.cell? ⟨w.heap.size, 8, none⟩ = some (.slice s.ca s.cl s.cc) := cCc hV0 8
            have t9 : w3.cell? ⟨w.heap.size, 9, none⟩ = some (.int .i64 k.gf) := cCc hV0 9
            have t10 : w3.cell? ⟨w.heap.size, 10, none⟩ = some (.slice s.ga s.gl s.gc) := cCc hV0 10
            have t11 : w3.cell? ⟨w.heap.size, 11, none⟩ = some (.int .u64 seen) := cCc hV0 11
            have d0 : w3.cell? ⟨w.heap.size + 1, 0, none⟩ = some (.slice none 0 0) := cCc hV1 0
            have d1 : w3.cell? ⟨w.heap.size + 1, 1, none⟩ = some (.int .i64 0) := cCc hV1 1
            have d2 : w3.cell? ⟨w.heap.size + 1, 2, none⟩ = some (.int .i64 0) := cCc hV1 2
            have d3 : w3.cell? ⟨w.heap.size + 1, 3, none⟩ = some (.slice none 0 0) := cCc hV1 3
            have d4 : w3.cell? ⟨w.heap.size + 1, 4, none⟩ = some (.int .i64 0) := cCc hV1 4
            have d5 : w3.cell? ⟨w.heap.size + 1, 5, none⟩ = some (.string ⟨#[]⟩) := cCc hV1 5
            have d6 : w3.cell? ⟨w.heap.size + 1, 6, none⟩ = some (.int .i64 0) := cCc hV1 6
            have d7 : w3.cell? ⟨w.heap.size + 1, 7, none⟩ = some (.int .i64 0) := cCc hV1 7
            have d8 : w3.cell? ⟨w.heap.size + 1, 8, none⟩ = some (.slice none 0 0) := cCc hV1 8
            have d9 : w3.cell? ⟨w.heap.size + 1, 9, none⟩ = some (.int .i64 0) := cCc hV1 9
            have d10 : w3.cell? ⟨w.heap.size + 1, 10, none⟩ = some (.slice none 0 0) := cCc hV1 10
            have d11 : w3.cell? ⟨w.heap.size + 1, 11, none⟩ = some (.int .u64 0) := cCc hV1 11
            have f0 : w3.frozen? ⟨w.heap.size + 1, 0, none⟩ = false := cFz hV1 0
            have f1 : w3.frozen? ⟨w.heap.size + 1, 1, none⟩ = false := cFz hV1 1
            have f2 : w3.frozen? ⟨w.heap.size + 1, 2, none⟩ = false := cFz hV1 2
            have f3 : w3.frozen? ⟨w.heap.size + 1, 3, none⟩ = false := cFz hV1 3
            have f4 : w3.frozen? ⟨w.heap.size + 1, 4, none⟩ = false := cFz hV1 4
            have f5 : w3.frozen? ⟨w.heap.size + 1, 5, none⟩ = false := cFz hV1 5
            have f6 : w3.frozen? ⟨w.heap.size + 1, 6, none⟩ = false := cFz hV1 6
            have f7 : w3.frozen? ⟨w.heap.size + 1, 7, none⟩ = false := cFz hV1 7
            have f8 : w3.frozen? ⟨w.heap.size + 1, 8, none⟩ = false := cFz hV1 8
            have f9 : w3.frozen? ⟨w.heap.size + 1, 9, none⟩ = false := cFz hV1 9
            have f10 : w3.frozen? ⟨w.heap.size + 1, 10, none⟩ = false := cFz hV1 10
            have f11 : w3.frozen? ⟨w.heap.size + 1, 11, none⟩ = false := cFz hV1 11
            refine hK _ _ ?_
            clear hK K
            refine wpAny_take (i := 8) (v := ?_) rfl (by kernel_rfl) (by kernel_rfl) (by kernel_rfl) (fun _ _ _ h => h) (Or.inl ⟨by rfl, ?_⟩) ?_
            rotate_left
            · intro w; go_simp; with_reducible rfl
            refine wpAny_ready (rs := [9]) (by kernel_rfl) (by simp) ?_
            refine AllReady.cons rfl (fun K hK => ?_) ?_
            · go_simp
              refine hK _ _ ?_
              clear hK K
              refine wpAny_done (by kernel_rfl) ?_ _
              clear hY0 hY1 hU0 hU1 hV0 hb2 c0 c1 c2 c3 c4 c5 c6 c7 c8 c9 c10 c11 hE hS0 hS2 hBd
              go_wp2_with fail
              refine bodyPost_ret (results_cell_row rfl _ _ (w.heap.size + 1) 64 _ (0, 0) _ rfl (set12 hV1) und_series rfl size_series) rfl ?_
              exact ⟨⟨a', _, cap', s.cut⟩, rfl, rfl, one12_fin HS.out hz0 hsl hlo hBw2 hb3⟩
            exact AllReady.nil
          exact AllReady.nil
        exact AllReady.nil
      exact AllReady.nil
    refine AllReady.cons rfl (fun K hK => ?_) ?_
    · go_simp
      refine hK _ _ ?_
      clear hK K
      refine wpAny_ready (rs := [2, 7]) (by kernel_rfl) (by simp) ?_
      refine AllReady.cons rfl (fun K hK => ?_) ?_
      · go_simp
        refine (few04_any l la ll lc _ hE).mono ?_
        rintro e w2 ⟨a', cap', rfl, hsl, hlo, hb2⟩
        have hU0 := (hb2.block w.heap.size (by omega)).trans hY0
        have hU1 := (hb2.block (w.heap.size + 1) (by omega)).trans hY1
        have r0 : w2.cell? ⟨w.heap.size, 0, none⟩ = some (.slice la ll lc) := cCc hU0 0
        have r1 : w2.cell? ⟨w.heap.size, 1, none⟩ = some (.int .i64 k.kind) := cCc hU0 1
        have r2 : w2.cell? ⟨w.heap.size, 2, none⟩ = some (.int .i64 k.level) := cCc hU0 2
        have r3 : w2.cell? ⟨w.heap.size, 3, none⟩ = some (.slice s.ea s.el s.ec) := cCc hU0 3
        have r4 : w2.cell? ⟨w.heap.size, 4, none⟩ = some (.int .i64 k.hb) := cCc hU0 4
        have r5 : w2.cell? ⟨w.heap.size, 5, none⟩ = some (.string k.hr) := cCc hU0 5
        have r6 : w2.cell? ⟨w.heap.size, 6, none⟩ = some (.int .i64 k.cr) := cCc hU0 6
        have r7 : w2.cell? ⟨w.heap.size, 7, none⟩ = some (.int .i64 k.cc) := cCc hU0 7
        have r8 : w2.cell? ⟨w.heap.size, 8, none⟩ = some (.slice s.ca s.cl s.cc) := cCc hU0 8
        have r9 : w2.cell? ⟨w.heap.size, 9, none⟩ = some (.int .i64 k.gf) := cCc hU0 9
        have r10 : w2.cell? ⟨w.heap.size, 10, none⟩ = some (.slice s.ga s.gl s.gc) := cCc hU0 10
        have r11 : w2.cell? ⟨w.heap.size, 11, none⟩ = some (.int .u64 seen) := cCc hU0 11
        have hS2 : s.At w2.heap.size w2 k := (hS0.go ((Below.refl _ W0).drew)).go hb2
        have hz2 := hb2.size
        have hBw2 : Below w.heap.size w w2 := hBd.trans (hb2.mono (by omega))
        refine hK _ _ ?_
        clear hK K
        refine wpAny_ready (rs := [5, 7]) (by kernel_rfl) (by simp) ?_
        refine AllReady.cons rfl (fun K hK => ?_) ?_
        · go_simp
          refine (few10_any k s w2 hS2).mono ?_
          rintro e w3 ⟨rfl, hb3⟩
          unfold skVal
          have hV0 := (hb3.block w.heap.size (by omega)).trans hU0
          have hV1 := (hb3.block (w.heap.size + 1) (by omega)).trans hU1
          have t0 : w3.cell? ⟨w.heap.size, 0, none⟩ = some (.slice la ll lc) := cCc hV0 0
          have t1 : w3.cell? ⟨w.heap.size, 1, none⟩ = some (.int .i64 k.kind) := cCc hV0 1
          have t2 : w3.cell? ⟨w.heap.size, 2, none⟩ = some (.int .i64 k.level) := cCc hV0 2
          have t3 : w3.cell? ⟨w.heap.size, 3, none⟩ = some (.slice s.ea s.el s.ec) := cCc hV0 3
          have t4 : w3.cell? ⟨w.heap.size, 4, none⟩ = some (.int .i64 k.hb) := cCc hV0 4
          have t5 : w3.cell? ⟨w.heap.size, 5, none⟩ = some (.string k.hr) := cCc hV0 5
          have t6 : w3.cell? ⟨w.heap.size, 6, none⟩ = some (.int .i64 k.cr) := cCc hV0 6
          have t7 : w3.cell? ⟨w.heap.size, 7, none⟩ = some (.int .i64 k.cc) := cCc hV0 7
          have t8 : w3.cell? ⟨w.heap.size, 8, none⟩ = some (.slice s.ca s.cl s.cc) := cCc hV0 8
          have t9 : w3.cell? ⟨w.heap.size, 9, none⟩ = some (.int .i64 k.gf) := cCc hV0 9
          have t10 : w3.cell? ⟨w.heap.size, 10, none⟩ = some (.slice s.ga s.gl s.gc) := cCc hV0 10
          have t11 : w3.cell? ⟨w.heap.size, 11, none⟩ = some (.int .u64 seen) := cCc hV0 11
          have d0 : w3.cell? ⟨w.heap.size + 1, 0, none⟩ = some (.slice none 0 0) := cCc hV1 0
          have d1 : w3.cell? ⟨w.heap.size + 1, 1, none⟩ = some (.int .i64 0) := cCc hV1 1
          have d2 : w3.cell? ⟨w.heap.size + 1, 2, none⟩ = some (.int .i64 0) := cCc hV1 2
          have d3 : w3.cell? ⟨w.heap.size + 1, 3, none⟩ = some (.slice none 0 0) := cCc hV1 3
          have d4 : w3.cell? ⟨w.heap.size + 1, 4, none⟩ = some (.int .i64 0) := cCc hV1 4
          have d5 : w3.cell? ⟨w.heap.size + 1, 5, none⟩ = some (.string ⟨#[]⟩) := cCc hV1 5
          have d6 : w3.cell? ⟨w.heap.size + 1, 6, none⟩ = some (.int .i64 0) := cCc hV1 6
          have d7 : w3.cell? ⟨w.heap.size + 1, 7, none⟩ = some (.int .i64 0) := cCc hV1 7
          have d8 : w3.cell? ⟨w.heap.size + 1, 8, none⟩ = some (.slice none 0 0) := cCc hV1 8
          have d9 : w3.cell? ⟨w.heap.size + 1, 9, none⟩ = some (.int .i64 0) := cCc hV1 9
          have d10 : w3.cell? ⟨w.heap.size + 1, 10, none⟩ = some (.slice none 0 0) := cCc hV1 10
          have d11 : w3.cell? ⟨w.heap.size + 1, 11, none⟩ = some (.int .u64 0) := cCc hV1 11
          have f0 : w3.frozen? ⟨w.heap.size + 1, 0, none⟩ = false := cFz hV1 0
          have f1 : w3.frozen? ⟨w.heap.size + 1, 1, none⟩ = false := cFz hV1 1
          have f2 : w3.frozen? ⟨w.heap.size + 1, 2, none⟩ = false := cFz hV1 2
          have f3 : w3.frozen? ⟨w.heap.size + 1, 3, none⟩ = false := cFz hV1 3
          have f4 : w3.frozen? ⟨w.heap.size + 1, 4, none⟩ = false := cFz hV1 4
          have f5 : w3.frozen? ⟨w.heap.size + 1, 5, none⟩ = false := cFz hV1 5
          have f6 : w3.frozen? ⟨w.heap.size + 1, 6, none⟩ = false := cFz hV1 6
          have f7 : w3.frozen? ⟨w.heap.size + 1, 7, none⟩ = false := cFz hV1 7
          have f8 : w3.frozen? ⟨w.heap.size + 1, 8, none⟩ = false := cFz hV1 8
          have f9 : w3.frozen? ⟨w.heap.size + 1, 9, none⟩ = false := cFz hV1 9
          have f10 : w3.frozen? ⟨w.heap.size + 1, 10, none⟩ = false := cFz hV1 10
          have f11 : w3.frozen? ⟨w.heap.size + 1, 11, none⟩ = false := cFz hV1 11
          refine hK _ _ ?_
          clear hK K
          refine wpAny_ready (rs := [7]) (by kernel_rfl) (by simp) ?_
          refine AllReady.cons rfl (fun K hK => ?_) ?_
          · go_simp
            refine hK _ _ ?_
            clear hK K
            refine wpAny_take (i := 8) (v := ?_) rfl (by kernel_rfl) (by kernel_rfl) (by kernel_rfl) (fun _ _ _ h => h) (Or.inl ⟨by rfl, ?_⟩) ?_
            rotate_left
            · intro w; go_simp; with_reducible rfl
            refine wpAny_ready (rs := [9]) (by kernel_rfl) (by simp) ?_
            refine AllReady.cons rfl (fun K hK => ?_) ?_
            · go_simp
              refine hK _ _ ?_
              clear hK K
              refine wpAny_done (by kernel_rfl) ?_ _
              clear hY0 hY1 hU0 hU1 hV0 hb2 c0 c1 c2 c3 c4 c5 c6 c7 c8 c9 c10 c11 hE hS0 hS2 hBd
              go_wp2_with fail
              refine bodyPost_ret (results_cell_row rfl _ _ (w.heap.size + 1) 64 _ (0, 0) _ rfl (set12 hV1) und_series rfl size_series) rfl ?_
              exact ⟨⟨a', _, cap', s.cut⟩, rfl, rfl, one12_fin HS.out hz0 hsl hlo hBw2 hb3⟩
            exact AllReady.nil
          exact AllReady.nil
        refine AllReady.cons rfl (fun K hK => ?_) ?_
        · go_simp
          refine hK _ _ ?_
          clear hK K
          refine wpAny_ready (rs := [5]) (by kernel_rfl) (by simp) ?_
          refine AllReady.cons rfl (fun K hK => ?_) ?_
          · go_simp
            refine (few10_any k s w2 hS2).mono ?_
            rintro e w3 ⟨rfl, hb3⟩
            unfold skVal
            have hV0 := (hb3.block w.heap.size (by omega)).trans hU0
            have hV1 := (hb3.block (w.heap.size + 1) (by omega)).trans hU1
            have t0 : w3.cell? ⟨w.heap.size, 0, none⟩ = some (.slice la ll lc) := cCc hV0 0
            have t1 : w3.cell? ⟨w.heap.size, 1, none⟩ = some (.int .i64 k.kind) := cCc hV0 1
            have t2 : w3.cell? ⟨w.heap.size, 2, none⟩ = some (.int .i64 k.level) := cCc hV0 2
            have t3 : w3.cell? ⟨w.heap.size, 3, none⟩ = some (.slice s.ea s.el s.ec) := cCc hV0 3
            have t4 : w3.cell? ⟨w.heap.size, 4, none⟩ = some (.int .i64 k.hb) := cCc hV0 4
            have t5 : w3.cell? ⟨w.heap.size, 5, none⟩ = some (.string k.hr) := cCc hV0 5
            have t6 : w3.cell? ⟨w.heap.size, 6, none⟩ = some (.int .i64 k.cr) := cCc hV0 6
            have t7 : w3.cell? ⟨w.heap.size, 7, none⟩ = some (.int .i64 k.cc) := cCc hV0 7
            have t8 : w3.cell? ⟨w.heap.size, 8, none⟩ = some (.slice s.ca s.cl s.cc) := cCc hV0 8
            have t9 : w3.cell? ⟨w.heap.size, 9, none⟩ = some (.int .i64 k.gf) := cCc hV0 9
            have t10 : w3.cell? ⟨w.heap.size, 10, none⟩ = some (.slice s.ga s.gl s.gc) := cCc hV0 10
            have t11 : w3.cell? ⟨w.heap.size, 11, none⟩ = some (.int .u64 seen) := cCc hV0 11
            have d0 : w3.cell? ⟨w.heap.size + 1, 0, none⟩ = some (.slice none 0 0) := cCc hV1 0
            have d1 : w3.cell? ⟨w.heap.size + 1, 1, none⟩ = some (.int .i64 0) := cCc hV1 1
            have d2 : w3.cell? ⟨w.heap.size + 1, 2, none⟩ = some (.int .i64 0) := cCc hV1 2
            have d3 : w3.cell? ⟨w.heap.size + 1, 3, none⟩ = some (.slice none 0 0) := cCc hV1 3
            have d4 : w3.cell? ⟨w.heap.size + 1, 4, none⟩ = some (.int .i64 0) := cCc hV1 4
            have d5 : w3.cell? ⟨w.heap.size + 1, 5, none⟩ = some (.string ⟨#[]⟩) := cCc hV1 5
            have d6 : w3.cell? ⟨w.heap.size + 1, 6, none⟩ = some (.int .i64 0) := cCc hV1 6
            have d7 : w3.cell? ⟨w.heap.size + 1, 7, none⟩ = some (.int .i64 0) := cCc hV1 7
            have d8 : w3.cell? ⟨w.heap.size + 1, 8, none⟩ = some (.slice none 0 0) := cCc hV1 8
            have d9 : w3.cell? ⟨w.heap.size + 1, 9, none⟩ = some (.int .i64 0) := cCc hV1 9
            have d10 : w3.cell? ⟨w.heap.size + 1, 10, none⟩ = some (.slice none 0 0) := cCc hV1 10
            have d11 : w3.cell? ⟨w.heap.size + 1, 11, none⟩ = some (.int .u64 0) := cCc hV1 11
            have f0 : w3.frozen? ⟨w.heap.size + 1, 0, none⟩ = false := cFz hV1 0
            have f1 : w3.frozen? ⟨w.heap.size + 1, 1, none⟩ = false := cFz hV1 1
            have f2 : w3.frozen? ⟨w.heap.size + 1, 2, none⟩ = false := cFz hV1 2
            have f3 : w3.frozen? ⟨w.heap.size + 1, 3, none⟩ = false := cFz hV1 3
            have f4 : w3.frozen? ⟨w.heap.size + 1, 4, none⟩ = false := cFz hV1 4
            have f5 : w3.frozen? ⟨w.heap.size + 1, 5, none⟩ = false := cFz hV1 5
            have f6 : w3.frozen? ⟨w.heap.size + 1, 6, none⟩ = false := cFz hV1 6
            have f7 : w3.frozen? ⟨w.heap.size + 1, 7, none⟩ = false := cFz hV1 7
            have f8 : w3.frozen? ⟨w.heap.size + 1, 8, none⟩ = false := cFz hV1 8
            have f9 : w3.frozen? ⟨w.heap.size + 1, 9, none⟩ = false := cFz hV1 9
            have f10 : w3.frozen? ⟨w.heap.size + 1, 10, none⟩ = false := cFz hV1 10
            have f11 : w3.frozen? ⟨w.heap.size + 1, 11, none⟩ = false := cFz hV1 11
            refine hK _ _ ?_
            clear hK K
            refine wpAny_take (i := 8) (v := ?_) rfl (by kernel_rfl) (by kernel_rfl) (by kernel_rfl) (fun _ _ _ h => h) (Or.inl ⟨by rfl, ?_⟩) ?_
            rotate_left
            · intro w; go_simp; with_reducible rfl
            refine wpAny_ready (rs := [9]) (by kernel_rfl) (by simp) ?_
            refine AllReady.cons rfl (fun K hK => ?_) ?_
            · go_simp
              refine hK _ _ ?_
              clear hK K
              refine wpAny_done (by kernel_rfl) ?_ _
              clear hY0 hY1 hU0 hU1 hV0 hb2 c0 c1 c2 c3 c4 c5 c6 c7 c8 c9 c10 c11 hE hS0 hS2 hBd
              go_wp2_with fail
              refine bodyPost_ret (results_cell_row rfl _ _ (w.heap.size + 1) 64 _ (0, 0) _ rfl (set12 hV1) und_series rfl size_series) rfl ?_
              exact ⟨⟨a', _, cap', s.cut⟩, rfl, rfl, one12_fin HS.out hz0 hsl hlo hBw2 hb3⟩
            exact AllReady.nil
          exact AllReady.nil
        exact AllReady.nil
      refine AllReady.cons rfl (fun K hK => ?_) ?_
      · go_simp
        refine hK _ _ ?_
        clear hK K
        refine wpAny_ready (rs := [2]) (by kernel_rfl) (by simp) ?_
        refine AllReady.cons rfl (fun K hK => ?_) ?_
        · go_simp
          refine (few04_any l la ll lc _ hE).mono ?_
          rintro e w2 ⟨a', cap', rfl, hsl, hlo, hb2⟩
          have hU0 := (hb2.block w.heap.size (by omega)).trans hY0
          have hU1 := (hb2.block (w.heap.size + 1) (by omega)).trans hY1
          have r0 : w2.cell? ⟨w.heap.size, 0, none⟩ = some (.slice la ll lc) := cCc hU0 0
          have r1 : w2.cell? ⟨w.heap.size, 1, none⟩ = some (.int .i64 k.kind) := cCc hU0 1
          have r2 : w2.cell? ⟨w.heap.size, 2, none⟩ = some (.int .i64 k.level) := cCc hU0 2
          have r3 : w2.cell? ⟨w.heap.size, 3, none⟩ = some (.slice s.ea s.el s.ec) := cCc hU0 3
          have r4 : w2.cell? ⟨w.heap.size, 4, none⟩ = some (.int .i64 k.hb) := cCc hU0 4
          have r5 : w2.cell? ⟨w.heap.size, 5, none⟩ = some (.string k.hr) := cCc hU0 5
          have r6 : w2.cell? ⟨w.heap.size, 6, none⟩ = some (.int .i64 k.cr) := cCc hU0 6
          have r7 : w2.cell? ⟨w.heap.size, 7, none⟩ = some (.int .i64 k.cc) := cCc hU0 7
          have r8 : w2.cell? ⟨w.heap.size, 8, none⟩ = some (.slice s.ca s.cl s.cc) := cCc hU0 8
          have r9 : w2.cell? ⟨w.heap.size, 9, none⟩ = some (.int .i64 k.gf) := cCc hU0 9
          have r10 : w2.cell? ⟨w.heap.size, 10, none⟩ = some (.slice s.ga s.gl s.gc) := cCc hU0 10
          have r11 : w2.cell? ⟨w.heap.size, 11, none⟩ = some (.int .u64 seen) := cCc hU0 11
          have hS2 : s.At w2.heap.size w2 k := (hS0.go ((Below.refl _ W0).drew)).go hb2
          have hz2 := hb2.size
          have hBw2 : Below w.heap.size w w2 := hBd.trans (hb2.mono (by omega))
          refine hK _ _ ?_
          clear hK K
          refine wpAny_ready (rs := [5]) (by kernel_rfl) (by simp) ?_
          refine AllReady.cons rfl (fun K hK => ?_) ?_
          · go_simp
            refine (few10_any k s w2 hS2).mono ?_
            rintro e w3 ⟨rfl, hb3⟩
            unfold skVal
            have hV0 := (hb3.block w.heap.size (by omega)).trans hU0
            have hV1 := (hb3.block (w.heap.size + 1) (by omega)).trans hU1
            have t0 : w3.cell? ⟨w.heap.size, 0, none⟩ = some (.slice la ll lc) := cCc hV0 0
            have t1 : w3.cell? ⟨w.heap.size, 1, none⟩ = some (.int .i64 k.kind) := cCc hV0 1
            have t2 : w3.cell? ⟨w.heap.size, 2, none⟩ = some (.int .i64 k.level) := cCc hV0 2
            have t3 : w3.cell? ⟨w.heap.size, 3, none⟩ = some (.slice s.ea s.el s.ec) := cCc hV0 3
            have t4 : w3.cell? ⟨w.heap.size, 4, none⟩ = some (.int .i64 k.hb) := cCc hV0 4
            have t5 : w3.cell? ⟨w.heap.size, 5, none⟩ = some (.string k.hr) := cCc hV0 5
            have t6 : w3.cell? ⟨w.heap.size, 6, none⟩ = some (.int .i64 k.cr) := cCc hV0 6
            have t7 : w3.cell? ⟨w.heap.size, 7, none⟩ = some (.int .i64 k.cc) := cCc hV0 7
            have t8 : w3.cell? ⟨w.heap.size, 8, none⟩ = some (.slice s.ca s.cl s.cc) := cCc hV0 8
            have t9 : w3.cell? ⟨w.heap.size, 9, none⟩ = some (.int .i64 k.gf) := cCc hV0 9
            have t10 : w3.cell? ⟨w.heap.size, 10, none⟩ = some (.slice s.ga s.gl s.gc) := cCc hV0 10
            have t11 : w3.cell? ⟨w.heap.size, 11, none⟩ = some (.int .u64 seen) := cCc hV0 11
            have d0 : w3.cell? ⟨w.heap.size + 1, 0, none⟩ = some (.slice none 0 0) := cCc hV1 0
            have d1 : w3.cell? ⟨w.heap.size + 1, 1, none⟩ = some (.int .i64 0) := cCc hV1 1
            have d2 : w3.cell? ⟨w.heap.size + 1, 2, none⟩ = some (.int .i64 0) := cCc hV1 2
            have d3 : w3.cell? ⟨w.heap.size + 1, 3, none⟩ = some (.slice none 0 0) := cCc hV1 3
            have d4 : w3.cell? ⟨w.heap.size + 1, 4, none⟩ = some (.int .i64 0) := cCc hV1 4
            have d5 : w3.cell? ⟨w.heap.size + 1, 5, none⟩ = some (.string ⟨#[]⟩) := cCc hV1 5
            have d6 : w3.cell? ⟨w.heap.size + 1, 6, none⟩ = some (.int .i64 0) := cCc hV1 6
            have d7 : w3.cell? ⟨w.heap.size + 1, 7, none⟩ = some (.int .i64 0) := cCc hV1 7
            have d8 : w3.cell? ⟨w.heap.size + 1, 8, none⟩ = some (.slice none 0 0) := cCc hV1 8
            have d9 : w3.cell? ⟨w.heap.size + 1, 9, none⟩ = some (.int .i64 0) := cCc hV1 9
            have d10 : w3.cell? ⟨w.heap.size + 1, 10, none⟩ = some (.slice none 0 0) := cCc hV1 10
            have d11 : w3.cell? ⟨w.heap.size + 1, 11, none⟩ = some (.int .u64 0) := cCc hV1 11
            have f0 : w3.frozen? ⟨w.heap.size + 1, 0, none⟩ = false := cFz hV1 0
            have f1 : w3.frozen? ⟨w.heap.size + 1, 1, none⟩ = false := cFz hV1 1
            have f2 : w3.frozen? ⟨w.heap.size + 1, 2, none⟩ = false := cFz hV1 2
            have f3 : w3.frozen? ⟨w.heap.size + 1, 3, none⟩ = false := cFz hV1 3
            have f4 : w3.frozen? ⟨w.heap.size + 1, 4, none⟩ = false := cFz hV1 4
            have f5 : w3.frozen? ⟨w.heap.size + 1, 5, none⟩ = false := cFz hV1 5
            have f6 : w3.frozen? ⟨w.heap.size + 1, 6, none⟩ = false := cFz hV1 6
            have f7 : w3.frozen? ⟨w.heap.size + 1, 7, none⟩ = false := cFz hV1 7
            have f8 : w3.frozen? ⟨w.heap.size + 1, 8, none⟩ = false := cFz hV1 8
            have f9 : w3.frozen? ⟨w.heap.size + 1, 9, none⟩ = false := cFz hV1 9
            have f10 : w3.frozen? ⟨w.heap.size + 1, 10, none⟩ = false := cFz hV1 10
            have f11 : w3.frozen? ⟨w.heap.size + 1, 11, none⟩ = false := cFz hV1 11
            refine hK _ _ ?_
            clear hK K
            refine wpAny_take (i := 8) (v := ?_) rfl (by kernel_rfl) (by kernel_rfl) (by kernel_rfl) (fun _ _ _ h => h) (Or.inl ⟨by rfl, ?_⟩) ?_
            rotate_left
            · intro w; go_simp; with_reducible rfl
            refine wpAny_ready (rs := [9]) (by kernel_rfl) (by simp) ?_
            refine AllReady.cons rfl (fun K hK => ?_) ?_
            · go_simp
              refine hK _ _ ?_
              clear hK K
              refine wpAny_done (by kernel_rfl) ?_ _
              clear hY0 hY1 hU0 hU1 hV0 hb2 c0 c1 c2 c3 c4 c5 c6 c7 c8 c9 c10 c11 hE hS0 hS2 hBd
              go_wp2_with fail
              refine bodyPost_ret (results_cell_row rfl _ _ (w.heap.size + 1) 64 _ (0, 0) _ rfl (set12 hV1) und_series rfl size_series) rfl ?_
              exact ⟨⟨a', _, cap', s.cut⟩, rfl, rfl, one12_fin HS.out hz0 hsl hlo hBw2 hb3⟩
            exact AllReady.nil
          exact AllReady.nil
        exact AllReady.nil
      exact AllReady.nil
    refine AllReady.cons rfl (fun K hK => ?_) ?_
    · go_simp
      refine hK _ _ ?_
      clear hK K
      refine wpAny_ready (rs := [2, 4]) (by kernel_rfl) (by simp) ?_
      refine AllReady.cons rfl (fun K hK => ?_) ?_
      · go_simp
        refine (few04_any l la ll lc _ hE).mono ?_
        rintro e w2 ⟨a', cap', rfl, hsl, hlo, hb2⟩
        have hU0 := (hb2.block w.heap.size (by omega)).trans hY0
        have hU1 := (hb2.block (w.heap.size + 1) (by omega)).trans hY1
        have r0 : w2.cell? ⟨w.heap.size, 0, none⟩ = some (.slice la ll lc) := cCc hU0 0
        have r1 : w2.cell? ⟨w.heap.size, 1, none⟩ = some (.int .i64 k.kind) := cCc hU0 1
        have r2 : w2.cell? ⟨w.heap.size, 2, none⟩ = some (.int .i64 k.level) := cCc hU0 2
        have r3 : w2.cell? ⟨w.heap.size, 3, none⟩ = some (.slice s.ea s.el s.ec) := cCc hU0 3
        have r4 : w2.cell? ⟨w.heap.size, 4, none⟩ = some (.int .i64 k.hb) := cCc hU0 4
        have r5 : w2.cell? ⟨w.heap.size, 5, none⟩ = some (.string k.hr) := cCc hU0 5
        have r6 : w2.cell? ⟨w.heap.size, 6, none⟩ = some (.int .i64 k.cr) := cCc hU0 6
        have r7 : w2.cell? ⟨w.heap.size, 7, none⟩ = some (.int .i64 k.cc) := cCc hU0 7
        have r8 : w2.cell? ⟨w.heap.size, 8, none⟩ = some (.slice s.ca s.cl s.cc) := cCc hU0 8
        have r9 : w2.cell? ⟨w.heap.size, 9, none⟩ = some (.int .i64 k.gf) := cCc hU0 9
        have r10 : w2.cell? ⟨w.heap.size, 10, none⟩ = some (.slice s.ga s.gl s.gc) := cCc hU0 10
        have r11 : w2.cell? ⟨w.heap.size, 11, none⟩ = some (.int .u64 seen) := cCc hU0 11
        have hS2 : s.At w2.heap.size w2 k := (hS0.go ((Below.refl _ W0).drew)).go hb2
        have hz2 := hb2.size
        have hBw2 : Below w.heap.size w w2 := hBd.trans (hb2.mono (by omega))
        refine hK _ _ ?_
        clear hK K
        refine wpAny_ready (rs := [4]) (by kernel_rfl) (by simp) ?_
        refine AllReady.cons rfl (fun K hK => ?_) ?_
        · go_simp
          refine hK _ _ ?_
          clear hK K
          refine wpAny_ready (rs := [5]) (by kernel_rfl) (by simp) ?_
          refine AllReady.cons rfl (fun K hK => ?_) ?_
          · go_simp
            refine (few10_any k s w2 hS2).mono ?_
            rintro e w3 ⟨rfl, hb3⟩
            unfold skVal
            have hV0 := (hb3.block w.heap.size (by omega)).trans hU0
            have hV1 := (hb3.block (w.heap.size + 1) (by omega)).trans hU1
            have t0 : w3.cell? ⟨w.heap.size, 0, none⟩ = some (.slice la ll lc) := cCc hV0 0
            have t1 : w3.cell? ⟨w.heap.size, 1, none⟩ = some (.int .i64 k.kind) := cCc hV0 1
            have t2 : w3.cell? ⟨w.heap.size, 2, none⟩ = some (.int .i64 k.level) := cCc hV0 2
            have t3 : w3.cell? ⟨w.heap.size, 3, none⟩ = some (.slice s.ea s.el s.ec) := cCc hV0 3
            have t4 : w3.cell? ⟨w.heap.size, 4, none⟩ = some (.int .i64 k.hb) := cCc hV0 4
            have t5 : w3.cell? ⟨w.heap.size, 5, none⟩ = some (.string k.hr) := cCc hV0 5
            have t6 : w3.cell? ⟨w.heap.size, 6, none⟩ = some (.int .i64 k.cr) := cCc hV0 6
            have t7 : w3.cell? ⟨w.heap.size, 7, none⟩ = some (.int .i64 k.cc) := cCc hV0 7
            have t8 : w3.cell? ⟨w.heap.size, 8, none⟩ = some (.slice s.ca s.cl s.cc) := cCc hV0 8
            have t9 : w3.cell? ⟨w.heap.size, 9, none⟩ = some (.int .i64 k.gf) := cCc hV0 9
            have t10 : w3.cell? ⟨w.heap.size, 10, none⟩ = some (.slice s.ga s.gl s.gc) := cCc hV0 10
            have t11 : w3.cell? ⟨w.heap.size, 11, none⟩ = some (.int .u64 seen) := cCc hV0 11
            have d0 : w3.cell? ⟨w.heap.size + 1, 0, none⟩ = some (.slice none 0 0) := cCc hV1 0
            have d1 : w3.cell? ⟨w.heap.size + 1, 1, none⟩ = some (.int .i64 0) := cCc hV1 1
            have d2 : w3.cell? ⟨w.heap.size + 1, 2, none⟩ = some (.int .i64 0) := cCc hV1 2
            have d3 : w3.cell? ⟨w.heap.size + 1, 3, none⟩ = some (.slice none 0 0) := cCc hV1 3
            have d4 : w3.cell? ⟨w.heap.size + 1, 4, none⟩ = some (.int .i64 0) := cCc hV1 4
            have d5 : w3.cell? ⟨w.heap.size + 1, 5, none⟩ = some (.string ⟨#[]⟩) := cCc hV1 5
            have d6 : w3.cell? ⟨w.heap.size + 1, 6, none⟩ = some (.int .i64 0) := cCc hV1 6
            have d7 : w3.cell? ⟨w.heap.size + 1, 7, none⟩ = some (.int .i64 0) := cCc hV1 7
            have d8 : w3.cell? ⟨w.heap.size + 1, 8, none⟩ = some (.slice none 0 0) := cCc hV1 8
            have d9 : w3.cell? ⟨w.heap.size + 1, 9, none⟩ = some (.int .i64 0) := cCc hV1 9
            have d10 : w3.cell? ⟨w.heap.size + 1, 10, none⟩ = some (.slice none 0 0) := cCc hV1 10
            have d11 : w3.cell? ⟨w.heap.size + 1, 11, none⟩ = some (.int .u64 0) := cCc hV1 11
            have f0 : w3.frozen? ⟨w.heap.size + 1, 0, none⟩ = false := cFz hV1 0
            have f1 : w3.frozen? ⟨w.heap.size + 1, 1, none⟩ = false := cFz hV1 1
            have f2 : w3.frozen? ⟨w.heap.size + 1, 2, none⟩ = false := cFz hV1 2
            have f3 : w3.frozen? ⟨w.heap.size + 1, 3, none⟩ = false := cFz hV1 3
            have f4 : w3.frozen? ⟨w.heap.size + 1, 4, none⟩ = false := cFz hV1 4
            have f5 : w3.frozen? ⟨w.heap.size + 1, 5, none⟩ = false := cFz hV1 5
            have f6 : w3.frozen? ⟨w.heap.size + 1, 6, none⟩ = false := cFz hV1 6
            have f7 : w3.frozen? ⟨w.heap.size + 1, 7, none⟩ = false := cFz hV1 7
            have f8 : w3.frozen? ⟨w.heap.size + 1, 8, none⟩ = false := cFz hV1 8
            have f9 : w3.frozen? ⟨w.heap.size + 1, 9, none⟩ = false := cFz hV1 9
            have f10 : w3.frozen? ⟨w.heap.size + 1, 10, none⟩ = false := cFz hV1 10
            have f11 : w3.frozen? ⟨w.heap.size + 1, 11, none⟩ = false := cFz hV1 11
            refine hK _ _ ?_
            clear hK K
            refine wpAny_take (i := 8) (v := ?_) rfl (by kernel_rfl) (by kernel_rfl) (by kernel_rfl) (fun _ _ _ h => h) (Or.inl ⟨by rfl, ?_⟩) ?_
            rotate_left
            · intro w; go_simp; with_reducible rfl
            refine wpAny_ready (rs := [9]) (by kernel_rfl) (by simp) ?_
            refine AllReady.cons rfl (fun K hK => ?_) ?_
            · go_simp
              refine hK _ _ ?_
              clear hK K
              refine wpAny_done (by kernel_rfl) ?_ _
              clear hY0 hY1 hU0 hU1 hV0 hb2 c0 c1 c2 c3 c4 c5 c6 c7 c8 c9 c10 c11 hE hS0 hS2 hBd
              go_wp2_with fail
              refine bodyPost_ret (results_cell_row rfl _ _ (w.heap.size + 1) 64 _ (0, 0) _ rfl (set12 hV1) und_series rfl size_series) rfl ?_
              exact ⟨⟨a', _, cap', s.cut⟩, rfl, rfl, one12_fin HS.out hz0 hsl hlo hBw2 hb3⟩
            exact AllReady.nil
          exact AllReady.nil
        exact AllReady.nil
      refine AllReady.cons rfl (fun K hK => ?_) ?_
      · go_simp
        refine hK _ _ ?_
        clear hK K
        refine wpAny_ready (rs := [2]) (by kernel_rfl) (by simp) ?_
        refine AllReady.cons rfl (fun K hK => ?_) ?_
        · go_simp
          refine (few04_any l la ll lc _ hE).mono ?_
          rintro e w2 ⟨a', cap', rfl, hsl, hlo, hb2⟩
          have hU0 := (hb2.block w.heap.size (by omega)).trans hY0
          have hU1 := (hb2.block (w.heap.size + 1) (by omega)).trans hY1
          have r0 : w2.cell? ⟨w.heap.size, 0, none⟩ = some (.slice la ll lc) := cCc hU0 0
          have r1 : w2.cell? ⟨w.heap.size, 1, none⟩ = some (.int .i64 k.kind) := cCc hU0 1
          have r2 : w2.cell? ⟨w.heap.size, 2, none⟩ = some (.int .i64 k.level) := cCc hU0 2
          have r3 : w2.cell? ⟨w.heap.size, 3, none⟩ = some (.slice s.ea s.el s.ec) := cCc hU0 3
          have r4 : w2.cell? ⟨w.heap.size, 4, none⟩ = some (.int .i64 k.hb) := cCc hU0 4
          have r5 : w2.cell? ⟨w.heap.size, 5, none⟩ = some (.string k.hr) := cCc hU0 5
          have r6 : w2.cell? ⟨w.heap.size, 6, none⟩ = some (.int .i64 k.cr) := cCc hU0 6
          have r7 : w2.cell? ⟨w.heap.size, 7, none⟩ = some (.int .i64 k.cc) := cCc hU0 7
          have r8 : w2.cell? ⟨w.heap.size, 8, none⟩ = some (.slice s.ca s.cl s.cc) := cCc hU0 8
          have r9 : w2.cell? ⟨w.heap.size, 9, none⟩ = some (.int .i64 k.gf) := cCc hU0 9
          have r10 : w2.cell? ⟨w.heap.size, 10, none⟩ = some (.slice s.ga s.gl s.gc) := cCc hU0 10
          have r11 : w2.cell? ⟨w.heap.size, 11, none⟩ = some (.int .u64 seen) := cCc hU0 11
          have hS2 : s.At w2.heap.size w2 k := (hS0.go ((Below.refl _ W0).drew)).go hb2
          have hz2 := hb2.size
          have hBw2 : Below w.heap.size w w2 := hBd.trans (hb2.mono (by omega))
          refine hK _ _ ?_
          clear hK K
          refine wpAny_ready (rs := [5]) (by kernel_rfl) (by simp) ?_
          refine AllReady.cons rfl (fun K hK => ?_) ?_
          · go_simp
            refine (few10_any k s w2 hS2).mono ?_
            rintro e w3 ⟨rfl, hb3⟩
            unfold skVal
            have hV0 := (hb3.block w.heap.size (by omega)).trans hU0
            have hV1 := (hb3.block (w.heap.size + 1) (by omega)).trans hU1
            have t0 : w3.cell? ⟨w.heap.size, 0, none⟩ = some (.slice la ll lc) := cCc hV0 0
            have t1 : w3.cell? ⟨w.heap.size, 1, none⟩ = some (.int .i64 k.kind) := cCc hV0 1
            have t2 : w3.cell? ⟨w.heap.size, 2, none⟩ = some (.int .i64 k.level) := cCc hV0 2
            have t3 : w3.cell? ⟨w.heap.size, 3, none⟩ = some (.slice s.ea s.el s.ec) := cCc hV0 3
            have t4 : w3.cell? ⟨w.heap.size, 4, none⟩ = some (.int .i64 k.hb) := cCc hV0 4
            have t5 : w3.cell? ⟨w.heap.size, 5, none⟩ = some (.string k.hr) := cCc hV0 5
            have t6 : w3.cell? ⟨w.heap.size, 6, none⟩ = some (.int .i64 k.cr) := cCc hV0 6
            have t7 : w3.cell? ⟨w.heap.size, 7, none⟩ = some (.int .i64 k.cc) := cCc hV0 7
            have t8 : w3.cell? ⟨w.heap.size, 8, none⟩ = some (.slice s.ca s.cl s.cc) := cCc hV0 8
            have t9 : w3.cell? ⟨w.heap.size, 9, none⟩ = some (.int .i64 k.gf) := cCc hV0 9
            have t10 : w3.cell? ⟨w.heap.size, 10, none⟩ = some (.slice s.ga s.gl s.gc) := cCc hV0 10
            have t11 : w3.cell? ⟨w.heap.size, 11, none⟩ = some (.int .u64 seen) := cCc hV0 11
            have d0 : w3.cell? ⟨w.heap.size + 1, 0, none⟩ = some (.slice none 0 0) := cCc hV1 0
            have d1 : w3.cell? ⟨w.heap.size + 1, 1, none⟩ = some (.int .i64 0) := cCc hV1 1
            have d2 : w3.cell? ⟨w.heap.size + 1, 2, none⟩ = some (.int .i64 0) := cCc hV1 2
            have d3 : w3.cell? ⟨w.heap.size + 1, 3, none⟩ = some (.slice none 0 0) := cCc hV1 3
            have d4 : w3.cell? ⟨w.heap.size + 1, 4, none⟩ = some (.int .i64 0) := cCc hV1 4
            have d5 : w3.cell? ⟨w.heap.size + 1, 5, none⟩ = some (.string ⟨#[]⟩) := cCc hV1 5
            have d6 : w3.cell? ⟨w.heap.size + 1, 6, none⟩ = some (.int .i64 0) := cCc hV1 6
            have d7 : w3.cell? ⟨w.heap.size + 1, 7, none⟩ = some (.int .i64 0) := cCc hV1 7
            have d8 : w3.cell? ⟨w.heap.size + 1, 8, none⟩ = some (.slice none 0 0) := cCc hV1 8
            have d9 : w3.cell? ⟨w.heap.size + 1, 9, none⟩ = some (.int .i64 0) := cCc hV1 9
            have d10 : w3.cell? ⟨w.heap.size + 1, 10, none⟩ = some (.slice none 0 0) := cCc hV1 10
            have d11 : w3.cell? ⟨w.heap.size + 1, 11, none⟩ = some (.int .u64 0) := cCc hV1 11
            have f0 : w3.frozen? ⟨w.heap.size + 1, 0, none⟩ = false := cFz hV1 0
            have f1 : w3.frozen? ⟨w.heap.size + 1, 1, none⟩ = false := cFz hV1 1
            have f2 : w3.frozen? ⟨w.heap.size + 1, 2, none⟩ = false := cFz hV1 2
            have f3 : w3.frozen? ⟨w.heap.size + 1, 3, none⟩ = false := cFz hV1 3
            have f4 : w3.frozen? ⟨w.heap.size + 1, 4, none⟩ = false := cFz hV1 4
            have f5 : w3.frozen? ⟨w.heap.size + 1, 5, none⟩ = false := cFz hV1 5
            have f6 : w3.frozen? ⟨w.heap.size + 1, 6, none⟩ = false := cFz hV1 6
            have f7 : w3.frozen? ⟨w.heap.size + 1, 7, none⟩ = false := cFz hV1 7
            have f8 : w3.frozen? ⟨w.heap.size + 1, 8, none⟩ = false := cFz hV1 8
            have f9 : w3.frozen? ⟨w.heap.size + 1, 9, none⟩ = false := cFz hV1 9
            have f10 : w3.frozen? ⟨w.heap.size + 1, 10, none⟩ = false := cFz hV1 10
            have f11 : w3.frozen? ⟨w.heap.size + 1, 11, none⟩ = false := cFz hV1 11
            refine hK _ _ ?_
            clear hK K
            refine wpAny_take (i := 8) (v := ?_) rfl (by kernel_rfl) (by kernel_rfl) (by kernel_rfl) (fun _ _ _ h => h) (Or.inl ⟨by rfl, ?_⟩) ?_
            rotate_left
            · intro w; go_simp; with_reducible rfl
            refine wpAny_ready (rs := [9]) (by kernel_rfl) (by simp) ?_
            refine AllReady.cons rfl (fun K hK => ?_) ?_
            · go_simp
              refine hK _ _ ?_
              clear hK K
              refine wpAny_done (by kernel_rfl) ?_ _
              clear hY0 hY1 hU0 hU1 hV0 hb2 c0 c1 c2 c3 c4 c5 c6 c7 c8 c9 c10 c11 hE hS0 hS2 hBd
              go_wp2_with fail
              refine bodyPost_ret (results_cell_row rfl _ _ (w.heap.size + 1) 64 _ (0, 0) _ rfl (set12 hV1) und_series rfl size_series) rfl ?_
              exact ⟨⟨a', _, cap', s.cut⟩, rfl, rfl, one12_fin HS.out hz0 hsl hlo hBw2 hb3⟩
            exact AllReady.nil
          exact AllReady.nil
        exact AllReady.nil
      exact AllReady.nil
    exact AllReady.nil
  refine AllReady.cons rfl (fun K hK => ?_) ?_
  · go_simp
    refine hK _ _ ?_
    clear hK K
    refine wpAny_ready (rs := [1, 7]) (by kernel_rfl) (by simp) ?_
    refine AllReady.cons rfl (fun K hK => ?_) ?_
    · go_simp
      refine hK _ _ ?_
      clear hK K
      refine wpAny_ready (rs := [2, 7]) (by kernel_rfl) (by simp) ?_
      refine AllReady.cons rfl (fun K hK => ?_) ?_
      · go_simp
        refine (few04_any l la ll lc _ hE).mono ?_
        rintro e w2 ⟨a', cap', rfl, hsl, hlo, hb2⟩
        have hU0 := (hb2.block w.heap.size (by omega)).trans hY0
        have hU1 := (hb2.block (w.heap.size + 1) (by omega)).trans hY1
        have r0 : w2.cell? ⟨w.heap.size, 0, none⟩ = some (.slice la ll lc) := cCc hU0 0
        have r1 : w2.cell? ⟨w.heap.size, 1, none⟩ = some (.int .i64 k.kind) := cCc hU0 1
        have r2 : w2.cell? ⟨w.heap.size, 2, none⟩ = some (.int .i64 k.level) := cCc hU0 2
        have r3 : w2.cell? ⟨w.heap.size, 3, none⟩ = some (.slice s.ea s.el s.ec) := cCc hU0 3
        have r4 : w2.cell? ⟨w.heap.size, 4, none⟩ = some (.int .i64 k.hb) := cCc hU0 4
        have r5 : w2.cell? ⟨w.heap.size, 5, none⟩ = some (.string k.hr) := cCc hU0 5
        have r6 : w2.cell? ⟨w.heap.size, 6, none⟩ = some (.int .i64 k.cr) := cCc hU0 6
        have r7 : w2.cell? ⟨w.heap.size, 7, none⟩ = some (.int .i64 k.cc) := cCc hU0 7
        have r8 : w2.cell? ⟨w.heap.size, 8, none⟩ = some (.slice s.ca s.cl s.cc) := cCc hU0 8
        have r9 : w2.cell? ⟨w.heap.size, 9, none⟩ = some (.int .i64 k.gf) := cCc hU0 9
        have r10 : w2.cell? ⟨w.heap.size, 10, none⟩ = some (.slice s.ga s.gl s.gc) := cCc hU0 10
        have r11 : w2.cell? ⟨w.heap.size, 11, none⟩ = some (.int .u64 seen) := cCc hU0 11
        have hS2 : s.At w2.heap.size w2 k := (hS0.go ((Below.refl _ W0).drew)).go hb2
        have hz2 := hb2.size
        have hBw2 : Below w.heap.size w w2 := hBd.trans (hb2.mono (by omega))
        refine hK _ _ ?_
        clear hK K
        refine wpAny_ready (rs := [5, 7]) (by kernel_rfl) (by simp) ?_
        refine AllReady.cons rfl (fun K hK => ?_) ?_
        · go_simp
          refine (few10_any k s w2 hS2).mono ?_
          rintro e w3 ⟨rfl, hb3⟩
          unfold skVal
          have hV0 := (hb3.block w.heap.size (by omega)).trans hU0
          have hV1 := (hb3.block (w.heap.size + 1) (by omega)).trans hU1
          have t0 : w3.cell? ⟨w.heap.size, 0, none⟩ = some (.slice la ll lc) := cCc hV0 0
          have t1 : w3.cell? ⟨w.heap.size, 1, none⟩ = some (.int .i64 k.kind) := cCc hV0 1
          have t2 : w3.cell? ⟨w.heap.size, 2, none⟩ = some (.int .i64 k.level) := cCc hV0 2
          have t3 : w3.cell? ⟨w.heap.size, 3, none⟩ = some (.slice s.ea s.el s.ec) := cCc hV0 3
          have t4 : w3.cell? ⟨w.heap.size, 4, none⟩ = some (.int .i64 k.hb) := cCc hV0 4
          have t5 : w3.cell? ⟨w.heap.size, 5, none⟩ = some (.string k.hr) := cCc hV0 5
          have t6 : w3.cell? ⟨w.heap.size, 6, none⟩ = some (.int .i64 k.cr) := cCc hV0 6
          have t7 : w3.cell? ⟨w.heap.size, 7, none⟩ = some (.int .i64 k.cc) := cCc hV0 7
          have t8 : w3.cell? ⟨w.heap.size, 8, none⟩ = some (.slice s.ca s.cl s.cc) := cCc hV0 8
          have t9 : w3.cell? ⟨w.heap.size, 9, none⟩ = some (.int .i64 k.gf) := cCc hV0 9
          have t10 : w3.cell? ⟨w.heap.size, 10, none⟩ = some (.slice s.ga s.gl s.gc) := cCc hV0 10
          have t11 : w3.cell? ⟨w.heap.size, 11, none⟩ = some (.int .u64 seen) := cCc hV0 11
          have d0 : w3.cell? ⟨w.heap.size + 1, 0, none⟩ = some (.slice none 0 0) := cCc hV1 0
          have d1 : w3.cell? ⟨w.heap.size + 1, 1, none⟩ = some (.int .i64 0) := cCc hV1 1
          have d2 : w3.cell? ⟨w.heap.size + 1, 2, none⟩ = some (.int .i64 0) := cCc hV1 2
          have d3 : w3.cell? ⟨w.heap.size + 1, 3, none⟩ = some (.slice none 0 0) := cCc hV1 3
          have d4 : w3.cell? ⟨w.heap.size + 1, 4, none⟩ = some (.int .i64 0) := cCc hV1 4
          have d5 : w3.cell? ⟨w.heap.size + 1, 5, none⟩ = some (.string ⟨#[]⟩) := cCc hV1 5
          have d6 : w3.cell? ⟨w.heap.size + 1, 6, none⟩ = some (.int .i64 0) := cCc hV1 6
          have d7 : w3.cell? ⟨w.heap.size + 1, 7, none⟩ = some (.int .i64 0) := cCc hV1 7
          have d8 : w3.cell? ⟨w.heap.size + 1, 8, none⟩ = some (.slice none 0 0) := cCc hV1 8
          have d9 : w3.cell? ⟨w.heap.size + 1, 9, none⟩ = some (.int .i64 0) := cCc hV1 9
          have d10 : w3.cell? ⟨w.heap.size + 1, 10, none⟩ = some (.slice none 0 0) := cCc hV1 10
          have d11 : w3.cell? ⟨w.heap.size + 1, 11, none⟩ = some (.int .u64 0) := cCc hV1 11
          have f0 : w3.frozen? ⟨w.heap.size + 1, 0, none⟩ = false := cFz hV1 0
          have f1 : w3.frozen? ⟨w.heap.size + 1, 1, none⟩ = false := cFz hV1 1
          have f2 : w3.frozen? ⟨w.heap.size + 1, 2, none⟩ = false := cFz hV1 2
          have f3 : w3.frozen? ⟨w.heap.size + 1, 3, none⟩ = false := cFz hV1 3
          have f4 : w3.frozen? ⟨w.heap.size + 1, 4, none⟩ = false := cFz hV1 4
          have f5 : w3.frozen? ⟨w.heap.size + 1, 5, none⟩ = false := cFz hV1 5
          have f6 : w3.frozen? ⟨w.heap.size + 1, 6, none⟩ = false := cFz hV1 6
          have f7 : w3.frozen? ⟨w.heap.size + 1, 7, none⟩ = false := cFz hV1 7
          have f8 : w3.frozen? ⟨w.heap.size + 1, 8, none⟩ = false := cFz hV1 8
          have f9 : w3.frozen? ⟨w.heap.size + 1, 9, none⟩ = false := cFz hV1 9
          have f10 : w3.frozen? ⟨w.heap.size + 1, 10, none⟩ = false := cFz hV1 10
          have f11 : w3.frozen? ⟨w.heap.size + 1, 11, none⟩ = false := cFz hV1 11
          refine hK _ _ ?_
          clear hK K
          refine wpAny_ready (rs := [7]) (by kernel_rfl) (by simp) ?_
          refine AllReady.cons rfl (fun K hK => ?_) ?_
          · go_simp
            refine hK _ _ ?_
            clear hK K
            refine wpAny_take (i := 8) (v := ?_) rfl (by kernel_rfl) (by kernel_rfl) (by kernel_rfl) (fun _ _ _ h => h) (Or.inl ⟨by rfl, ?_⟩) ?_
            rotate_left
            · intro w; go_simp; with_reducible rfl
            refine wpAny_ready (rs := [9]) (by kernel_rfl) (by simp) ?_
            refine AllReady.cons rfl (fun K hK => ?_) ?_
            · go_simp
              refine hK _ _ ?_
              clear hK K
              refine wpAny_done (by kernel_rfl) ?_ _
              clear hY0 hY1 hU0 hU1 hV0 hb2 c0 c1 c2 c3 c4 c5 c6 c7 c8 c9 c10 c11 hE hS0 hS2 hBd
              go_wp2_with fail
              refine bodyPost_ret (results_cell_row rfl _ _ (w.heap.size + 1) 64 _ (0, 0) _ rfl (set12 hV1) und_series rfl size_series) rfl ?_
              exact ⟨⟨a', _, cap', s.cut⟩, rfl, rfl, one12_fin HS.out hz0 hsl hlo hBw2 hb3⟩
            exact AllReady.nil
          exact AllReady.nil
        refine AllReady.cons rfl (fun K hK => ?_) ?_
        · go_simp
          refine hK _ _ ?_
          clear hK K
          refine wpAny_ready (rs := [5]) (by kernel_rfl) (by simp) ?_
          refine AllReady.cons rfl (fun K hK => ?_) ?_
          · go_simp
            refine (few10_any k s w2 hS2).mono ?_
            rintro e w3 ⟨rfl, hb3⟩
            unfold skVal
            have hV0 := (hb3.block w.heap.size (by omega)).trans hU0
            have hV1 := (hb3.block (w.heap.size + 1) (by omega)).trans hU1
            have t0 : w3.cell? ⟨w.heap.size, 0, none⟩ = some (.slice la ll lc) := cCc hV0 0
            have t1 : w3.cell? ⟨w.heap.size, 1, none⟩ = some (.int .i64 k.kind) := cCc hV0 1
            have t2 : w3.cell? ⟨w.heap.size, 2, none⟩ = some (.int .i64 k.level) := cCc hV0 2
            have t3 : w3.cell? ⟨w.heap.size, 3, none⟩ = some (.slice s.ea s.el s.ec) := cCc hV0 3
            have t4 : w3.cell? ⟨w.heap.size, 4, none⟩ = some (.int .i64 k.hb) := cCc hV0 4
            have t5 : w3.cell? ⟨w.heap.size, 5, none⟩ = some (.string k.hr) := cCc hV0 5
            have t6 : w3.cell? ⟨w.heap.size, 6, none⟩ = some (.int .i64 k.cr) := cCc hV0 6
            have t7 : w3.cell? ⟨w.heap.size, 7, none⟩ = some (.int .i64 k.cc) := cCc hV0 7
            have t8 : w3.cell? ⟨w.heap.size, 8, none⟩ = some (.slice s.ca s.cl s.cc) := cCc hV0 8
            have t9 : w3.cell? ⟨w.heap.size, 9, none⟩ = some (.int .i64 k.gf) := cCc hV0 9
            have t10 : w3.cell? ⟨w.heap.size, 10, none⟩ = some (.slice s.ga s.gl s.gc) := cCc hV0 10
            have t11 : w3.cell? ⟨w.heap.size, 11, none⟩ = some (.int .u64 seen) := cCc hV0 11
            have d0 : w3.cell? ⟨w.heap.size + 1, 0, none⟩ = some (.slice none 0 0) := cCc hV1 0
            have d1 : w3.cell? ⟨w.heap.size + 1, 1, none⟩ = some (.int .i64 0) := cCc hV1 1
            have d2 : w3.cell? ⟨w.heap.size + 1, 2, none⟩ = some (.int .i64 0) := cCc hV1 2
            have d3 : w3.cell? ⟨w.heap.size + 1, 3, none⟩ = some (.slice none 0 0) := cCc hV1 3
            have d4 : w3.cell? ⟨w.heap.size + 1, 4, none⟩ = some (.int .i64 0) := cCc hV1 4
            have d5 : w3.cell? ⟨w.heap.size + 1, 5, none⟩ = some (.string ⟨#[]⟩) := cCc hV1 5
            have d6 : w3.cell? ⟨w.heap.size + 1, 6, none⟩ = some (.int .i64 0) := cCc hV1 6
            have d7 : w3.cell? ⟨w.heap.size + 1, 7, none⟩ = some (.int .i64 0) := cCc hV1 7
            have d8 : w3.cell? ⟨w.heap.size + 1, 8, none⟩ = some (.slice none 0 0) := cCc hV1 8
            have d9 : w3.cell? ⟨w.heap.size + 1, 9, none⟩ = some (.int .i64 0) := cCc hV1 9
            have d10 : w3.cell? ⟨w.heap.size + 1, 10, none⟩ = some (.slice none 0 0) := cCc hV1 10
            have d11 : w3.cell? ⟨w.heap.size + 1, 11, none⟩ = some (.int .u64 0) := cCc hV1 11
            have f0 : w3.frozen? ⟨w.heap.size + 1, 0, none⟩ = false := cFz hV1 0
            have f1 : w3.frozen? ⟨w.heap.size + 1, 1, none⟩ = false := cFz hV1 1
            have f2 : w3.frozen? ⟨w.heap.size + 1, 2, none⟩ = false := cFz hV1 2
            have f3 : w3.frozen? ⟨w.heap.size + 1, 3, none⟩ = false := cFz hV1 3
            have f4 : w3.frozen? ⟨w.heap.size + 1, 4, none⟩ = false := cFz hV1 4
            have f5 : w3.frozen? ⟨w.heap.size + 1, 5, none⟩ = false := cFz hV1 5
            have f6 : w3.frozen? ⟨w.heap.size + 1, 6, none⟩ = false := cFz hV1 6
            have f7 : w3.frozen? ⟨w.heap.size + 1, 7, none⟩ = false := cFz hV1 7
            have f8 : w3.frozen? ⟨w.heap.size + 1, 8, none⟩ = false := cFz hV1 8
            have f9 : w3.frozen? ⟨w.heap.size + 1, 9, none⟩ = false := cFz hV1 9
            have f10 : w3.frozen? ⟨w.heap.size + 1, 10, none⟩ = false := cFz hV1 10
            have f11 : w3.frozen? ⟨w.heap.size + 1, 11, none⟩ = false := cFz hV1 11
            refine hK _ _ ?_
            clear hK K
            refine wpAny_take (i := 8) (v := ?_) rfl (by kernel_rfl) (by kernel_rfl) (by kernel_rfl) (fun _ _ _ h => h) (Or.inl ⟨by rfl, ?_⟩) ?_
            rotate_left
            · intro w; go_simp; with_reducible rfl
            refine wpAny_ready (rs := [9]) (by kernel_rfl) (by simp) ?_
            refine AllReady.cons rfl (fun K hK => ?_) ?_
            · go_simp
              refine hK _ _ ?_
              clear hK K
              refine wpAny_done (by kernel_rfl) ?_ _
              clear hY0 hY1 hU0 hU1 hV0 hb2 c0 c1 c2 c3 c4 c5 c6 c7 c8 c9 c10 c11 hE hS0 hS2 hBd
              go_wp2_with fail
              refine bodyPost_ret (results_cell_row rfl _ _ (w.heap.size + 1) 64 _ (0, 0) _ rfl (set12 hV1) und_series rfl size_series) rfl ?_
              exact ⟨⟨a', _, cap', s.cut⟩, rfl, rfl, one12_fin HS.out hz0 hsl hlo hBw2 hb3⟩
            exact AllReady.nil
          exact AllReady.nil
        exact AllReady.nil
      refine AllReady.cons rfl (fun K hK => ?_) ?_
      · go_simp
        refine hK _ _ ?_
        clear hK K
        refine wpAny_ready (rs := [2]) (by kernel_rfl) (by simp) ?_
        refine AllReady.cons rfl (fun K hK => ?_) ?_
        · go_simp
          refine (few04_any l la ll lc _ hE).mono ?_
          rintro e w2 ⟨a', cap', rfl, hsl, hlo, hb2⟩
          have hU0 := (hb2.block w.heap.size (by omega)).trans hY0
          have hU1 := (hb2.block (w.heap.size + 1) (by omega)).trans hY1
          have r0 : w2.cell? ⟨w.heap.size, 0, none⟩ = some (.slice la ll lc) := cCc hU0 0
          have r1 : w2.cell? ⟨w.heap.size, 1, none⟩ = some (.int .i64 k.kind) := cCc hU0 1
          have r2 : w2.cell? ⟨w.heap.size, 2, none⟩ = some (.int .i64 k.level) := cCc hU0 2
          have r3 : w2.cell? ⟨w.heap.size, 3, none⟩ = some (.slice s.ea s.el s.ec) := cCc hU0 3
          have r4 : w2.cell? ⟨w.heap.size, 4, none⟩ = some (.int .i64 k.hb) := cCc hU0 4
          have r5 : w2.cell? ⟨w.heap.size, 5, none⟩ = some (.string k.hr) := cCc hU0 5
          have r6 : w2.cell? ⟨w.heap.size, 6, none⟩ = some (.int .i64 k.cr) := cCc hU0 6
          have r7 : w2.cell? ⟨w.heap.size, 7, none⟩ = some (.int .i64 k.cc) := cCc hU0 7
          have r8 : w2.cell? ⟨w.heap.size, 8, none⟩ = some (.slice s.ca s.cl s.cc) := cCc hU0 8
          have r9 : w2.cell? ⟨w.heap.size, 9, none⟩ = some (.int .i64 k.gf) := cCc hU0 9
          have r10 : w2.cell? ⟨w.heap.size, 10, none⟩ = some (.slice s.ga s.gl s.gc) := cCc hU0 10
          have r11 : w2.cell? ⟨w.heap.size, 11, none⟩ = some (.int .u64 seen) := cCc hU0 11
          have hS2 : s.At w2.heap.size w2 k := (hS0.go ((Below.refl _ W0).drew)).go hb2
          have hz2 := hb2.size
          have hBw2 : Below w.heap.size w w2 := hBd.trans (hb2.mono (by omega))
          refine hK _ _ ?_
          clear hK K
          refine wpAny_ready (rs := [5]) (by kernel_rfl) (by simp) ?_
          refine AllReady.cons rfl (fun K hK => ?_) ?_
          · go_simp
            refine (few10_any k s w2 hS2).mono ?_
            rintro e w3 ⟨rfl, hb3⟩
            unfold skVal
            have hV0 := (hb3.block w.heap.size (by omega)).trans hU0
            have hV1 := (hb3.block (w.heap.size + 1) (by omega)).trans hU1
            have t0 : w3.cell? ⟨w.heap.size, 0, none⟩ = some (.slice la ll lc) := cCc hV0 0
            have t1 : w3.cell? ⟨w.heap.size, 1, none⟩ = some (.int .i64 k.kind) := cCc hV0 1
            have t2 : w3.cell? ⟨w.heap.size, 2, none⟩ = some (.int .i64 k.level) := cCc hV0 2
            have t3 : w3.cell? ⟨w.heap.size, 3, none⟩ = some (.slice s.ea s.el s.ec) := cCc hV0 3
            have t4 : w3.cell? ⟨w.heap.size, 4, none⟩ = some (.int .i64 k.hb) := cCc hV0 4
            have t5 : w3.cell? ⟨w.heap.size, 5, none⟩ = some (.string k.hr) := cCc hV0 5
            have t6 : w3.cell? ⟨w.heap.size, 6, none⟩ = some (.int .i64 k.cr) := cCc hV0 6
            have t7 : w3.cell? ⟨w.heap.size, 7, none⟩ = some (.int .i64 k.cc) := cCc hV0 7
            have t8 : w3.cell? ⟨w.heap.size, 8, none⟩ = some (.slice s.ca s.cl s.cc) := cCc hV0 8
            have t9 : w3.cell? ⟨w.heap.size, 9, none⟩ = some (.int .i64 k.gf) := cCc hV0 9
            have t10 : w3.cell? ⟨w.heap.size, 10, none⟩ = some (.slice s.ga s.gl s.gc) := cCc hV0 10
            have t11 : w3.cell? ⟨w.heap.size, 11, none⟩ = some (.int .u64 seen) := cCc hV0 11
            have d0 : w3.cell? ⟨w.heap.size + 1, 0, none⟩ = some (.slice none 0 0) := cCc hV1 0
            have d1 : w3.cell? ⟨w.heap.size + 1, 1, none⟩ = some (.int .i64 0) := cCc hV1 1
            have d2 : w3.cell? ⟨w.heap.size + 1, 2, none⟩ = some (.int .i64 0) := cCc hV1 2
            have d3 : w3.cell? ⟨w.heap.size + 1, 3, none⟩ = some (.slice none 0 0) := cCc hV1 3
            have d4 : w3.cell? ⟨w.heap.size + 1, 4, none⟩ = some (.int .i64 0) := cCc hV1 4
            have d5 : w3.cell? ⟨w.heap.size + 1, 5, none⟩ = some (.string ⟨#[]⟩) := cCc hV1 5
            have d6 : w3.cell? ⟨w.heap.size + 1, 6, none⟩ = some (.int .i64 0) := cCc hV1 6
            have d7 : w3.cell? ⟨w.heap.size + 1, 7, none⟩ = some (.int .i64 0) := cCc hV1 7
            have d8 : w3.cell? ⟨w.heap.size + 1, 8, none⟩ = some (.slice none 0 0) := cCc hV1 8
            have d9 : w3.cell? ⟨w.heap.size + 1, 9, none⟩ = some (.int .i64 0) := cCc hV1 9
            have d10 : w3.cell? ⟨w.heap.size + 1, 10, none⟩ = some (.slice none 0 0) := cCc hV1 10
            have d11 : w3.cell? ⟨w.heap.size + 1, 11, none⟩ = some (.int .u64 0) := cCc hV1 11
            have f0 : w3.frozen? ⟨w.heap.size + 1, 0, none⟩ = false := cFz hV1 0
            have f1 : w3.frozen? ⟨w.heap.size + 1, 1, none⟩ = false := cFz hV1 1
            have f2 : w3.frozen? ⟨w.heap.size + 1, 2, none⟩ = false := cFz hV1 2
            have f3 : w3.frozen? ⟨w.heap.size + 1, 3, none⟩ = false := cFz hV1 3
            have f4 : w3.frozen? ⟨w.heap.size + 1, 4, none⟩ = false := cFz hV1 4
            have f5 : w3.frozen? ⟨w.heap.size + 1, 5, none⟩ = false := cFz hV1 5
            have f6 : w3.frozen? ⟨w.heap.size + 1, 6, none⟩ = false := cFz hV1 6
            have f7 : w3.frozen? ⟨w.heap.size + 1, 7, none⟩ = false := cFz hV1 7
            have f8 : w3.frozen? ⟨w.heap.size + 1, 8, none⟩ = false := cFz hV1 8
            have f9 : w3.frozen? ⟨w.heap.size + 1, 9, none⟩ = false := cFz hV1 9
            have f10 : w3.frozen? ⟨w.heap.size + 1, 10, none⟩ = false := cFz hV1 10
            have f11 : w3.frozen? ⟨w.heap.size + 1, 11, none⟩ = false := cFz hV1 11
            refine hK _ _ ?_
            clear hK K
            refine wpAny_take (i := 8) (v := ?_) rfl (by kernel_rfl) (by kernel_rfl) (by kernel_rfl) (fun _ _ _ h => h) (Or.inl ⟨by rfl, ?_⟩) ?_
            rotate_left
            · intro w; go_simp; with_reducible rfl
            refine wpAny_ready (rs := [9]) (by kernel_rfl) (by simp) ?_
            refine AllReady.cons rfl (fun K hK => ?_) ?_
            · go_simp
              refine hK _ _ ?_
              clear hK K
              refine wpAny_done (by kernel_rfl) ?_ _
              clear hY0 hY1 hU0 hU1 hV0 hb2 c0 c1 c2 c3 c4 c5 c6 c7 c8 c9 c10 c11 hE hS0 hS2 hBd
              go_wp2_with fail
              refine bodyPost_ret (results_cell_row rfl _ _ (w.heap.size + 1) 64 _ (0, 0) _ rfl (set12 hV1) und_series rfl size_series) rfl ?_
              exact ⟨⟨a', _, cap', s.cut⟩, rfl, rfl, one12_fin HS.out hz0 hsl hlo hBw2 hb3⟩
            exact AllReady.nil
          exact AllReady.nil
        exact AllReady.nil
      exact AllReady.nil
    refine AllReady.cons rfl (fun K hK => ?_) ?_
    · go_simp
      refine hK _ _ ?_
      clear hK K
      refine wpAny_ready (rs := [1]) (by kernel_rfl) (by simp) ?_
      refine AllReady.cons rfl (fun K hK => ?_) ?_
      · go_simp
        refine hK _ _ ?_
        clear hK K
        refine wpAny_ready (rs := [2]) (by kernel_rfl) (by simp) ?_
        refine AllReady.cons rfl (fun K hK => ?_) ?_
        · go_simp
          refine (few04_any l la ll lc _ hE).mono ?_
          rintro e w2 ⟨a', cap', rfl, hsl, hlo, hb2⟩
          have hU0 := (hb2.block w.heap.size (by omega)).trans hY0
          have hU1 := (hb2.block (w.heap.size + 1) (by omega)).trans hY1
          have r0 : w2.cell? ⟨w.heap.size, 0, none⟩ = some (.slice la ll lc) := cCc hU0 0
          have r1 : w2.cell? ⟨w.heap.size, 1, none⟩ = some (.int .i64 k.kind) := cCc hU0 1
          have r2 : w2.cell? ⟨w.heap.size, 2, none⟩ = some (.int .i64 k.level) := cCc hU0 2
          have r3 : w2.cell? ⟨w.heap.size, 3, none⟩ = some (.slice s.ea s.el s.ec) := cCc hU0 3
          have r4 : w2.cell? ⟨w.heap.size, 4, none⟩ = some (.int .i64 k.hb) := cCc hU0 4
          have r5 : w2.cell? ⟨w.heap.size, 5, none⟩ = some (.string k.hr) := cCc hU0 5
          have r6 : w2.cell? ⟨w.heap.size, 6, none⟩ = some (.int .i64 k.cr) := cCc hU0 6
          have r7 : w2.cell? ⟨w.heap.size, 7, none⟩ = some (.int .i64 k.cc) := cCc hU0 7
          have r8 : w2.cell? ⟨w.heap.size, 8, none⟩ = some (.slice s.ca s.cl s.cc) := cCc hU0 8
          have r9 : w2.cell? ⟨w.heap.size, 9, none⟩ = some (.int .i64 k.gf) := cCc hU0 9
          have r10 : w2.cell? ⟨w.heap.size, 10, none⟩ = some (.slice s.ga s.gl s.gc) := cCc hU0 10
          have r11 : w2.cell? ⟨w.heap.size, 11, none⟩ = some (.int .u64 seen) := cCc hU0 11
          have hS2 : s.At w2.heap.size w2 k := (hS0.go ((Below.refl _ W0).drew)).go hb2
          have hz2 := hb2.size
          have hBw2 : Below w.heap.size w w2 := hBd.trans (hb2.mono (by omega))
          refine hK _ _ ?_
          clear hK K
          refine wpAny_ready (rs := [5]) (by kernel_rfl) (by simp) ?_
          refine AllReady.cons rfl (fun K hK => ?_) ?_
          · go_simp
            refine (few10_any k s w2 hS2).mono ?_
            rintro e w3 ⟨rfl, hb3⟩
            unfold skVal
            have hV0 := (hb3.block w.heap.size (by omega)).trans hU0
            have hV1 := (hb3.block (w.heap.size + 1) (by omega)).trans hU1
            have t0 : w3.cell? ⟨w.heap.size, 0, none⟩ = some (.slice la ll lc) := cCc hV0 0
            have t1 : w3.cell? ⟨w.heap.size, 1, none⟩ = some (.int .i64 k.kind) := cCc hV0 1
            have t2 : w3.cell? ⟨w.heap.size, 2, none⟩ = some (.int .i64 k.level) := cCc hV0 2
            have t3 : w3.cell? ⟨w.heap.size, 3, none⟩ = some (.slice s.ea s.el s.ec) := cCc hV0 3
            have t4 : w3.cell? ⟨w.heap.size, 4, none⟩ = some (.int .i64 k.hb) := cCc hV0 4
            have t5 : w3.cell? ⟨w.heap.size, 5, none⟩ = some (.string k.hr) := cCc hV0 5
            have t6 : w3.cell? ⟨w.heap.size, 6, none⟩ = some (.int .i64 k.cr) := cCc hV0 6
            have t7 : w3.cell? ⟨w.heap.size, 7, none⟩ = some (.int .i64 k.cc) := cCc hV0 7
            have t8 : w3.cell? ⟨w.heap.size, 8, none⟩ = some (.slice s.ca s.cl s.cc) := cCc hV0 8
            have t9 : w3.cell? ⟨w.heap.size, 9, none⟩ = some (.int .i64 k.gf) := cCc hV0 9
            have t10 : w3.cell? ⟨w.heap.size, 10, none⟩ = some (.slice s.ga s.gl s.gc) := cCc hV0 10
            have t11 : w3.cell? ⟨w.heap.size, 11, none⟩ = some (.int .u64 seen) := cCc hV0 11
            have d0 : w3.cell? ⟨w.heap.size + 1, 0, none⟩ = some (.slice none 0 0) := cCc hV1 0
            have d1 : w3.cell? ⟨w.heap.size + 1, 1, none⟩ = some (.int .i64 0) := cCc hV1 1
            have d2 : w3.cell? ⟨w.heap.size + 1, 2, none⟩ = some (.int .i64 0) := cCc hV1 2
            have d3 : w3.cell? ⟨w.heap.size + 1, 3, none⟩ = some (.slice none 0 0) := cCc hV1 3
            have d4 : w3.cell? ⟨w.heap.size + 1, 4, none⟩ = some (.int .i64 0) := cCc hV1 4
            have d5 : w3.cell? ⟨w.heap.size + 1, 5, none⟩ = some (.string ⟨#[]⟩) := cCc hV1 5
            have d6 : w3.cell? ⟨w.heap.size + 1, 6, none⟩ = some (.int .i64 0) := cCc hV1 6
            have d7 : w3.cell? ⟨w.heap.size + 1, 7, none⟩ = some (.int .i64 0) := cCc hV1 7
            have d8 : w3.cell? ⟨w.heap.size + 1, 8, none⟩ = some (.slice none 0 0) := cCc hV1 8
            have d9 : w3.cell? ⟨w.heap.size + 1, 9, none⟩ = some (.int .i64 0) := cCc hV1 9
            have d10 : w3.cell? ⟨w.heap.size + 1, 10, none⟩ = some (.slice none 0 0) := cCc hV1 10
            have d11 : w3.cell? ⟨w.heap.size + 1, 11, none⟩ = some (.int .u64 0) := cCc hV1 11
            have f0 : w3.frozen? ⟨w.heap.size + 1, 0, none⟩ = false := cFz hV1 0
            have f1 : w3.frozen? ⟨w.heap.size + 1, 1, none⟩ = false := cFz hV1 1
            have f2 : w3.frozen? ⟨w.heap.size + 1, 2, none⟩ = false := cFz hV1 2
            have f3 : w3.frozen? ⟨w.heap.size + 1, 3, none⟩ = false := cFz hV1 3
            have f4 : w3.frozen? ⟨w.heap.size + 1, 4, none⟩ = false := cFz hV1 4
            have f5 : w3.frozen? ⟨w.heap.size + 1, 5, none⟩ = false := cFz hV1 5
            have f6 : w3.frozen? ⟨w.heap.size + 1, 6, none⟩ = false := cFz hV1 6
            have f7 : w3.frozen? ⟨w.heap.size + 1, 7, none⟩ = false := cFz hV1 7
            have f8 : w3.frozen? ⟨w.heap.size + 1, 8, none⟩ = false := cFz hV1 8
            have f9 : w3.frozen? ⟨w.heap.size + 1, 9, none⟩ = false := cFz hV1 9
            have f10 : w3.frozen? ⟨w.heap.size + 1, 10, none⟩ = false := cFz hV1 10
            have f11 : w3.frozen? ⟨w.heap.size + 1, 11, none⟩ = false := cFz hV1 11
            refine hK _ _ ?_
            clear hK K
            refine wpAny_take (i := 8) (v := ?_) rfl (by kernel_rfl) (by kernel_rfl) (by kernel_rfl) (fun _ _ _ h => h) (Or.inl ⟨by rfl, ?_⟩) ?_
            rotate_left
            · intro w; go_simp; with_reducible rfl
            refine wpAny_ready (rs := [9]) (by kernel_rfl) (by simp) ?_
            refine AllReady.cons rfl (fun K hK => ?_) ?_
            · go_simp
              refine hK _ _ ?_
              clear hK K
              refine wpAny_done (by kernel_rfl) ?_ _
              clear hY0 hY1 hU0 hU1 hV0 hb2 c0 c1 c2 c3 c4 c5 c6 c7 c8 c9 c10 c11 hE hS0 hS2 hBd
              go_wp2_with fail
              refine bodyPost_ret (results_cell_row rfl _ _ (w.heap.size + 1) 64 _ (0, 0) _ rfl (set12 hV1) und_series rfl size_series) rfl ?_
              exact ⟨⟨a', _, cap', s.cut⟩, rfl, rfl, one12_fin HS.out hz0 hsl hlo hBw2 hb3⟩
            exact AllReady.nil
          exact AllReady.nil
        exact AllReady.nil
      exact AllReady.nil
    exact AllReady.nil
  refine AllReady.cons rfl (fun K hK => ?_) ?_
  · go_simp
    refine hK _ _ ?_
    clear hK K
    refine wpAny_ready (rs := [1, 4]) (by kernel_rfl) (by simp) ?_
    refine AllReady.cons rfl (fun K hK => ?_) ?_
    · go_simp
      refine hK _ _ ?_
      clear hK K
      refine wpAny_ready (rs := [2, 4]) (by kernel_rfl) (by simp) ?_
      refine AllReady.cons rfl (fun K hK => ?_) ?_
      · go_simp
        refine (few04_any l la ll lc _ hE).mono ?_
        rintro e w2 ⟨a', cap', rfl, hsl, hlo, hb2⟩
        have hU0 := (hb2.block w.heap.size (by omega)).trans hY0
        have hU1 := (hb2.block (w.heap.size + 1) (by omega)).trans hY1
        have r0 : w2.cell? ⟨w.heap.size, 0, none⟩ = some (.slice la ll lc) := cCc hU0 0
        have r1 : w2.cell? ⟨w.heap.size, 1, none⟩ = some (.int .i64 k.kind) := cCc hU0 1
        have r2 : w2.cell? ⟨w.heap.size, 2, none⟩ = some (.int .i64 k.level) := cCc hU0 2
        have r3 : w2.cell? ⟨w.heap.size, 3, none⟩ = some (.slice s.ea s.el s.ec) := cCc hU0 3
        have r4 : w2.cell? ⟨w.heap.size, 4, none⟩ = some (.int .i64 k.hb) := cCc hU0 4
        have r5 : w2.cell? ⟨w.heap.size, 5, none⟩ = some (.string k.hr) := cCc hU0 5
        have r6 : w2.cell? ⟨w.heap.size, 6, none⟩ = some (.int .i64 k.cr) := cCc hU0 6
        have r7 : w2.cell? ⟨w.heap.size, 7, none⟩ = some (.int .i64 k.cc) := cCc hU0 7
        have r8 : w2.cell? ⟨w.heap.size, 8, none⟩ = some (.slice s.ca s.cl s.cc) := cCc hU0 8
        have r9 : w2.cell? ⟨w.heap.size, 9, none⟩ = some (.int .i64 k.gf) := cCc hU0 9
        have r10 : w2.cell? ⟨w.heap.size, 10, none⟩ = some (.slice s.ga s.gl s.gc) := cCc hU0 10
        have r11 : w2.cell? ⟨w.heap.size, 11, none⟩ = some (.int .u64 seen) := cCc hU0 11
        have hS2 : s.At w2.heap.size w2 k := (hS0.go ((Below.refl _ W0).drew)).go hb2
        have hz2 := hb2.size
        have hBw2 : Below w.heap.size w w2 := hBd.trans (hb2.mono (by omega))
        refine hK _ _ ?_
        clear hK K
        refine wpAny_ready (rs := [4]) (by kernel_rfl) (by simp) ?_
        refine AllReady.cons rfl (fun K hK => ?_) ?_
        · go_simp
          refine hK _ _ ?_
          clear hK K
          refine wpAny_ready (rs := [5]) (by kernel_rfl) (by simp) ?_
          refine AllReady.cons rfl (fun K hK => ?_) ?_
          · go_simp
            refine (few10_any k s w2 hS2).mono ?_
            rintro e w3 ⟨rfl, hb3⟩
            unfold skVal
            have hV0 := (hb3.block w.heap.size (by omega)).trans hU0
            have hV1 := (hb3.block (w.heap.size + 1) (by omega)).trans hU1
            have t0 : w3.cell? ⟨w.heap.size, 0, none⟩ = some (.slice la ll lc) := cCc hV0 0
            have t1 : w3.cell? ⟨w.heap.size, 1, none⟩ = some (.int .i64 k.kind) := cCc hV0 1
            have t2 : w3.cell? ⟨w.heap.size, 2, none⟩ = some (.int .i64 k.level) := cCc hV0 2
            have t3 : w3.cell? ⟨w.heap.size, 3, none⟩ = some (.slice s.ea s.el s.ec) := cCc hV0 3
            have t4 : w3.cell? ⟨w.heap.size, 4, none⟩ = some (.int .i64 k.hb) := cCc hV0 4
            have t5 : w3.cell? ⟨w.heap.size, 5, none⟩ = some (.string k.hr) := cCc hV0 5
            have t6 : w3.cell? ⟨w.heap.size, 6, none⟩ = some (.int .i64 k.cr) := cCc hV0 6
            have t7 : w3.cell? ⟨w.heap.size, 7, none⟩ = some (.int .i64 k.cc) := cCc hV0 7
            have t8 : w3.cell? ⟨w.heap.size, 8, none⟩ = some (.slice s.ca s.cl s.cc) := cCc hV0 8
            have t9 : w3.cell? ⟨w.heap.size, 9, none⟩ = some (.int .i64 k.gf) := cCc hV0 9
            have t10 : w3.cell? ⟨w.heap.size, 10, none⟩ = some (.slice s.ga s.gl s.gc) := cCc hV0 10
            have t11 : w3.cell? ⟨w.heap.size, 11, none⟩ = some (.int .u64 seen) := cCc hV0 11
            have d0 : w3.cell? ⟨w.heap.size + 1, 0, none⟩ = some (.slice none 0 0) := cCc hV1 0
            have d1 : w3.cell? ⟨w.heap.size + 1, 1, none⟩ = some (.int .i64 0) := cCc hV1 1
            have d2 : w3.cell? ⟨w.heap.size + 1, 2, none⟩ = some (.int .i64 0) := cCc hV1 2
            have d3 : w3.cell? ⟨w.heap.size + 1, 3, none⟩ = some (.slice none 0 0) := cCc hV1 3
            have d4 : w3.cell? ⟨w.heap.size + 1, 4, none⟩ = some (.int .i64 0) := cCc hV1 4
            have d5 : w3.cell? ⟨w.heap.size + 1, 5, none⟩ = some (.string ⟨#[]⟩) := cCc hV1 5
            have d6 : w3.cell? ⟨w.heap.size + 1, 6, none⟩ = some (.int .i64 0) := cCc hV1 6
            have d7 : w3.cell? ⟨w.heap.size + 1, 7, none⟩ = some (.int .i64 0) := cCc hV1 7
            have d8 : w3.cell? ⟨w.heap.size + 1, 8, none⟩ = some (.slice none 0 0) := cCc hV1 8
            have d9 : w3.cell? ⟨w.heap.size + 1, 9, none⟩ = some (.int .i64 0) := cCc hV1 9
            have d10 : w3.cell? ⟨w.heap.size + 1, 10, none⟩ = some (.slice none 0 0) := cCc hV1 10
            have d11 : w3.cell? ⟨w.heap.size + 1, 11, none⟩ = some (.int .u64 0) := cCc hV1 11
            have f0 : w3.frozen? ⟨w.heap.size + 1, 0, none⟩ = false := cFz hV1 0
            have f1 : w3.frozen? ⟨w.heap.size + 1, 1, none⟩ = false := cFz hV1 1
            have f2 : w3.frozen? ⟨w.heap.size + 1, 2, none⟩ = false := cFz hV1 2
            have f3 : w3.frozen? ⟨w.heap.size + 1, 3, none⟩ = false := cFz hV1 3
            have f4 : w3.frozen? ⟨w.heap.size + 1, 4, none⟩ = false := cFz hV1 4
            have f5 : w3.frozen? ⟨w.heap.size + 1, 5, none⟩ = false := cFz hV1 5
            have f6 : w3.frozen? ⟨w.heap.size + 1, 6, none⟩ = false := cFz hV1 6
            have f7 : w3.frozen? ⟨w.heap.size + 1, 7, none⟩ = false := cFz hV1 7
            have f8 : w3.frozen? ⟨w.heap.size + 1, 8, none⟩ = false := cFz hV1 8
            have f9 : w3.frozen? ⟨w.heap.size + 1, 9, none⟩ = false := cFz hV1 9
            have f10 : w3.frozen? ⟨w.heap.size + 1, 10, none⟩ = false := cFz hV1 10
            have f11 : w3.frozen? ⟨w.heap.size + 1, 11, none⟩ = false := cFz hV1 11
            refine hK _ _ ?_
            clear hK K
            refine wpAny_take (i := 8) (v := ?_) rfl (by kernel_rfl) (by kernel_rfl) (by kernel_rfl) (fun _ _ _ h => h) (Or.inl ⟨by rfl, ?_⟩) ?_
            rotate_left
            · intro w; go_simp; with_reducible rfl
            refine wpAny_ready (rs := [9]) (by kernel_rfl) (by simp) ?_
            refine AllReady.cons rfl (fun K hK => ?_) ?_
            · go_simp
              refine hK _ _ ?_
              clear hK K
              refine wpAny_done (by kernel_rfl) ?_ _
              clear hY0 hY1 hU0 hU1 hV0 hb2 c0 c1 c2 c3 c4 c5 c6 c7 c8 c9 c10 c11 hE hS0 hS2 hBd
              go_wp2_with fail
              refine bodyPost_ret (results_cell_row rfl _ _ (w.heap.size + 1) 64 _ (0, 0) _ rfl (set12 hV1) und_series rfl size_series) rfl ?_
              exact ⟨⟨a', _, cap', s.cut⟩, rfl, rfl, one12_fin HS.out hz0 hsl hlo hBw2 hb3⟩
            exact AllReady.nil
          exact AllReady.nil
        exact AllReady.nil
      refine AllReady.cons rfl (fun K hK => ?_) ?_
      · go_simp
        refine hK _ _ ?_
        clear hK K
        refine wpAny_ready (rs := [2]) (by kernel_rfl) (by simp) ?_
        refine AllReady.cons rfl (fun K hK => ?_) ?_
        · go_simp
          refine (few04_any l la ll lc _ hE).mono ?_
          rintro e w2 ⟨a', cap', rfl, hsl, hlo, hb2⟩
          have hU0 := (hb2.block w.heap.size (by omega)).trans hY0
          have hU1 := (hb2.block (w.heap.size + 1) (by omega)).trans hY1
          have r0 : w2.cell? ⟨w.heap.size, 0, none⟩ = some (.slice la ll lc) := cCc hU0 0
          have r1 : w2.cell? ⟨w.heap.size, 1, none⟩ = some (.int .i64 k.kind) := cCc hU0 1
          have r2 : w2.cell? ⟨w.heap.size, 2, none⟩ = some (.int .i64 k.level) := cCc hU0 2
          have r3 : w2.cell? ⟨w.heap.size, 3, none⟩ = some (.slice s.ea s.el s.ec) := cCc hU0 3
          have r4 : w2.cell? ⟨w.heap.size, 4, none⟩ = some (.int .i64 k.hb) := cCc hU0 4
          have r5 : w2.cell? ⟨w.heap.size, 5, none⟩ = some (.string k.hr) := cCc hU0 5
          have r6 : w2.cell? ⟨w.heap.size, 6, none⟩ = some (.int .i64 k.cr) := cCc hU0 6
          have r7 : w2.cell? ⟨w.heap.size, 7, none⟩ = some (.int .i64 k.cc) := cCc hU0 7
          have r8 : w2.cell? ⟨w.heap.size, 8, none⟩ = some (.slice s.ca s.cl s.cc) := cCc hU0 8
          have r9 : w2.cell? ⟨w.heap.size, 9, none⟩ = some (.int .i64 k.gf) := cCc hU0 9
          have r10 : w2.cell? ⟨w.heap.size, 10, none⟩ = some (.slice s.ga s.gl s.gc) := cCc hU0 10
          have r11 : w2.cell? ⟨w.heap.size, 11, none⟩ = some (.int .u64 seen) := cCc hU0 11
          have hS2 : s.At w2.heap.size w2 k := (hS0.go ((Below.refl _ W0).drew)).go hb2
          have hz2 := hb2.size
          have hBw2 : Below w.heap.size w w2 := hBd.trans (hb2.mono (by omega))
          refine hK _ _ ?_
          clear hK K
          refine wpAny_ready (rs := [5]) (by kernel_rfl) (by simp) ?_
          refine AllReady.cons rfl (fun K hK => ?_) ?_
          · go_simp
            refine (few10_any k s w2 hS2).mono ?_
            rintro e w3 ⟨rfl, hb3⟩
            unfold skVal
            have hV0 := (hb3.block w.heap.size (by omega)).trans hU0
            have hV1 := (hb3.block (w.heap.size + 1) (by omega)).trans hU1
            have t0 : w3.cell? ⟨w.heap.size, 0, none⟩ = some (.slice la ll lc) := cCc hV0 0
            have t1 : w3.cell? ⟨w.heap.size, 1, none⟩ = some (.int .i64 k.kind) := cCc hV0 1
            have t2 : w3.cell? ⟨w.heap.size, 2, none⟩ = some (.int .i64 k.level) := cCc hV0 2
            have t3 : w3.cell? ⟨w.heap.size, 3, none⟩ = some (.slice s.ea s.el s.ec) := cCc hV0 3
            have t4 : w3.cell? ⟨w.heap.size, 4, none⟩ = some (.int .i64 k.hb) := cCc hV0 4
            have t5 : w3.cell? ⟨w.heap.size, 5, none⟩ = some (.string k.hr) := cCc hV0 5
            have t6 : w3.cell? ⟨w.heap.size, 6, none⟩ = some (.int .i64 k.cr) := cCc hV0 6
            have t7 : w3.cell? ⟨w.heap.size, 7, none⟩ = some (.int .i64 k.cc) := cCc hV0 7
            have t8 : w3.cell? ⟨w.heap.size, 8, none⟩ = some (.slice s.ca s.cl s.cc) := cCc hV0 8
            have t9 : w3.cell? ⟨w.heap.size, 9, none⟩ = some (.int .i64 k.gf) := cCc hV0 9
            have t10 : w3.cell? ⟨w.heap.size, 10, none⟩ = some (.slice s.ga s.gl s.gc) := cCc hV0 10
            have t11 : w3.cell? ⟨w.heap.size, 11, none⟩ = some (.int .u64 seen) := cCc hV0 11
            have d0 : w3.cell? ⟨w.heap.size + 1, 0, none⟩ = some (.slice none 0 0) := cCc hV1 0
            have d1 : w3.cell? ⟨w.heap.size + 1, 1, none⟩ = some (.int .i64 0) := cCc hV1 1
            have d2 : w3.cell? ⟨w.heap.size + 1, 2, none⟩ = some (.int .i64 0) := cCc hV1 2
            have d3 : w3.cell? ⟨w.heap.size + 1, 3, none⟩ = some (.slice none 0 0) := cCc hV1 3
            have d4 : w3.cell? ⟨w.heap.size + 1, 4, none⟩ = some (.int .i64 0) := cCc hV1 4
            have d5 : w3.cell? ⟨w.heap.size + 1, 5, none⟩ = some (.string ⟨#[]⟩) := cCc hV1 5
            have d6 : w3.cell? ⟨w.heap.size + 1, 6, none⟩ = some (.int .i64 0) := cCc hV1 6
            have d7 : w3.cell? ⟨w.heap.size + 1, 7, none⟩ = some (.int .i64 0) := cCc hV1 7
            have d8 : w3.cell? ⟨w.heap.size + 1, 8, none⟩ = some (.slice none 0 0) := cCc hV1 8
            have d9 : w3.cell? ⟨w.heap.size + 1, 9, none⟩ = some (.int .i64 0) := cCc hV1 9
            have d10 : w3.cell? ⟨w.heap.size + 1, 10, none⟩ = some (.slice none 0 0) := cCc hV1 10
            have d11 : w3.cell? ⟨w.heap.size + 1, 11, none⟩ = some (.int .u64 0) := cCc hV1 11
            have f0 : w3.frozen? ⟨w.heap.size + 1, 0, none⟩ = false := cFz hV1 0
            have f1 : w3.frozen? ⟨w.heap.size + 1, 1, none⟩ = false := cFz hV1 1
            have f2 : w3.frozen? ⟨w.heap.size + 1, 2, none⟩ = false := cFz hV1 2
            have f3 : w3.frozen? ⟨w.heap.size + 1, 3, none⟩ = false := cFz hV1 3
            have f4 : w3.frozen? ⟨w.heap.size + 1, 4, none⟩ = false := cFz hV1 4
            have f5 : w3.frozen? ⟨w.heap.size + 1, 5, none⟩ = false := cFz hV1 5
            have f6 : w3.frozen? ⟨w.heap.size + 1, 6, none⟩ = false := cFz hV1 6
            have f7 : w3.frozen? ⟨w.heap.size + 1, 7, none⟩ = false := cFz hV1 7
            have f8 : w3.frozen? ⟨w.heap.size + 1, 8, none⟩ = false := cFz hV1 8
            have f9 : w3.frozen? ⟨w.heap.size + 1, 9, none⟩ = false := cFz hV1 9
            have f10 : w3.frozen? ⟨w.heap.size + 1, 10, none⟩ = false := cFz hV1 10
            have f11 : w3.frozen? ⟨w.heap.size + 1, 11, none⟩ = false := cFz hV1 11
            refine hK _ _ ?_
            clear hK K
            refine wpAny_take (i := 8) (v := ?_) rfl (by kernel_rfl) (by kernel_rfl) (by kernel_rfl) (fun _ _ _ h => h) (Or.inl ⟨by rfl, ?_⟩) ?_
            rotate_left
            · intro w; go_simp; with_reducible rfl
            refine wpAny_ready (rs := [9]) (by kernel_rfl) (by simp) ?_
            refine AllReady.cons rfl (fun K hK => ?_) ?_
            · go_simp
              refine hK _ _ ?_
              clear hK K
              refine wpAny_done (by kernel_rfl) ?_ _
              clear hY0 hY1 hU0 hU1 hV0 hb2 c0 c1 c2 c3 c4 c5 c6 c7 c8 c9 c10 c11 hE hS0 hS2 hBd
              go_wp2_with fail
              refine bodyPost_ret (results_cell_row rfl _ _ (w.heap.size + 1) 64 _ (0, 0) _ rfl (set12 hV1) und_series rfl size_series) rfl ?_
              exact ⟨⟨a', _, cap', s.cut⟩, rfl, rfl, one12_fin HS.out hz0 hsl hlo hBw2 hb3⟩
            exact AllReady.nil
          exact AllReady.nil
        exact AllReady.nil
      exact AllReady.nil
    refine AllReady.cons rfl (fun K hK => ?_) ?_
    · go_simp
      refine hK _ _ ?_
      clear hK K
      refine wpAny_ready (rs := [1]) (by kernel_rfl) (by simp) ?_
      refine AllReady.cons rfl (fun K hK => ?_) ?_
      · go_simp
        refine hK _ _ ?_
        clear hK K
        refine wpAny_ready (rs := [2]) (by kernel_rfl) (by simp) ?_
        refine AllReady.cons rfl (fun K hK => ?_) ?_
        · go_simp
          refine (few04_any l la ll lc _ hE).mono ?_
          rintro e w2 ⟨a', cap', rfl, hsl, hlo, hb2⟩
          have hU0 := (hb2.block w.heap.size (by omega)).trans hY0
          have hU1 := (hb2.block (w.heap.size + 1) (by omega)).trans hY1
          have r0 : w2.cell? ⟨w.heap.size, 0, none⟩ = some (.slice la ll lc) := cCc hU0 0
          have r1 : w2.cell? ⟨w.heap.size, 1, none⟩ = some (.int .i64 k.kind) := cCc hU0 1
          have r2 : w2.cell? ⟨w.heap.size, 2, none⟩ = some (.int .i64 k.level) := cCc hU0 2
          have r3 : w2.cell? ⟨w.heap.size, 3, none⟩ = some (.slice s.ea s.el s.ec) := cCc hU0 3
          have r4 : w2.cell? ⟨w.heap.size, 4, none⟩ = some (.int .i64 k.hb) := cCc hU0 4
          have r5 : w2.cell? ⟨w.heap.size, 5, none⟩ = some (.string k.hr) := cCc hU0 5
          have r6 : w2.cell? ⟨w.heap.size, 6, none⟩ = some (.int .i64 k.cr) := cCc hU0 6
          have r7 : w2.cell? ⟨w.heap.size, 7, none⟩ = some (.int .i64 k.cc) := cCc hU0 7
          have r8 : w2.cell? ⟨w.heap.size, 8, none⟩ = some (.slice s.ca s.cl s.cc) := cCc hU0 8
          have r9 : w2.cell? ⟨w.heap.size, 9, none⟩ = some (.int .i64 k.gf) := cCc hU0 9
          have r10 : w2.cell? ⟨w.heap.size, 10, none⟩ = some (.slice s.ga s.gl s.gc) := cCc hU0 10
          have r11 : w2.cell? ⟨w.heap.size, 11, none⟩ = some (.int .u64 seen) := cCc hU0 11
          have hS2 : s.At w2.heap.size w2 k := (hS0.go ((Below.refl _ W0).drew)).go hb2
          have hz2 := hb2.size
          have hBw2 : Below w.heap.size w w2 := hBd.trans (hb2.mono (by omega))
          refine hK _ _ ?_
          clear hK K
          refine wpAny_ready (rs := [5]) (by kernel_rfl) (by simp) ?_
          refine AllReady.cons rfl (fun K hK => ?_) ?_
          · go_simp
            refine (few10_any k s w2 hS2).mono ?_
            rintro e w3 ⟨rfl, hb3⟩
            unfold skVal
            have hV0 := (hb3.block w.heap.size (by omega)).trans hU0
            have hV1 := (hb3.block (w.heap.size + 1) (by omega)).trans hU1
            have t0 : w3.cell? ⟨w.heap.size, 0, none⟩ = some (.slice la ll lc) := cCc hV0 0
            have t1 : w3.cell? ⟨w.heap.size, 1, none⟩ = some (.int .i64 k.kind) := cCc hV0 1
            have t2 : w3.cell? ⟨w.heap.size, 2, none⟩ = some (.int .i64 k.level) := cCc hV0 2
            have t3 : w3.cell? ⟨w.heap.size, 3, none⟩ = some (.slice s.ea s.el s.ec) := cCc hV0 3
            have t4 : w3.cell? ⟨w.heap.size, 4, none⟩ = some (.int .i64 k.hb) := cCc hV0 4
            have t5 : w3.cell? ⟨w.heap.size, 5, none⟩ = some (.string k.hr) := cCc hV0 5
            have t6 : w3.cell? ⟨w.heap.size, 6, none⟩ = some (.int .i64 k.cr) := cCc hV0 6
            have t7 : w3.cell? ⟨w.heap.size, 7, none⟩ = some (.int .i64 k.cc) := cCc hV0 7
            have t8 : w3.cell? ⟨w.heap.size, 8, none⟩ = some (.slice s.ca s.cl s.cc) := cCc hV0 8
            have t9 : w3.cell? ⟨w.heap.size, 9, none⟩ = some (.int .i64 k.gf) := cCc hV0 9
            have t10 : w3.cell? ⟨w.heap.size, 10, none⟩ = some (.slice s.ga s.gl s.gc) := cCc hV0 10
            have t11 : w3.cell? ⟨w.heap.size, 11, none⟩ = some (.int .u64 seen) := cCc hV0 11
            have d0 : w3.cell? ⟨w.heap.size + 1, 0, none⟩ = some (.slice none 0 0) := cCc hV1 0
            have d1 : w3.cell? ⟨w.heap.size + 1, 1, none⟩ = some (.int .i64 0) := cCc hV1 1
            have d2 : w3.cell? ⟨w.heap.size + 1, 2, none⟩ = some (.int .i64 0) := cCc hV1 2
            have d3 : w3.cell? ⟨w.heap.size + 1, 3, none⟩ = some (.slice none 0 0) := cCc hV1 3
            have d4 : w3.cell? ⟨w.heap.size + 1, 4, none⟩ = some (.int .i64 0) := cCc hV1 4
            have d5 : w3.cell? ⟨w.heap.size + 1, 5, none⟩ = some (.string ⟨#[]⟩) := cCc hV1 5
            have d6 : w3.cell? ⟨w.heap.size + 1, 6, none⟩ = some (.int .i64 0) := cCc hV1 6
            have d7 : w3.cell? ⟨w.heap.size + 1, 7, none⟩ = some (.int .i64 0) := cCc hV1 7
            have d8 : w3.cell? ⟨w.heap.size + 1, 8, none⟩ = some (.slice none 0 0) := cCc hV1 8
            have d9 : w3.cell? ⟨w.heap.size + 1, 9, none⟩ = some (.int .i64 0) := cCc hV1 9
            have d10 : w3.cell? ⟨w.heap.size + 1, 10, none⟩ = some (.slice none 0 0) := cCc hV1 10
            have d11 : w3.cell? ⟨w.heap.size + 1, 11, none⟩ = some (.int .u64 0) := cCc hV1 11
            have f0 : w3.frozen? ⟨w.heap.size + 1, 0, none⟩ = false := cFz hV1 0
            have f1 : w3.frozen? ⟨w.heap.size + 1, 1, none⟩ = false := cFz hV1 1
            have f2 : w3.frozen? ⟨w.heap.size + 1, 2, none⟩ = false := cFz hV1 2
            have f3 : w3.frozen? ⟨w.heap.size + 1, 3, none⟩ = false := cFz hV1 3
            have f4 : w3.frozen? ⟨w.heap.size + 1, 4, none⟩ = false := cFz hV1 4
            have f5 : w3.frozen? ⟨w.heap.size + 1, 5, none⟩ = false := cFz hV1 5
            have f6 : w3.frozen? ⟨w.heap.size + 1, 6, none⟩ = false := cFz hV1 6
            have f7 : w3.frozen? ⟨w.heap.size + 1, 7, none⟩ = false := cFz hV1 7
            have f8 : w3.frozen? ⟨w.heap.size + 1, 8, none⟩ = false := cFz hV1 8
            have f9 : w3.frozen? ⟨w.heap.size + 1, 9, none⟩ = false := cFz hV1 9
            have f10 : w3.frozen? ⟨w.heap.size + 1, 10, none⟩ = false := cFz hV1 10
            have f11 : w3.frozen? ⟨w.heap.size + 1, 11, none⟩ = false := cFz hV1 11
            refine hK _ _ ?_
            clear hK K
            refine wpAny_take (i := 8) (v := ?_) rfl (by kernel_rfl) (by kernel_rfl) (by kernel_rfl) (fun _ _ _ h => h) (Or.inl ⟨by rfl, ?_⟩) ?_
            rotate_left
            · intro w; go_simp; with_reducible rfl
            refine wpAny_ready (rs := [9]) (by kernel_rfl) (by simp) ?_
            refine AllReady.cons rfl (fun K hK => ?_) ?_
            · go_simp
              refine hK _ _ ?_
              clear hK K
              refine wpAny_done (by kernel_rfl) ?_ _
              clear hY0 hY1 hU0 hU1 hV0 hb2 c0 c1 c2 c3 c4 c5 c6 c7 c8 c9 c10 c11 hE hS0 hS2 hBd
              go_wp2_with fail
              refine bodyPost_ret (results_cell_row rfl _ _ (w.heap.size + 1) 64 _ (0, 0) _ rfl (set12 hV1) und_series rfl size_series) rfl ?_
              exact ⟨⟨a', _, cap', s.cut⟩, rfl, rfl, one12_fin HS.out hz0 hsl hlo hBw2 hb3⟩
            exact AllReady.nil
          exact AllReady.nil
        exact AllReady.nil
      exact AllReady.nil
    exact AllReady.nil
  exact AllReady.nil
end Go.Proofs.YtpnlmfilmbodfaaGreatDoor

/- Package cms: change, by all and Lower's function. Package cms: Lower's function. Package hist: put. -/
import Derived.Maps.OwnOps
import Derived.Maps.OwnSet
import Derived.Maps.RangeWalk
import Derived.Maps.Ext
import Derived.Test.YtcbbenncdainfaaGreatDoorYCB
namespace Go.Proofs.YtcbbenncdainfaaGreatDoor
open Go Go.RowKit Go.Shelf
attribute [local go_sem] Oper.semAt_some
set_option maxRecDepth 100000 in
set_option maxHeartbeats 8000000 in
theorem change_low (F : Nat → Int → Int) (wb fb xb g len cap N cap2 : Nat) (r c r2 c2 : Int) (sa : Option Addr) (l : List Int) (w : World)
  (hN1 : N ≤ 1000) (hb : w.heap[wb]? = some (.cells #[.int .i64 r2, .int .i64 c2, .slice sa N cap2] 135 (0, 0))) (hg : NumsAt w g l) (hl : l.length = len) (hlu : U64s l) (hBs : ∀ b ∈ [wb], b < w.heap.size ∧ b ≠ g)
  (hF : ∀ W (p : Fin N) x, w.grownBy W (some g) → U64 x → Calls Tryz.prog 185 #[.int .i64 (p.1 : Nat), .int .u64 x, .pointer (some ⟨fb, 0, none⟩), .pointer (some ⟨xb, 0, none⟩)] W fun e w' => e = .returned (.int .u64 (F p.1 x)) ∧ Below W.heap.size W w') (hFu : ∀ p x, U64 x → U64 (F p x)) (hpl : ∀ p : Fin N, p.1 < len) :
  Calls Tryz.prog 180 #[.agg #[.int .i64 r, .int .i64 c, .slice (some ⟨g, 0, none⟩) len cap], .func (.func 188) #[] #[.pointer (some ⟨wb, 0, none⟩)], .func (.func 185) #[] #[.pointer (some ⟨fb, 0, none⟩), .pointer (some ⟨xb, 0, none⟩)]] w fun e w' => e = .returned (.tuple #[]) ∧ NumsAt w' g (chFold (fun x : Fin N => x.1) F l (List.finRange N)) ∧ w.grownBy w' (some g) := by
 obtain ⟨W1, hW1, hX1, hT1, hB1, hs1⟩ := boxes2 w #[.int .i64 r, .int .i64 c, .slice (some ⟨g, 0, none⟩) len cap] 135 #[.func (.func 185) #[] #[.pointer (some ⟨fb, 0, none⟩), .pointer (some ⟨xb, 0, none⟩)]] 236
 have hgl := hg.lt
 have hgw : w.grownBy W1 (some g) := below_gb hB1 _
 have hseq := all_seq wb r2 c2 sa N cap2 hN1 W1 ((hB1.block _ (hBs wb (by simp)).1).trans hb)
 have hI0 : CI (fun x : Fin N => x.1) F l g w.heap.size #[.int .i64 r, .int .i64 c, .slice (some ⟨g, 0, none⟩) len cap] #[.func (.func 185) #[] #[.pointer (some ⟨fb, 0, none⟩), .pointer (some ⟨xb, 0, none⟩)]] w [] W1 := ⟨hg.block (hB1.block _ hgl), hX1, hT1, hgw⟩
 have HFF := Lib.hid hF
 have HL := Lib.hid hl
 have HLU := Lib.hid hlu
 have HFU := Lib.hid hFu
 have HPL := Lib.hid hpl
 clear hF hl hlu hFu hpl hX1 hT1 hg hb
 refine calls_marks Tryz.func180 rfl ?_
 simp only [Tryz.ntmps180, List.size_toArray, List.length_cons, List.length_nil, Nat.reduceAdd, Nat.reduceSub, Array.replicate_succ, Array.replicate_zero, List.push_toArray, List.append_toArray, List.nil_append, List.cons_append]
 go_wp2_with fail
 refine wp_range_all1 [wb] 6 (fun x : Fin N => .int .i64 (x.1 : Nat)) (gf := 188) (lb := #[.pointer (some ⟨wb, 0, none⟩)]) rfl (enters_of Tryz.func188 (by kernel_rfl) rfl)
  hseq (fun k hk => Nat.lt_of_lt_of_le (hBs k hk).1 (by omega)) (Below.refl _ _) (fun _ => rfl) (CI (fun x : Fin N => x.1) F l g w.heap.size #[.int .i64 r, .int .i64 c, .slice (some ⟨g, 0, none⟩) len cap] #[.func (.func 185) #[] #[.pointer (some ⟨fb, 0, none⟩), .pointer (some ⟨xb, 0, none⟩)]] w) (ci_own _ F l g w.heap.size _ _ w _ (by omega)) hI0 ?assign ?body ?fin
 case assign =>
  rintro l pre x W K hI hK
  simp only [List.zip_toArray, List.zip_cons_cons, List.zip_nil_right, List.size_toArray, List.foldl_toArray', List.foldl_cons, List.foldl_nil, List.setIfInBounds_toArray, List.set_cons_succ, List.set_cons_zero] at hK ⊢
  gi_wp2
  exact hI
 case body =>
  rintro lo pre x W ⟨hN, hX, hT, hG⟩ hlt
  simp only [List.zip_toArray, List.zip_cons_cons, List.zip_nil_right, List.size_toArray, List.foldl_toArray', List.foldl_cons, List.foldl_nil, List.setIfInBounds_toArray, List.set_cons_succ, List.set_cons_zero]
  have hp := HPL.out x
  have hlen1 := chFold_len (fun x : Fin N => x.1) F pre l
  rw [HL.out] at hlen1
  have HS : Hid (chFold (fun x : Fin N => x.1) F l (pre ++ [x]) = (chFold (fun x : Fin N => x.1) F l pre).set x.1 (F x.1 ((chFold (fun x : Fin N => x.1) F l pre).getD x.1 0))) := by
   unfold Hid chFold
   rw [List.foldl_append]
   rfl
  have hU1 := chFold_u64 (fun x : Fin N => x.1) F HFU.out pre l HLU.out
  generalize chFold (fun x : Fin N => x.1) F l pre = r1 at hN hlen1 HS hU1
  have hN1 : NumsAt W.drew g r1 := hN.block rfl
  have hX2 : W.drew.heap[w.heap.size]? = some (.cells #[.int .i64 r, .int .i64 c, .slice (some ⟨g, 0, none⟩) len cap] 135 (0, 0)) := hX
  have hT2 : W.drew.heap[w.heap.size + 1]? = some (.cells #[.func (.func 185) #[] #[.pointer (some ⟨fb, 0, none⟩), .pointer (some ⟨xb, 0, none⟩)]] 236 (0, 0)) := hT
  have HP : Hid (x.1 < r1.length) := by show x.1 < r1.length; omega
  have hxu := getD_u64 r1 hU1 x.1
  have y2 : W.drew.cell? ⟨w.heap.size, 2, none⟩ = some (.slice (some ⟨g, 0, none⟩) len cap) := cCc hX2 2
  have y4 : W.drew.cell? ⟨w.heap.size + 1, 0, none⟩ = some (.func (.func 185) #[] #[.pointer (some ⟨fb, 0, none⟩), .pointer (some ⟨xb, 0, none⟩)]) := cCc hT2 0
  have y11 := hN1.cell HP.out
  have HYC : Hid (∀ w5, NumsAt w5 g r1 → w5.cell? ⟨g, x.1, none⟩ = some (.int .u64 (r1.getD x.1 0))) := fun w5 h => h.cell HP.out
  generalize r1.getD x.1 0 = y at y11 hxu HS HYC
  have HF := Lib.hid (HFF.out W.drew x _ (gb_drew hG) hxu)
  have HN := Lib.hid hN1
  have HX := Lib.hid hX2
  have HG := Lib.hid hG
  have HXX := Lib.hid hX
  have HTT := Lib.hid hT
  have fin : ∀ (a : Act) w5, Below W.drew.heap.size W.drew w5 → NumsAt w5 g r1 → ownPostG W1.heap.size (KL [wb]) (CI (fun x : Fin N => x.1) F l g w.heap.size #[.int .i64 r, .int .i64 c, .slice (some ⟨g, 0, none⟩) len cap] #[.func (.func 185) #[] #[.pointer (some ⟨fb, 0, none⟩), .pointer (some ⟨xb, 0, none⟩)]] w) (fun _ _ _ => False) (pre ++ [x]) W   .normal a (w5.setCell ⟨g, x.1, none⟩ (.int .u64 (F x.1 y))) := fun _ w5 hb5 hN5 => by
   have hG5 : W.grownBy w5 (some g) := (gb_drew (World.grownBy.refl W (some g))).trans (below_gb hb5 _)
   have hG6 := hG5.trans (gb_set w5 g x.1 (.int .u64 (F x.1 y)))
   refine ⟨KeepsFrom.of_grownBy hG6 (fun j e => by cases e; omega), KL.grown hG6 (fun k hk e => by cases e; exact (hBs _ hk).2 rfl), ?_, (hG6.block _ (Array.getElem?_eq_some_iff.1 HXX.out).1 (fun e => by cases e; omega)).trans HXX.out, (hG6.block _ (Array.getElem?_eq_some_iff.1 HTT.out).1 (fun e => by cases e; omega)).trans HTT.out, HG.out.trans hG6⟩
   rw [HS.out]
   exact hN5.set _ _
  have hpi : ((x.1 : Nat) : Int) < len := by omega
  clear hG hX hT hN hN1 hX2 hT2 hU1 hxu HFF
  gi_wp2_with fail
  refine wpIn_region_round (F := Fence.wide) rfl (by kernel_rfl) (by kernel_rfl) ?_
  change wpAnyIn _ _ _ _ _ _ _ _ _ (World.drew _)
  refine wpAnyIn_take (i := 0) (v := ?_) rfl rfl (by kernel_rfl) (by kernel_rfl) (by kernel_rfl) (fun _ _ _ h => h) ⟨Or.inl ⟨by rfl, ?_⟩, fun _ => rfl⟩ ?_
  rotate_left
  ·intro w; go_simp; with_reducible rfl
  refine wpAnyIn_take (i := 1) (v := ?_) rfl rfl (by kernel_rfl) (by kernel_rfl) (by kernel_rfl) (fun _ _ _ h => h) ⟨Or.inl ⟨by rfl, ?_⟩, fun _ => rfl⟩ ?_
  rotate_left
  ·intro w; go_simp; with_reducible rfl
  refine wpAnyIn_take (i := 3) (v := ?_) rfl rfl (by kernel_rfl) (by kernel_rfl) (by kernel_rfl) (fun _ _ _ h => h) ⟨Or.inl ⟨by rfl, ?_⟩, fun _ => rfl⟩ ?_
  rotate_left
  ·intro w; go_simp; with_reducible rfl
  refine wpAnyIn_take (i := 5) (v := ?_) rfl rfl (by kernel_rfl) (by kernel_rfl) (by kernel_rfl) (fun _ _ _ h => h) ⟨Or.inl ⟨by rfl, ?_⟩, fun _ => rfl⟩ ?_
  rotate_left
  ·intro w; go_simp; with_reducible rfl
  refine wpAnyIn_take (i := 6) (v := ?_) rfl rfl (by kernel_rfl) (by kernel_rfl) (by kernel_rfl) (fun _ _ _ h => h) ⟨Or.inl ⟨by rfl, ?_⟩, fun _ => rfl⟩ ?_
  rotate_left
  ·intro w; go_simp; with_reducible rfl
  refine wpAnyIn_take (i := 7) (v := ?_) rfl rfl (by kernel_rfl) (by kernel_rfl) (by kernel_rfl) (fun _ _ _ h => h) ⟨Or.inl ⟨by rfl, ?_⟩, fun _ => rfl⟩ ?_
  rotate_left
  ·intro w; go_simp; with_reducible rfl
  refine wpAnyIn_take (i := 9) (v := ?_) rfl rfl (by kernel_rfl) (by kernel_rfl) (by kernel_rfl) (fun _ _ _ h => h) ⟨Or.inl ⟨by rfl, ?_⟩, fun _ => rfl⟩ ?_
  rotate_left
  ·intro w; go_simp; with_reducible rfl
  refine wpAnyIn_ready (rs := [2, 4, 8]) (by kernel_rfl) (by simp) ?_
  refine AllReadyIn.cons rfl (fun K hK => ?_) ?_
  ·go_simp
   refine hK _ _ ?_
   clear hK K
   refine wpAnyIn_ready (rs := [4, 8]) (by kernel_rfl) (by simp) ?_
   refine AllReadyIn.cons rfl (fun K hK => ?_) ?_
   ·go_simp
    refine hK _ _ ?_
    clear hK K
    refine wpAnyIn_ready (rs := [8]) (by kernel_rfl) (by simp) ?_
    refine AllReadyIn.cons rfl (fun K hK => ?_) ?_
    ·go_simp
     refine hK _ _ ?_
     clear hK K
     refine wpAnyIn_take (i := 10) (v := ?_) rfl rfl (by kernel_rfl) (by kernel_rfl) (by kernel_rfl) (fun _ _ _ h => h) ⟨Or.inl ⟨by rfl, ?_⟩, fun _ => rfl⟩ ?_
     rotate_left
     ·intro w; go_simp; first | done | with_reducible rfl | rw [if_neg (by omega)]
     refine wpAnyIn_ready (rs := [11]) (by kernel_rfl) (by simp) ?_
     refine AllReadyIn.cons rfl (fun K hK => ?_) ?_
     ·go_simp
      refine hK _ _ ?_
      clear hK K
      refine wpAnyIn_ready (rs := [12]) (by kernel_rfl) (by simp) ?_
      refine AllReadyIn.cons rfl (fun K hK => ?_) ?_
      ·go_simp
       refine ⟨trivial, (callsIn_wide.2 HF.out).mono ?_⟩
       rintro e w5 ⟨rfl, hb5⟩
       have hX5 := (hb5.block _ (Array.getElem?_eq_some_iff.1 HX.out).1).trans HX.out
       have hN5 : NumsAt w5 g r1 := HN.out.block (hb5.block _ HN.out.lt)
       have z2 : w5.cell? ⟨w.heap.size, 2, none⟩ = some (.slice (some ⟨g, 0, none⟩) len cap) := cCc hX5 2
       have z3 := HYC.out w5 hN5
       have z4 := hN5.frozen x.1
       refine hK _ _ ?_
       clear hK K hX5
       refine wpAnyIn_take (i := 13) (v := ?_) rfl rfl (by kernel_rfl) (by kernel_rfl) (by kernel_rfl) (fun _ _ _ h => h) ⟨Or.inl ⟨by rfl, ?_⟩, fun _ => rfl⟩ ?_
       rotate_left
       ·intro w; go_simp; first | done | with_reducible rfl | rw [if_neg (by omega)]
       refine wpAnyIn_ready (rs := [14]) (by kernel_rfl) (by simp) ?_
       refine AllReadyIn.cons rfl (fun K hK => ?_) ?_
       ·go_simp
        refine hK _ _ ?_
        clear hK K
        refine wpAnyIn_done (by kernel_rfl) ?_ _
        exact fin { tmps := #[], defers := [] } w5 hb5 hN5
       exact AllReadyIn.nil
      exact AllReadyIn.nil
     exact AllReadyIn.nil
    exact AllReadyIn.nil
   refine AllReadyIn.cons rfl (fun K hK => ?_) ?_
   ·go_simp
    refine hK _ _ ?_
    clear hK K
    refine wpAnyIn_take (i := 10) (v := ?_) rfl rfl (by kernel_rfl) (by kernel_rfl) (by kernel_rfl) (fun _ _ _ h => h) ⟨Or.inl ⟨by rfl, ?_⟩, fun _ => rfl⟩ ?_
    rotate_left
    ·intro w; go_simp; first | done | with_reducible rfl | rw [if_neg (by omega)]
    refine wpAnyIn_ready (rs := [4, 11]) (by kernel_rfl) (by simp) ?_
    refine AllReadyIn.cons rfl (fun K hK => ?_) ?_
    ·go_simp
     refine hK _ _ ?_
     clear hK K
     refine wpAnyIn_ready (rs := [11]) (by kernel_rfl) (by simp) ?_
     refine AllReadyIn.cons rfl (fun K hK => ?_) ?_
     ·go_simp
      refine hK _ _ ?_
      clear hK K
      refine wpAnyIn_ready (rs := [12]) (by kernel_rfl) (by simp) ?_
      refine AllReadyIn.cons rfl (fun K hK => ?_) ?_
      ·go_simp
       refine ⟨trivial, (callsIn_wide.2 HF.out).mono ?_⟩
       rintro e w5 ⟨rfl, hb5⟩
       have hX5 := (hb5.block _ (Array.getElem?_eq_some_iff.1 HX.out).1).trans HX.out
       have hN5 : NumsAt w5 g r1 := HN.out.block (hb5.block _ HN.out.lt)
       have z2 : w5.cell? ⟨w.heap.size, 2, none⟩ = some (.slice (some ⟨g, 0, none⟩) len cap) := cCc hX5 2
       have z3 := HYC.out w5 hN5
       have z4 := hN5.frozen x.1
       refine hK _ _ ?_
       clear hK K hX5
       refine wpAnyIn_take (i := 13) (v := ?_) rfl rfl (by kernel_rfl) (by kernel_rfl) (by kernel_rfl) (fun _ _ _ h => h) ⟨Or.inl ⟨by rfl, ?_⟩, fun _ => rfl⟩ ?_
       rotate_left
       ·intro w; go_simp; first | done | with_reducible rfl | rw [if_neg (by omega)]
       refine wpAnyIn_ready (rs := [14]) (by kernel_rfl) (by simp) ?_
       refine AllReadyIn.cons rfl (fun K hK => ?_) ?_
       ·go_simp
        refine hK _ _ ?_
        clear hK K
        refine wpAnyIn_done (by kernel_rfl) ?_ _
        exact fin { tmps := #[], defers := [] } w5 hb5 hN5
       exact AllReadyIn.nil
      exact AllReadyIn.nil
     exact AllReadyIn.nil
    refine AllReadyIn.cons rfl (fun K hK => ?_) ?_
    ·go_simp
     refine hK _ _ ?_
     clear hK K
     refine wpAnyIn_ready (rs := [4]) (by kernel_rfl) (by simp) ?_
     refine AllReadyIn.cons rfl (fun K hK => ?_) ?_
     ·go_simp
      refine hK _ _ ?_
      clear hK K
      refine wpAnyIn_ready (rs := [12]) (by kernel_rfl) (by simp) ?_
      refine AllReadyIn.cons rfl (fun K hK => ?_) ?_
      ·go_simp
       refine ⟨trivial, (callsIn_wide.2 HF.out).mono ?_⟩
       rintro e w5 ⟨rfl, hb5⟩
       have hX5 := (hb5.block _ (Array.getElem?_eq_some_iff.1 HX.out).1).trans HX.out
       have hN5 : NumsAt w5 g r1 := HN.out.block (hb5.block _ HN.out.lt)
       have z2 : w5.cell? ⟨w.heap.size, 2, none⟩ = some (.slice (some ⟨g, 0, none⟩) len cap) := cCc hX5 2
       have z3 := HYC.out w5 hN5
       have z4 := hN5.frozen x.1
       refine hK _ _ ?_
       clear hK K hX5
       refine wpAnyIn_take (i := 13) (v := ?_) rfl rfl (by kernel_rfl) (by kernel_rfl) (by kernel_rfl) (fun _ _ _ h => h) ⟨Or.inl ⟨by rfl, ?_⟩, fun _ => rfl⟩ ?_
       rotate_left
       ·intro w; go_simp; first | done | with_reducible rfl | rw [if_neg (by omega)]
       refine wpAnyIn_ready (rs := [14]) (by kernel_rfl) (by simp) ?_
       refine AllReadyIn.cons rfl (fun K hK => ?_) ?_
       ·go_simp
        refine hK _ _ ?_
        clear hK K
        refine wpAnyIn_done (by kernel_rfl) ?_ _
        exact fin { tmps := #[], defers := [] } w5 hb5 hN5
       exact AllReadyIn.nil
      exact AllReadyIn.nil
     exact AllReadyIn.nil
    exact AllReadyIn.nil
   exact AllReadyIn.nil
  refine AllReadyIn.cons rfl (fun K hK => ?_) ?_
  ·go_simp
   refine hK _ _ ?_
   clear hK K
   refine wpAnyIn_ready (rs := [2, 8]) (by kernel_rfl) (by simp) ?_
   refine AllReadyIn.cons rfl (fun K hK => ?_) ?_
   ·go_simp
    refine hK _ _ ?_
    clear hK K
    refine wpAnyIn_ready (rs := [8]) (by kernel_rfl) (by simp) ?_
    refine AllReadyIn.cons rfl (fun K hK => ?_) ?_
    ·go_simp
     refine hK _ _ ?_
     clear hK K
     refine wpAnyIn_take (i := 10) (v := ?_) rfl rfl (by kernel_rfl) (by kernel_rfl) (by kernel_rfl) (fun _ _ _ h => h) ⟨Or.inl ⟨by rfl, ?_⟩, fun _ => rfl⟩ ?_
     rotate_left
     ·intro w; go_simp; first | done | with_reducible rfl | rw [if_neg (by omega)]
     refine wpAnyIn_ready (rs := [11]) (by kernel_rfl) (by simp) ?_
     refine AllReadyIn.cons rfl (fun K hK => ?_) ?_
     ·go_simp
      refine hK _ _ ?_
      clear hK K
      refine wpAnyIn_ready (rs := [12]) (by kernel_rfl) (by simp) ?_
      refine AllReadyIn.cons rfl (fun K hK => ?_) ?_
      ·go_simp
       refine ⟨trivial, (callsIn_wide.2 HF.out).mono ?_⟩
       rintro e w5 ⟨rfl, hb5⟩
       have hX5 := (hb5.block _ (Array.getElem?_eq_some_iff.1 HX.out).1).trans HX.out
       have hN5 : NumsAt w5 g r1 := HN.out.block (hb5.block _ HN.out.lt)
       have z2 : w5.cell? ⟨w.heap.size, 2, none⟩ = some (.slice (some ⟨g, 0, none⟩) len cap) := cCc hX5 2
       have z3 := HYC.out w5 hN5
       have z4 := hN5.frozen x.1
       refine hK _ _ ?_
       clear hK K hX5
       refine wpAnyIn_take (i := 13) (v := ?_) rfl rfl (by kernel_rfl) (by kernel_rfl) (by kernel_rfl) (fun _ _ _ h => h) ⟨Or.inl ⟨by rfl, ?_⟩, fun _ => rfl⟩ ?_
       rotate_left
       ·intro w; go_simp; first | done | with_reducible rfl | rw [if_neg (by omega)]
       refine wpAnyIn_ready (rs := [14]) (by kernel_rfl) (by simp) ?_
       refine AllReadyIn.cons rfl (fun K hK => ?_) ?_
       ·go_simp
        refine hK _ _ ?_
        clear hK K
        refine wpAnyIn_done (by kernel_rfl) ?_ _
        exact fin { tmps := #[], defers := [] } w5 hb5 hN5
       exact AllReadyIn.nil
      exact AllReadyIn.nil
     exact AllReadyIn.nil
    exact AllReadyIn.nil
   refine AllReadyIn.cons rfl (fun K hK => ?_) ?_
   ·go_simp
    refine hK _ _ ?_
    clear hK K
    refine wpAnyIn_take (i := 10) (v := ?_) rfl rfl (by kernel_rfl) (by kernel_rfl) (by kernel_rfl) (fun _ _ _ h => h) ⟨Or.inl ⟨by rfl, ?_⟩, fun _ => rfl⟩ ?_
    rotate_left
    ·intro w; go_simp; first | done | with_reducible rfl | rw [if_neg (by omega)]
    refine wpAnyIn_ready (rs := [2, 11]) (by kernel_rfl) (by simp) ?_
    refine AllReadyIn.cons rfl (fun K hK => ?_) ?_
    ·go_simp
     refine hK _ _ ?_
     clear hK K
     refine wpAnyIn_ready (rs := [11]) (by kernel_rfl) (by simp) ?_
     refine AllReadyIn.cons rfl (fun K hK => ?_) ?_
     ·go_simp
      refine hK _ _ ?_
      clear hK K
      refine wpAnyIn_ready (rs := [12]) (by kernel_rfl) (by simp) ?_
      refine AllReadyIn.cons rfl (fun K hK => ?_) ?_
      ·go_simp
       refine ⟨trivial, (callsIn_wide.2 HF.out).mono ?_⟩
       rintro e w5 ⟨rfl, hb5⟩
       have hX5 := (hb5.block _ (Array.getElem?_eq_some_iff.1 HX.out).1).trans HX.out
       have hN5 : NumsAt w5 g r1 := HN.out.block (hb5.block _ HN.out.lt)
       have z2 : w5.cell? ⟨w.heap.size, 2, none⟩ = some (.slice (some ⟨g, 0, none⟩) len cap) := cCc hX5 2
       have z3 := HYC.out w5 hN5
       have z4 := hN5.frozen x.1
       refine hK _ _ ?_
       clear hK K hX5
       refine wpAnyIn_take (i := 13) (v := ?_) rfl rfl (by kernel_rfl) (by kernel_rfl) (by kernel_rfl) (fun _ _ _ h => h) ⟨Or.inl ⟨by rfl, ?_⟩, fun _ => rfl⟩ ?_
       rotate_left
       ·intro w; go_simp; first | done | with_reducible rfl | rw [if_neg (by omega)]
       refine wpAnyIn_ready (rs := [14]) (by kernel_rfl) (by simp) ?_
       refine AllReadyIn.cons rfl (fun K hK => ?_) ?_
       ·go_simp
        refine hK _ _ ?_
        clear hK K
        refine wpAnyIn_done (by kernel_rfl) ?_ _
        exact fin { tmps := #[], defers := [] } w5 hb5 hN5
       exact AllReadyIn.nil
      exact AllReadyIn.nil
     exact AllReadyIn.nil
    refine AllReadyIn.cons rfl (fun K hK => ?_) ?_
    ·go_simp
     refine hK _ _ ?_
     clear hK K
     refine wpAnyIn_ready (rs := [2, 12]) (by kernel_rfl) (by simp) ?_
     refine AllReadyIn.cons rfl (fun K hK => ?_) ?_
     ·go_simp
      refine hK _ _ ?_
      clear hK K
      refine wpAnyIn_ready (rs := [12]) (by kernel_rfl) (by simp) ?_
      refine AllReadyIn.cons rfl (fun K hK => ?_) ?_
      ·go_simp
       refine ⟨trivial, (callsIn_wide.2 HF.out).mono ?_⟩
       rintro e w5 ⟨rfl, hb5⟩
       have hX5 := (hb5.block _ (Array.getElem?_eq_some_iff.1 HX.out).1).trans HX.out
       have hN5 : NumsAt w5 g r1 := HN.out.block (hb5.block _ HN.out.lt)
       have z2 : w5.cell? ⟨w.heap.size, 2, none⟩ = some (.slice (some ⟨g, 0, none⟩) len cap) := cCc hX5 2
       have z3 := HYC.out w5 hN5
       have z4 := hN5.frozen x.1
       refine hK _ _ ?_
       clear hK K hX5
       refine wpAnyIn_take (i := 13) (v := ?_) rfl rfl (by kernel_rfl) (by kernel_rfl) (by kernel_rfl) (fun _ _ _ h => h) ⟨Or.inl ⟨by rfl, ?_⟩, fun _ => rfl⟩ ?_
       rotate_left
       ·intro w; go_simp; first | done | with_reducible rfl | rw [if_neg (by omega)]
       refine wpAnyIn_ready (rs := [14]) (by kernel_rfl) (by simp) ?_
       refine AllReadyIn.cons rfl (fun K hK => ?_) ?_
       ·go_simp
        refine hK _ _ ?_
        clear hK K
        refine wpAnyIn_done (by kernel_rfl) ?_ _
        exact fin { tmps := #[], defers := [] } w5 hb5 hN5
       exact AllReadyIn.nil
      exact AllReadyIn.nil
     refine AllReadyIn.cons rfl (fun K hK => ?_) ?_
     ·go_simp
      refine ⟨trivial, (callsIn_wide.2 HF.out).mono ?_⟩
      rintro e w5 ⟨rfl, hb5⟩
      have hX5 := (hb5.block _ (Array.getElem?_eq_some_iff.1 HX.out).1).trans HX.out
      have hN5 : NumsAt w5 g r1 := HN.out.block (hb5.block _ HN.out.lt)
      have z2 : w5.cell? ⟨w.heap.size, 2, none⟩ = some (.slice (some ⟨g, 0, none⟩) len cap) := cCc hX5 2
      have z3 := HYC.out w5 hN5
      have z4 := hN5.frozen x.1
      refine hK _ _ ?_
      clear hK K hX5
      refine wpAnyIn_ready (rs := [2]) (by kernel_rfl) (by simp) ?_
      refine AllReadyIn.cons rfl (fun K hK => ?_) ?_
      ·go_simp
       refine hK _ _ ?_
       clear hK K
       refine wpAnyIn_take (i := 13) (v := ?_) rfl rfl (by kernel_rfl) (by kernel_rfl) (by kernel_rfl) (fun _ _ _ h => h) ⟨Or.inl ⟨by rfl, ?_⟩, fun _ => rfl⟩ ?_
       rotate_left
       ·intro w; go_simp; first | done | with_reducible rfl | rw [if_neg (by omega)]
       refine wpAnyIn_ready (rs := [14]) (by kernel_rfl) (by simp) ?_
       refine AllReadyIn.cons rfl (fun K hK => ?_) ?_
       ·go_simp
        refine hK _ _ ?_
        clear hK K
        refine wpAnyIn_done (by kernel_rfl) ?_ _
        exact fin { tmps := #[], defers := [] } w5 hb5 hN5
       exact AllReadyIn.nil
      exact AllReadyIn.nil
     exact AllReadyIn.nil
    exact AllReadyIn.nil
   exact AllReadyIn.nil
  refine AllReadyIn.cons rfl (fun K hK => ?_) ?_
  ·go_simp
   refine hK _ _ ?_
   clear hK K
   refine wpAnyIn_take (i := 10) (v := ?_) rfl rfl (by kernel_rfl) (by kernel_rfl) (by kernel_rfl) (fun _ _ _ h => h) ⟨Or.inl ⟨by rfl, ?_⟩, fun _ => rfl⟩ ?_
   rotate_left
   ·intro w; go_simp; first | done | with_reducible rfl | rw [if_neg (by omega)]
   refine wpAnyIn_ready (rs := [2, 4, 11]) (by kernel_rfl) (by simp) ?_
   refine AllReadyIn.cons rfl (fun K hK => ?_) ?_
   ·go_simp
    refine hK _ _ ?_
    clear hK K
    refine wpAnyIn_ready (rs := [4, 11]) (by kernel_rfl) (by simp) ?_
    refine AllReadyIn.cons rfl (fun K hK => ?_) ?_
    ·go_simp
     refine hK _ _ ?_
     clear hK K
     refine wpAnyIn_ready (rs := [11]) (by kernel_rfl) (by simp) ?_
     refine AllReadyIn.cons rfl (fun K hK => ?_) ?_
     ·go_simp
      refine hK _ _ ?_
      clear hK K
      refine wpAnyIn_ready (rs := [12]) (by kernel_rfl) (by simp) ?_
      refine AllReadyIn.cons rfl (fun K hK => ?_) ?_
      ·go_simp
       refine ⟨trivial, (callsIn_wide.2 HF.out).mono ?_⟩
       rintro e w5 ⟨rfl, hb5⟩
       have hX5 := (hb5.block _ (Array.getElem?_eq_some_iff.1 HX.out).1).trans HX.out
       have hN5 : NumsAt w5 g r1 := HN.out.block (hb5.block _ HN.out.lt)
       have z2 : w5.cell? ⟨w.heap.size, 2, none⟩ = some (.slice (some ⟨g, 0, none⟩) len cap) := cCc hX5 2
       have z3 := HYC.out w5 hN5
       have z4 := hN5.frozen x.1
       refine hK _ _ ?_
       clear hK K hX5
       refine wpAnyIn_take (i := 13) (v := ?_) rfl rfl (by kernel_rfl) (by kernel_rfl) (by kernel_rfl) (fun _ _ _ h => h) ⟨Or.inl ⟨by rfl, ?_⟩, fun _ => rfl⟩ ?_
       rotate_left
       ·intro w; go_simp; first | done | with_reducible rfl | rw [if_neg (by omega)]
       refine wpAnyIn_ready (rs := [14]) (by kernel_rfl) (by simp) ?_
       refine AllReadyIn.cons rfl (fun K hK => ?_) ?_
       ·go_simp
        refine hK _ _ ?_
        clear hK K
        refine wpAnyIn_done (by kernel_rfl) ?_ _
        exact fin { tmps := #[], defers := [] } w5 hb5 hN5
       exact AllReadyIn.nil
      exact AllReadyIn.nil
     exact AllReadyIn.nil
    refine AllReadyIn.cons rfl (fun K hK => ?_) ?_
    ·go_simp
     refine hK _ _ ?_
     clear hK K
     refine wpAnyIn_ready (rs := [4]) (by kernel_rfl) (by simp) ?_
     refine AllReadyIn.cons rfl (fun K hK => ?_) ?_
     ·go_simp
      refine hK _ _ ?_
      clear hK K
      refine wpAnyIn_ready (rs := [12]) (by kernel_rfl) (by simp) ?_
      refine AllReadyIn.cons rfl (fun K hK => ?_) ?_
      ·go_simp
       refine ⟨trivial, (callsIn_wide.2 HF.out).mono ?_⟩
       rintro e w5 ⟨rfl, hb5⟩
       have hX5 := (hb5.block _ (Array.getElem?_eq_some_iff.1 HX.out).1).trans HX.out
       have hN5 : NumsAt w5 g r1 := HN.out.block (hb5.block _ HN.out.lt)
       have z2 : w5.cell? ⟨w.heap.size, 2, none⟩ = some (.slice (some ⟨g, 0, none⟩) len cap) := cCc hX5 2
       have z3 := HYC.out w5 hN5
       have z4 := hN5.frozen x.1
       refine hK _ _ ?_
       clear hK K hX5
       refine wpAnyIn_take (i := 13) (v := ?_) rfl rfl (by kernel_rfl) (by kernel_rfl) (by kernel_rfl) (fun _ _ _ h => h) ⟨Or.inl ⟨by rfl, ?_⟩, fun _ => rfl⟩ ?_
       rotate_left
       ·intro w; go_simp; first | done | with_reducible rfl | rw [if_neg (by omega)]
       refine wpAnyIn_ready (rs := [14]) (by kernel_rfl) (by simp) ?_
       refine AllReadyIn.cons rfl (fun K hK => ?_) ?_
       ·go_simp
        refine hK _ _ ?_
        clear hK K
        refine wpAnyIn_done (by kernel_rfl) ?_ _
        exact fin { tmps := #[], defers := [] } w5 hb5 hN5
       exact AllReadyIn.nil
      exact AllReadyIn.nil
     exact AllReadyIn.nil
    exact AllReadyIn.nil
   refine AllReadyIn.cons rfl (fun K hK => ?_) ?_
   ·go_simp
    refine hK _ _ ?_
    clear hK K
    refine wpAnyIn_ready (rs := [2, 11]) (by kernel_rfl) (by simp) ?_
    refine AllReadyIn.cons rfl (fun K hK => ?_) ?_
    ·go_simp
     refine hK _ _ ?_
     clear hK K
     refine wpAnyIn_ready (rs := [11]) (by kernel_rfl) (by simp) ?_
     refine AllReadyIn.cons rfl (fun K hK => ?_) ?_
     ·go_simp
      refine hK _ _ ?_
      clear hK K
      refine wpAnyIn_ready (rs := [12]) (by kernel_rfl) (by simp) ?_
      refine AllReadyIn.cons rfl (fun K hK => ?_) ?_
      ·go_simp
       refine ⟨trivial, (callsIn_wide.2 HF.out).mono ?_⟩
       rintro e w5 ⟨rfl, hb5⟩
       have hX5 := (hb5.block _ (Array.getElem?_eq_some_iff.1 HX.out).1).trans HX.out
       have hN5 : NumsAt w5 g r1 := HN.out.block (hb5.block _ HN.out.lt)
       have z2 : w5.cell? ⟨w.heap.size, 2, none⟩ = some (.slice (some ⟨g, 0, none⟩) len cap) := cCc hX5 2
       have z3 := HYC.out w5 hN5
       have z4 := hN5.frozen x.1
       refine hK _ _ ?_
       clear hK K hX5
       refine wpAnyIn_take (i := 13) (v := ?_) rfl rfl (by kernel_rfl) (by kernel_rfl) (by kernel_rfl) (fun _ _ _ h => h) ⟨Or.inl ⟨by rfl, ?_⟩, fun _ => rfl⟩ ?_
       rotate_left
       ·intro w; go_simp; first | done | with_reducible rfl | rw [if_neg (by omega)]
       refine wpAnyIn_ready (rs := [14]) (by kernel_rfl) (by simp) ?_
       refine AllReadyIn.cons rfl (fun K hK => ?_) ?_
       ·go_simp
        refine hK _ _ ?_
        clear hK K
        refine wpAnyIn_done (by kernel_rfl) ?_ _
        exact fin { tmps := #[], defers := [] } w5 hb5 hN5
       exact AllReadyIn.nil
      exact AllReadyIn.nil
     exact AllReadyIn.nil
    refine AllReadyIn.cons rfl (fun K hK => ?_) ?_
    ·go_simp
     refine hK _ _ ?_
     clear hK K
     refine wpAnyIn_ready (rs := [2, 12]) (by kernel_rfl) (by simp) ?_
     refine AllReadyIn.cons rfl (fun K hK => ?_) ?_
     ·go_simp
      refine hK _ _ ?_
      clear hK K
      refine wpAnyIn_ready (rs := [12]) (by kernel_rfl) (by simp) ?_
      refine AllReadyIn.cons rfl (fun K hK => ?_) ?_
      ·go_simp
       refine ⟨trivial, (callsIn_wide.2 HF.out).mono ?_⟩
       rintro e w5 ⟨rfl, hb5⟩
       have hX5 := (hb5.block _ (Array.getElem?_eq_some_iff.1 HX.out).1).trans HX.out
       have hN5 : NumsAt w5 g r1 := HN.out.block (hb5.block _ HN.out.lt)
       have z2 : w5.cell? ⟨w.heap.size, 2, none⟩ = some (.slice (some ⟨g, 0, none⟩) len cap) := cCc hX5 2
       have z3 := HYC.out w5 hN5
       have z4 := hN5.frozen x.1
       refine hK _ _ ?_
       clear hK K hX5
       refine wpAnyIn_take (i := 13) (v := ?_) rfl rfl (by kernel_rfl) (by kernel_rfl) (by kernel_rfl) (fun _ _ _ h => h) ⟨Or.inl ⟨by rfl, ?_⟩, fun _ => rfl⟩ ?_
       rotate_left
       ·intro w; go_simp; first | done | with_reducible rfl | rw [if_neg (by omega)]
       refine wpAnyIn_ready (rs := [14]) (by kernel_rfl) (by simp) ?_
       refine AllReadyIn.cons rfl (fun K hK => ?_) ?_
       ·go_simp
        refine hK _ _ ?_
        clear hK K
        refine wpAnyIn_done (by kernel_rfl) ?_ _
        exact fin { tmps := #[], defers := [] } w5 hb5 hN5
       exact AllReadyIn.nil
      exact AllReadyIn.nil
     refine AllReadyIn.cons rfl (fun K hK => ?_) ?_
     ·go_simp
      refine ⟨trivial, (callsIn_wide.2 HF.out).mono ?_⟩
      rintro e w5 ⟨rfl, hb5⟩
      have hX5 := (hb5.block _ (Array.getElem?_eq_some_iff.1 HX.out).1).trans HX.out
      have hN5 : NumsAt w5 g r1 := HN.out.block (hb5.block _ HN.out.lt)
      have z2 : w5.cell? ⟨w.heap.size, 2, none⟩ = some (.slice (some ⟨g, 0, none⟩) len cap) := cCc hX5 2
      have z3 := HYC.out w5 hN5
      have z4 := hN5.frozen x.1
      refine hK _ _ ?_
      clear hK K hX5
      refine wpAnyIn_ready (rs := [2]) (by kernel_rfl) (by simp) ?_
      refine AllReadyIn.cons rfl (fun K hK => ?_) ?_
      ·go_simp
       refine hK _ _ ?_
       clear hK K
       refine wpAnyIn_take (i := 13) (v := ?_) rfl rfl (by kernel_rfl) (by kernel_rfl) (by kernel_rfl) (fun _ _ _ h => h) ⟨Or.inl ⟨by rfl, ?_⟩, fun _ => rfl⟩ ?_
       rotate_left
       ·intro w; go_simp; first | done | with_reducible rfl | rw [if_neg (by omega)]
       refine wpAnyIn_ready (rs := [14]) (by kernel_rfl) (by simp) ?_
       refine AllReadyIn.cons rfl (fun K hK => ?_) ?_
       ·go_simp
        refine hK _ _ ?_
        clear hK K
        refine wpAnyIn_done (by kernel_rfl) ?_ _
        exact fin { tmps := #[], defers := [] } w5 hb5 hN5
       exact AllReadyIn.nil
      exact AllReadyIn.nil
     exact AllReadyIn.nil
    exact AllReadyIn.nil
   refine AllReadyIn.cons rfl (fun K hK => ?_) ?_
   ·go_simp
    refine hK _ _ ?_
    clear hK K
    refine wpAnyIn_ready (rs := [2, 4]) (by kernel_rfl) (by simp) ?_
    refine AllReadyIn.cons rfl (fun K hK => ?_) ?_
    ·go_simp
     refine hK _ _ ?_
     clear hK K
     refine wpAnyIn_ready (rs := [4]) (by kernel_rfl) (by simp) ?_
     refine AllReadyIn.cons rfl (fun K hK => ?_) ?_
     ·go_simp
      refine hK _ _ ?_
      clear hK K
      refine wpAnyIn_ready (rs := [12]) (by kernel_rfl) (by simp) ?_
      refine AllReadyIn.cons rfl (fun K hK => ?_) ?_
      ·go_simp
       refine ⟨trivial, (callsIn_wide.2 HF.out).mono ?_⟩
       rintro e w5 ⟨rfl, hb5⟩
       have hX5 := (hb5.block _ (Array.getElem?_eq_some_iff.1 HX.out).1).trans HX.out
       have hN5 : NumsAt w5 g r1 := HN.out.block (hb5.block _ HN.out.lt)
       have z2 : w5.cell? ⟨w.heap.size, 2, none⟩ = some (.slice (some ⟨g, 0, none⟩) len cap) := cCc hX5 2
       have z3 := HYC.out w5 hN5
       have z4 := hN5.frozen x.1
       refine hK _ _ ?_
       clear hK K hX5
       refine wpAnyIn_take (i := 13) (v := ?_) rfl rfl (by kernel_rfl) (by kernel_rfl) (by kernel_rfl) (fun _ _ _ h => h) ⟨Or.inl ⟨by rfl, ?_⟩, fun _ => rfl⟩ ?_
       rotate_left
       ·intro w; go_simp; first | done | with_reducible rfl | rw [if_neg (by omega)]
       refine wpAnyIn_ready (rs := [14]) (by kernel_rfl) (by simp) ?_
       refine AllReadyIn.cons rfl (fun K hK => ?_) ?_
       ·go_simp
        refine hK _ _ ?_
        clear hK K
        refine wpAnyIn_done (by kernel_rfl) ?_ _
        exact fin { tmps := #[], defers := [] } w5 hb5 hN5
       exact AllReadyIn.nil
      exact AllReadyIn.nil
     exact AllReadyIn.nil
    refine AllReadyIn.cons rfl (fun K hK => ?_) ?_
    ·go_simp
     refine hK _ _ ?_
     clear hK K
     refine wpAnyIn_ready (rs := [2, 12]) (by kernel_rfl) (by simp) ?_
     refine AllReadyIn.cons rfl (fun K hK => ?_) ?_
     ·go_simp
      refine hK _ _ ?_
      clear hK K
      refine wpAnyIn_ready (rs := [12]) (by kernel_rfl) (by simp) ?_
      refine AllReadyIn.cons rfl (fun K hK => ?_) ?_
      ·go_simp
       refine ⟨trivial, (callsIn_wide.2 HF.out).mono ?_⟩
       rintro e w5 ⟨rfl, hb5⟩
       have hX5 := (hb5.block _ (Array.getElem?_eq_some_iff.1 HX.out).1).trans HX.out
       have hN5 : NumsAt w5 g r1 := HN.out.block (hb5.block _ HN.out.lt)
       have z2 : w5.cell? ⟨w.heap.size, 2, none⟩ = some (.slice (some ⟨g, 0, none⟩) len cap) := cCc hX5 2
       have z3 := HYC.out w5 hN5
       have z4 := hN5.frozen x.1
       refine hK _ _ ?_
       clear hK K hX5
       refine wpAnyIn_take (i := 13) (v := ?_) rfl rfl (by kernel_rfl) (by kernel_rfl) (by kernel_rfl) (fun _ _ _ h => h) ⟨Or.inl ⟨by rfl, ?_⟩, fun _ => rfl⟩ ?_
       rotate_left
       ·intro w; go_simp; first | done | with_reducible rfl | rw [if_neg (by omega)]
       refine wpAnyIn_ready (rs := [14]) (by kernel_rfl) (by simp) ?_
       refine AllReadyIn.cons rfl (fun K hK => ?_) ?_
       ·go_simp
        refine hK _ _ ?_
        clear hK K
        refine wpAnyIn_done (by kernel_rfl) ?_ _
        exact fin { tmps := #[], defers := [] } w5 hb5 hN5
       exact AllReadyIn.nil
      exact AllReadyIn.nil
     refine AllReadyIn.cons rfl (fun K hK => ?_) ?_
     ·go_simp
      refine ⟨trivial, (callsIn_wide.2 HF.out).mono ?_⟩
      rintro e w5 ⟨rfl, hb5⟩
      have hX5 := (hb5.block _ (Array.getElem?_eq_some_iff.1 HX.out).1).trans HX.out
      have hN5 : NumsAt w5 g r1 := HN.out.block (hb5.block _ HN.out.lt)
      have z2 : w5.cell? ⟨w.heap.size, 2, none⟩ = some (.slice (some ⟨g, 0, none⟩) len cap) := cCc hX5 2
      have z3 := HYC.out w5 hN5
      have z4 := hN5.frozen x.1
      refine hK _ _ ?_
      clear hK K hX5
      refine wpAnyIn_ready (rs := [2]) (by kernel_rfl) (by simp) ?_
      refine AllReadyIn.cons rfl (fun K hK => ?_) ?_
      ·go_simp
       refine hK _ _ ?_
       clear hK K
       refine wpAnyIn_take (i := 13) (v := ?_) rfl rfl (by kernel_rfl) (by kernel_rfl) (by kernel_rfl) (fun _ _ _ h => h) ⟨Or.inl ⟨by rfl, ?_⟩, fun _ => rfl⟩ ?_
       rotate_left
       ·intro w; go_simp; first | done | with_reducible rfl | rw [if_neg (by omega)]
       refine wpAnyIn_ready (rs := [14]) (by kernel_rfl) (by simp) ?_
       refine AllReadyIn.cons rfl (fun K hK => ?_) ?_
       ·go_simp
        refine hK _ _ ?_
        clear hK K
        refine wpAnyIn_done (by kernel_rfl) ?_ _
        exact fin { tmps := #[], defers := [] } w5 hb5 hN5
       exact AllReadyIn.nil
      exact AllReadyIn.nil
     exact AllReadyIn.nil
    exact AllReadyIn.nil
   exact AllReadyIn.nil
  exact AllReadyIn.nil
 case fin =>
  rintro D W hD ⟨hN, hX, hT, hG⟩ hK
  have hne : some g ≠ some D := fun e => by cases e; omega
  refine marks_ret1 (v := .tuple #[]) hK (results_none rfl _ _ _) ⟨rfl, ?_, ?_⟩
  ·exact hN.block ((grownBy_putObj' _ D _).block _ hN.lt hne)
  ·exact hG.andThen (grownBy_putObj' _ D _) (fun j e => by cases e; exact .inl (by omega))
end Go.Proofs.YtcbbenncdainfaaGreatDoor
namespace Go.Proofs.YtcbbenncdainfaaGreatDoor
open Go Go.RowKit Go.Shelf
theorem chFold_fix {α : Type} (pl : α → Nat) (F : Nat → Int → Int) (hF : ∀ p x y, F p x = F p y) : ∀ (ps : List α) (l : List Int) (i : Nat), (chFold pl F l ps).getD i 0 = if i ∈ ps.map pl ∧ i < l.length then F i 0 else l.getD i 0
 | [], l, i => by simp [chFold]
 | p :: ps, l, i => by
  show (chFold pl F (l.set (pl p) (F (pl p) (l.getD (pl p) 0))) ps).getD i 0 = _
  rw [chFold_fix pl F hF ps, List.length_set, getD_setI]
  by_cases h1 : i ∈ ps.map pl ∧ i < l.length
  ·rw [if_pos h1, if_pos ⟨List.mem_cons_of_mem _ h1.1, h1.2⟩]
  ·rw [if_neg h1]
   by_cases h2 : pl p = i ∧ i < l.length
   ·rw [if_pos h2, if_pos ⟨by rw [List.map_cons, h2.1]; exact List.mem_cons_self, h2.2⟩, h2.1]
    exact hF _ _ _
   ·rw [if_neg h2, if_neg (fun h => ?_)]
    rcases List.mem_cons.1 h.1 with e | e
    ·exact h2 ⟨e.symm, h.2⟩
    ·exact h1 ⟨e, h.2⟩
def lowF (c : Nat) (l : List Int) (p : Nat) (_ : Int) : Int := satI (l.getD (p / (c / 2) * c + p % (c / 2)) 0) (l.getD (p / (c / 2) * c + p % (c / 2) + c / 2) 0)
theorem chFold_low (c : Nat) (l : List Int) : chFold (fun x : Fin (2 * (c / 2)) => x.1) (lowF c l) (List.replicate (2 * (c / 2)) 0) (List.finRange (2 * (c / 2))) = cmLow c l := by
 refine getD_extI _ _ (by rw [chFold_len, cmLow_len]; simp; omega) (fun i hi => ?_)
 rw [chFold_len, List.length_replicate] at hi
 have hm : i ∈ (List.finRange (2 * (c / 2))).map (fun x : Fin (2 * (c / 2)) => x.1) := List.mem_map.2 ⟨⟨i, hi⟩, List.mem_finRange _, rfl⟩
 rw [chFold_fix _ _ (fun p x y => rfl), cmLow_at _ _ _ (by omega), if_pos ⟨hm, by simpa using hi⟩]
 rfl
set_option maxRecDepth 100000 in
set_option maxHeartbeats 2000000 in
theorem lowF_any (c fb xb p : Nat) (old : Int) (l : List Int) (a : Option Addr) (len cap : Nat) (v : Value) (w : World) (hc : c = 8 ∨ c = 16 ∨ c = 32) (hp : p < 2 * (c / 2)) (hl : l.length = 2 * c) (hlu : U64s l) (hL : SlE encU 1 w.heap.size w a len l)
  (hf : w.heap[fb]? = some (.cells #[.int .i64 2, .int .i64 ((c / 2 : Nat) : Int), v] 135 (0, 0))) (hx : w.heap[xb]? = some (.cells #[.int .i64 2, .int .i64 c, .slice a len cap] 28 (0, 0))) :
  Calls Tryz.prog 185 #[.int .i64 p, .int .u64 old, .pointer (some ⟨fb, 0, none⟩), .pointer (some ⟨xb, 0, none⟩)] w fun e w' => e = .returned (.int .u64 (lowF c l p old)) ∧ Below w.heap.size w w' := by
 obtain ⟨q, hq⟩ : ∃ q, p / (c / 2) * c + p % (c / 2) = q := ⟨_, rfl⟩
 obtain ⟨d, hd⟩ : ∃ d, c / 2 = d := ⟨_, rfl⟩
 have hqd : q + d < len := by rw [hL.1, hl, ← hq, ← hd]; rcases hc with rfl | rfl | rfl <;> simp only [Nat.reduceDiv] at hp ⊢ <;> omega
 have hll := hL.1
 obtain ⟨x, hx1⟩ : ∃ x, l[q]? = some x := ⟨_, List.getElem?_eq_getElem (by omega)⟩
 obtain ⟨y, hy1⟩ : ∃ y, l[q + d]? = some y := ⟨_, List.getElem?_eq_getElem (by omega)⟩
 have hF : lowF c l p old = satI x y := by unfold lowF; rw [hq, hd, List.getD_eq_getElem?_getD, hx1, List.getD_eq_getElem?_getD, hy1]; rfl
 rw [hF]
 have hxu : U64 x := hlu x (List.mem_of_getElem? hx1)
 have hyu : U64 y := hlu y (List.mem_of_getElem? hy1)
 obtain ⟨bb, off, rfl, hbb, hcx⟩ := hL.2 q x hx1
 obtain ⟨bb2, off2, e2, -, hcy⟩ := hL.2 (q + d) y hy1
 cases e2
 have k1 : w.cell? ⟨bb, off + q, none⟩ = some (.int .u64 x) := by have h1 := hcx 0 (by omega); rwa [Nat.mul_one] at h1
 have k2 : w.cell? ⟨bb, off + (q + d), none⟩ = some (.int .u64 y) := by have h1 := hcy 0 (by omega); rwa [Nat.mul_one] at h1
 have hdd : (d = 4 ∧ c = 8) ∨ (d = 8 ∧ c = 16) ∨ (d = 16 ∧ c = 32) := by omega
 have hd1 : 1 ≤ d ∧ d ≤ 16 := by clear hq; omega
 have hc32 : c ≤ 32 := by clear hq; omega
 have hlen : len ≤ 64 := by clear hq; omega
 have hqi : wrap64 (wrap64 (wrap64 ((p : Int) / (d : Int)) * (c : Int)) + (p : Int) % (d : Int)) = (q : Int) := by
  have hb : p / d * c ≤ 32 ∧ p % d ≤ 16 ∧ p / d ≤ 32 := by rcases hdd with ⟨rfl, rfl⟩ | ⟨rfl, rfl⟩ | ⟨rfl, rfl⟩ <;> omega
  rw [show (p : Int) / (d : Int) = ((p / d : Nat) : Int) by rw [Int.natCast_ediv], wrap64_nat (p / d) (by omega), ← Int.natCast_mul, wrap64_nat _ (by omega), show (p : Int) % (d : Int) = ((p % d : Nat) : Int) by rw [Int.natCast_emod], ← Int.natCast_add, wrap64_nat _ (by omega), ← hq, hd]
 rw [hd] at hf
 clear hq hd hc hdd hp hl hll
 have hd0 : (0 : Int) < d := by omega
 have hqn : (q : Int) < len := by omega
 have hqn2 : (q : Int) + d < len := by omega
 obtain ⟨f0, f1, f2⟩ := cl3 hf
 obtain ⟨g0, g1, g2⟩ := cl3 hx
 clear hcx hcy hf hx hL hF hlu
 go_enter Tryz.func185, Tryz.ntmps185
 go_wp2_with fail
 go_quiet (fail)
 go_wp2_with fail
 rw [hqi]
 have hB1 : Below w.heap.size w (w.drewN nq) := bDr (Below.refl _ _) nq
 obtain ⟨W1, hW1⟩ : ∃ W1, w.drewN nq = W1 := ⟨_, rfl⟩
 rw [hW1] at hB1 ⊢
 have k2 : w.cell? ⟨bb, off + ((q : Int) + (d : Int)).toNat, none⟩ = some (.int .u64 y) := by rw [show ((q : Int) + (d : Int)).toNat = q + d by omega]; exact k2
 have HQ : Hid (∀ W, Below W1.heap.size W1 W → W.cell? ⟨fb, 1, none⟩ = some (.int .i64 d) ∧ W.cell? ⟨xb, 2, none⟩ = some (.slice (some ⟨bb, off, none⟩) len cap) ∧ W.cell? ⟨bb, off + q, none⟩ = some (.int .u64 x) ∧ W.cell? ⟨bb, off + ((q : Int) + (d : Int)).toNat, none⟩ = some (.int .u64 y) ∧ Below W1.heap.size W1 W) := fun W h => by
  have h0 := hB1.trans (h.mono hB1.size)
  have hlt : ∀ b o v, w.cell? ⟨b, o, none⟩ = some v → b < w.heap.size := fun b o v hc => World.block_lt_of_cell? w _ hc
  exact ⟨(h0.cell (p := ⟨fb, 1, none⟩) (hlt _ _ _ f1)).trans f1, (h0.cell (p := ⟨xb, 2, none⟩) (hlt _ _ _ g2)).trans g2, (h0.cell (p := ⟨bb, off + q, none⟩) (hlt _ _ _ k1)).trans k1, (h0.cell (p := ⟨bb, off + ((q : Int) + (d : Int)).toNat, none⟩) (hlt _ _ _ k2)).trans k2, h⟩
 obtain ⟨m0, m1, m2, m3, mB⟩ := HQ.out W1 (Below.refl _ _)
 have HT : Hid (Calls Tryz.prog 183 #[.slice (some ⟨W1.heap.size, 0, none⟩) 2 2] (W1.alloc (.cells #[.int .u64 x, .int .u64 y] 43)).drew fun e w' => e = .returned (.int .u64 (satI x y)) ∧ w' = (W1.alloc (.cells #[.int .u64 x, .int .u64 y] 43)).drew) := ctogether_any W1.heap.size x y _ (cCc (W := W1.alloc _) (World.alloc_heap_new W1 _) 0) (cCc (W := W1.alloc _) (World.alloc_heap_new W1 _) 1) hxu hyu
 have HB1 := Lib.hid hB1
 have hw1 : IntKind.i64.wrap ((q : Int) + (d : Int)) = (q : Int) + (d : Int) := IntWalk.i64_in _ (by omega)
 have hn0 : (0 : Int) ≤ q := by omega
 have hn1 : (0 : Int) ≤ (q : Int) + d := by omega
 clear hW1 k1 k2 f0 f1 f2 g0 g1 g2 hqi hB1
 go_region_held3 (fun w' => w'.cell? ⟨fb, 1, none⟩ = some (.int .i64 d) ∧ w'.cell? ⟨xb, 2, none⟩ = some (.slice (some ⟨bb, off, none⟩) len cap) ∧ w'.cell? ⟨bb, off + q, none⟩ = some (.int .u64 x) ∧ w'.cell? ⟨bb, off + ((q : Int) + (d : Int)).toNat, none⟩ = some (.int .u64 y) ∧ Below W1.heap.size W1 w')
  (first
   | exact HQ.out _ (Below.refl _ _).drew
   | (go_split_ands; refine HQ.out _ ?_; first | assumption | exact Below.alloc (by assumption) (Below.size (by assumption)) _ | exact Below.drew (by assumption) | exact Below.trans (by assumption) (Below.mono (by assumption) (Below.size (by assumption)))))
  (first
   | (go_at_call 183; refine HT.out.mono ?_; rintro e w5 ⟨rfl, rfl⟩))
 go_wp2_with fail
 go_ret
 exact ⟨rfl, HB1.out.trans (((Below.refl _ W1).alloc (Nat.le_refl _) _).drew.mono HB1.out.size)⟩
end Go.Proofs.YtcbbenncdainfaaGreatDoor
namespace Go.Proofs.YtcbbenncdainfaaGreatDoor
open Go Go.RowKit Go.Shelf Go.Maps
theorem lawI : Keyed Tryz.prog 3 := int_keyed Tryz.underlying3
theorem und_counts : Tryz.prog.underlying 239 = some (.map 3 43) := by kernel_rfl
theorem zeroU (w : World) : (zeroValue 43).run Tryz.prog w = .ok (.int .u64 0) w := by kernel_rfl
def MapIs (W : World) (b K : Nat) (l : List (Int × Int)) : Prop := ∃ (nn : Nat) (D : DataW Unit), W.ownsMap Tryz.prog 3 (plainElem Tryz.prog 43) b nn D ∧ nn ≤ K ∧ ∀ p z, D.atKey (.int .i64 p) z = match binAt l p with
 | some x => .lit (.int .u64 x)
 | none => z
theorem MapIs.kept {W W' : World} {b K : Nat} {l : List (Int × Int)} {row : Option Nat} (h : MapIs W b K l) (hg : W.grownBy W' row) (hne : some b ≠ row) : MapIs W' b K l := by
 obtain ⟨nn, D, h1, h2⟩ := h
 exact ⟨nn, D, h1.kept hg hne, h2⟩
theorem MapIs.lt {W : World} {b K : Nat} {l : List (Int × Int)} (h : MapIs W b K l) : b < W.heap.size := by
 obtain ⟨nn, D, h1, h2⟩ := h
 exact h1.lt
theorem i64_wf {p : Int} (h : I64 p) : (Lit.int .i64 p).wf = true := WalkArith.wf_i64 h
theorem u64_wf {p : Int} (h : U64 p) : (Lit.int .u64 p).wf = true := by unfold U64 at h; simp [Lit.wf, IntKind.min, IntKind.max, IntKind.signed, IntKind.bits]; omega
def binGet (l : List (Int × Int)) (p : Int) : Int := (binAt l p).getD 0
theorem MapIs.look {W : World} {b K : Nat} {l : List (Int × Int)} (h : MapIs W b K l) {p : Int} (hp : I64 p) : (Instr.lookup 239 (.map (some b)) (.int .i64 p) false).run Tryz.prog W = .ok (.int .u64 (binGet l p)) W := by
 obtain ⟨nn, D, h1, h2, h3⟩ := h
 obtain ⟨c, hr, hc, -⟩ := h1.lookup_int (key := .int .i64 p) lawI und_counts Tryz.underlying43 (zeroU W) (keyOf_int_mk Tryz.underlying3 (i64_wf hp))
 rw [h3] at hc
 have e : c = binGet l p := by
  unfold binGet
  cases hb : binAt l p with
  | none => rw [hb] at hc; simpa using hc.symm
  | some x => rw [hb] at hc; simpa using hc.symm
 rw [← e]
 exact hr
theorem MapIs.update {W : World} {b K : Nat} {l : List (Int × Int)} (h : MapIs W b K l) {p n : Int} (hp : I64 p) (hn : U64 n) (hK : K ≤ 5000) (hu : BinUp l) (hbu : BinsU l) : ∃ w', (Instr.mapUpdate 239 (.map (some b)) (.int .i64 p) (.int .u64 (satI (binGet l p) n))).run Tryz.prog W = .ok () w' ∧ MapIs w' b (K + 1) (binPut l p n) ∧ W.grownBy w' (some b) := by
 obtain ⟨nn, D, h1, h2, h3⟩ := h
 have hv : U64 (satI (binGet l p) n) := by
  refine satI_u64 _ _ ?_ hn
  unfold binGet
  cases hb : binAt l p with
  | none => exact u64_0
  | some x => exact binAt_u64 hbu hb
 obtain ⟨w', hr, ho, hg⟩ := h1.update (key := .int .i64 p) lawI und_counts (by unfold maxLen; omega) (keyOf_int_mk Tryz.underlying3 (i64_wf hp)) (plainElem_int Tryz.underlying43 (u64_wf hv))
 refine ⟨w', hr, ⟨nn + 1, _, ho, by omega, fun q z => ?_⟩, hg⟩
 rw [binAt_put l p n q hu]
 by_cases hq : q = p
 ·subst hq
  rw [if_pos rfl, atKey_put_same (k := .int .i64 q) (h1.tidy lawI).isMap trivial]
  unfold binUp binGet
  cases binAt l q with
  | none => simp only [Option.getD_none]; rw [satI_0 n hn]
  | some x => rfl
 ·rw [if_neg hq, atKey_put_other (by simpa using hq)]
  exact h3 q z
set_option maxRecDepth 100000 in
set_option maxHeartbeats 2000000 in
theorem put_any (b K : Nat) (f : Int) (p n : Int) (l : List (Int × Int)) (w : World) (hm : MapIs w b K l) (hp : I64 p) (hn : U64 n) (hK : K ≤ 5000) (hu : BinUp l) (hb : BinsU l) :
  Calls Tryz.prog 200 #[.agg #[.map (some b), .int .i64 f], .int .i64 p, .int .u64 n] w fun e w' => e = .returned (.tuple #[]) ∧ MapIs w' b (K + 1) (binPut l p n) ∧ w.grownBy w' (some b) := by
 obtain ⟨W1, hW1, hX1, hB1, hs1⟩ := boxes1 w #[.map (some b), .int .i64 f] 241
 have hbl := hm.lt
 have hx : U64 (binGet l p) := by
  unfold binGet
  cases h : binAt l p with
  | none => exact u64_0
  | some x => exact binAt_u64 hb h
 have hM1 : MapIs W1.drew b K l := hm.kept (gb_drew (below_gb hB1 none)) (by simp)
 have hlk := hM1.look hp
 obtain ⟨W2, hW2, hX2, hB2, hs2⟩ := boxes1 W1.drew #[.int .u64 (binGet l p), .int .u64 n] 43
 have hM2 : MapIs W2 b K l := hM1.kept (below_gb hB2 none) (by simp)
 obtain ⟨W3, hup, hM3, hG3⟩ := hM2.update hp hn hK hu hb
 have HT := Lib.hid (htogether_any W1.drew.heap.size (binGet l p) n W2 (cCc hX2 0) (cCc hX2 1) hx hn)
 rw [show W1.drew.heap.size = w.heap.size + 1 from hs1] at HT
 have HW2 : Hid ((W1.alloc (.cells #[.int .u64 (binGet l p), .int .u64 n] 43)).drew = W2) := by rw [Hid, ← hW2]; rfl
 have hXd : W1.drew.heap[w.heap.size]? = some (.cells #[.map (some b), .int .i64 f] 241 (0, 0)) := hX1
 have hXe := known hB2 (Nat.le_refl _) hXd
 have y0 : W1.drew.cell? ⟨w.heap.size, 0, none⟩ = some (.map (some b)) := cCc hXd 0
 have z0 : W2.cell? ⟨w.heap.size, 0, none⟩ = some (.map (some b)) := cCc hXe 0
 have hG : w.grownBy W3 (some b) := ((gb_drew (below_gb hB1 (some b))).trans (below_gb hB2 (some b))).trans hG3
 have fin : Ending.returned (.tuple #[]) = Ending.returned (.tuple #[]) ∧ MapIs W3 b (K + 1) (binPut l p n) ∧ w.grownBy W3 (some b) := ⟨rfl, hM3, hG⟩
 generalize satI (binGet l p) n = s at hup HT
 generalize binGet l p = x at hlk HT HW2 hx
 clear hm hM1 hM2 hM3 hG3 hG hXd hXe hX1 hX2 hB1 hB2 hW2 hp hn hu hb hx
 go_enter Tryz.func200, Tryz.ntmps200
 go_wp2_with fail
 refine wp_region_any (by kernel_rfl) ?_
 change wpAny _ _ _ _ _ _ _ (World.drew _)
 refine tk 0 (v := ?_) rfl ?_ ?_
 rotate_left
 ·intro w; go_simp; with_reducible rfl
 refine tk 2 (v := ?_) rfl ?_ ?_
 rotate_left
 ·intro w; go_simp; with_reducible rfl
 refine tk 3 (v := ?_) rfl ?_ ?_
 rotate_left
 ·intro w; go_simp; with_reducible rfl
 refine tk 5 (v := ?_) rfl ?_ ?_
 rotate_left
 ·intro w; go_simp; with_reducible rfl
 refine tk 7 (v := ?_) rfl ?_ ?_
 rotate_left
 ·intro w; go_simp; with_reducible rfl
 refine wpAny_ready (rs := [1, 4]) (by kernel_rfl) (by simp) ?_
 refine AllReady.cons rfl (fun K hK => ?_) ?_
 ·go_simp
  refine hK _ _ ?_
  clear hK K
  refine wpAny_ready (rs := [4]) (by kernel_rfl) (by simp) ?_
  refine AllReady.cons rfl (fun K hK => ?_) ?_
  ·go_simp
   refine hK _ _ ?_
   clear hK K
   refine wpAny_ready (rs := [6]) (by kernel_rfl) (by simp) ?_
   refine AllReady.cons rfl (fun K hK => ?_) ?_
   ·go_simp
    refine hK _ _ ?_
    clear hK K
    refine wpAny_ready (rs := [8]) (by kernel_rfl) (by simp) ?_
    refine AllReady.cons rfl (fun K hK => ?_) ?_
    ·go_simp
     rw [HW2.out]
     refine hK _ _ ?_
     clear hK K
     refine wpAny_ready (rs := [9]) (by kernel_rfl) (by simp) ?_
     refine AllReady.cons rfl (fun K hK => ?_) ?_
     ·go_simp
      refine HT.out.mono ?_
      rintro e w5 ⟨rfl, rfl⟩
      refine hK _ _ ?_
      clear hK K
      refine wpAny_ready (rs := [10]) (by kernel_rfl) (by simp) ?_
      refine AllReady.cons rfl (fun K hK => ?_) ?_
      ·go_simp
       refine hK _ _ ?_
       clear hK K
       refine wpAny_done (by kernel_rfl) ?_ _
       go_end0
       exact ⟨rfl, fin.2⟩
      exact AllReady.nil
     exact AllReady.nil
    exact AllReady.nil
   exact AllReady.nil
  exact AllReady.nil
 refine AllReady.cons rfl (fun K hK => ?_) ?_
 ·go_simp
  refine hK _ _ ?_
  clear hK K
  refine wpAny_ready (rs := [1, 6]) (by kernel_rfl) (by simp) ?_
  refine AllReady.cons rfl (fun K hK => ?_) ?_
  ·go_simp
   refine hK _ _ ?_
   clear hK K
   refine wpAny_ready (rs := [6]) (by kernel_rfl) (by simp) ?_
   refine AllReady.cons rfl (fun K hK => ?_) ?_
   ·go_simp
    refine hK _ _ ?_
    clear hK K
    refine wpAny_ready (rs := [8]) (by kernel_rfl) (by simp) ?_
    refine AllReady.cons rfl (fun K hK => ?_) ?_
    ·go_simp
     rw [HW2.out]
     refine hK _ _ ?_
     clear hK K
     refine wpAny_ready (rs := [9]) (by kernel_rfl) (by simp) ?_
     refine AllReady.cons rfl (fun K hK => ?_) ?_
     ·go_simp
      refine HT.out.mono ?_
      rintro e w5 ⟨rfl, rfl⟩
      refine hK _ _ ?_
      clear hK K
      refine wpAny_ready (rs := [10]) (by kernel_rfl) (by simp) ?_
      refine AllReady.cons rfl (fun K hK => ?_) ?_
      ·go_simp
       refine hK _ _ ?_
       clear hK K
       refine wpAny_done (by kernel_rfl) ?_ _
       go_end0
       exact ⟨rfl, fin.2⟩
      exact AllReady.nil
     exact AllReady.nil
    exact AllReady.nil
   exact AllReady.nil
  refine AllReady.cons rfl (fun K hK => ?_) ?_
  ·go_simp
   refine hK _ _ ?_
   clear hK K
   refine wpAny_ready (rs := [1, 8]) (by kernel_rfl) (by simp) ?_
   refine AllReady.cons rfl (fun K hK => ?_) ?_
   ·go_simp
    refine hK _ _ ?_
    clear hK K
    refine wpAny_ready (rs := [8]) (by kernel_rfl) (by simp) ?_
    refine AllReady.cons rfl (fun K hK => ?_) ?_
    ·go_simp
     rw [HW2.out]
     refine hK _ _ ?_
     clear hK K
     refine wpAny_ready (rs := [9]) (by kernel_rfl) (by simp) ?_
     refine AllReady.cons rfl (fun K hK => ?_) ?_
     ·go_simp
      refine HT.out.mono ?_
      rintro e w5 ⟨rfl, rfl⟩
      refine hK _ _ ?_
      clear hK K
      refine wpAny_ready (rs := [10]) (by kernel_rfl) (by simp) ?_
      refine AllReady.cons rfl (fun K hK => ?_) ?_
      ·go_simp
       refine hK _ _ ?_
       clear hK K
       refine wpAny_done (by kernel_rfl) ?_ _
       go_end0
       exact ⟨rfl, fin.2⟩
      exact AllReady.nil
     exact AllReady.nil
    exact AllReady.nil
   refine AllReady.cons rfl (fun K hK => ?_) ?_
   ·go_simp
    rw [HW2.out]
    refine hK _ _ ?_
    clear hK K
    refine wpAny_ready (rs := [1, 9]) (by kernel_rfl) (by simp) ?_
    refine AllReady.cons rfl (fun K hK => ?_) ?_
    ·go_simp
     refine hK _ _ ?_
     clear hK K
     refine wpAny_ready (rs := [9]) (by kernel_rfl) (by simp) ?_
     refine AllReady.cons rfl (fun K hK => ?_) ?_
     ·go_simp
      refine HT.out.mono ?_
      rintro e w5 ⟨rfl, rfl⟩
      refine hK _ _ ?_
      clear hK K
      refine wpAny_ready (rs := [10]) (by kernel_rfl) (by simp) ?_
      refine AllReady.cons rfl (fun K hK => ?_) ?_
      ·go_simp
       refine hK _ _ ?_
       clear hK K
       refine wpAny_done (by kernel_rfl) ?_ _
       go_end0
       exact ⟨rfl, fin.2⟩
      exact AllReady.nil
     exact AllReady.nil
    refine AllReady.cons rfl (fun K hK => ?_) ?_
    ·go_simp
     refine HT.out.mono ?_
     rintro e w5 ⟨rfl, rfl⟩
     refine hK _ _ ?_
     clear hK K
     refine wpAny_ready (rs := [1]) (by kernel_rfl) (by simp) ?_
     refine AllReady.cons rfl (fun K hK => ?_) ?_
     ·go_simp
      refine hK _ _ ?_
      clear hK K
      refine wpAny_ready (rs := [10]) (by kernel_rfl) (by simp) ?_
      refine AllReady.cons rfl (fun K hK => ?_) ?_
      ·go_simp
       refine hK _ _ ?_
       clear hK K
       refine wpAny_done (by kernel_rfl) ?_ _
       go_end0
       exact ⟨rfl, fin.2⟩
      exact AllReady.nil
     exact AllReady.nil
    exact AllReady.nil
   exact AllReady.nil
  exact AllReady.nil
 exact AllReady.nil
end Go.Proofs.YtcbbenncdainfaaGreatDoor

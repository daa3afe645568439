/- Package cms: change, by all and Merge's function. Printed by gen_mc.py. Package cms: Merge. Printed by gen_mc.py. -/
import Derived.Test.YtcbbenncdainfaaGreatDoorZRD
namespace Go.Proofs.YtcbbenncdainfaaGreatDoor
open Go Go.RowKit Go.Shelf
theorem chFold_at {α : Type} (pl : α → Nat) (F : Nat → Int → Int) : ∀ (ps : List α) (l : List Int) (i : Nat), (ps.map pl).Nodup → (chFold pl F l ps).getD i 0 = if i ∈ ps.map pl ∧ i < l.length then F i (l.getD i 0) else l.getD i 0
 | [], l, i, _ => by simp [chFold]
 | p :: ps, l, i, h => by
  obtain ⟨h1, h2⟩ := List.nodup_cons.1 h
  show (chFold pl F (l.set (pl p) (F (pl p) (l.getD (pl p) 0))) ps).getD i 0 = _
  rw [chFold_at pl F ps _ i h2, List.length_set, getD_setI]
  by_cases e : pl p = i
  ·subst e
   rw [if_neg (fun h => h1 h.1)]
   by_cases h3 : pl p < l.length
   ·rw [if_pos ⟨rfl, h3⟩, if_pos ⟨List.mem_cons_self, h3⟩]
   ·rw [if_neg (fun h => h3 h.2), if_neg (fun h => h3 h.2)]
  ·have e2 : (if pl p = i ∧ i < l.length then F (pl p) (l.getD (pl p) 0) else l.getD i 0) = l.getD i 0 := if_neg (fun h => e h.1)
   rw [e2]
   by_cases h3 : i ∈ ps.map pl ∧ i < l.length
   ·rw [if_pos h3, if_pos ⟨List.mem_cons_of_mem _ h3.1, h3.2⟩]
   ·rw [if_neg h3, if_neg (fun h => ?_)]
    rcases List.mem_cons.1 h.1 with h4 | h4
    ·exact e h4.symm
    ·exact h3 ⟨h4, h.2⟩
def mrgF (m : List Int) (p : Nat) (x : Int) : Int := satI x (m.getD p 0)
theorem fin_vals (N : Nat) : (List.finRange N).map (fun x : Fin N => x.1) = List.range N := by
 apply List.ext_getElem (by simp)
 intro i h1 h2
 simp
theorem chFold_mrg (N : Nat) (l m : List Int) (hl : l.length = N) : chFold (fun x : Fin N => x.1) (mrgF m) l (List.finRange N) = cmMrg l m := by
 refine getD_extI _ _ (by rw [chFold_len, cmMrg_len]) (fun i hi => ?_)
 rw [chFold_len] at hi
 rw [chFold_at _ _ _ _ _ (by rw [fin_vals]; exact List.nodup_range), fin_vals, if_pos ⟨List.mem_range.2 (by omega), hi⟩, cmMrg_at _ _ _ hi]
 rfl
theorem mrgF_any (yb p : Nat) (x c : Int) (m : List Int) (a : Option Addr) (len cap : Nat) (w : World) (hY : w.heap[yb]? = some (.cells #[.int .i64 2, .int .i64 c, .slice a len cap] 28 (0, 0))) (hL : SlE encU 1 w.heap.size w a len m) (hp : p < len) (hx : U64 x) (hm : U64s m) :
  Calls Tryz.prog 186 #[.int .i64 p, .int .u64 x, .pointer (some ⟨yb, 0, none⟩)] w fun e w' => e = .returned (.int .u64 (mrgF m p x)) ∧ Below w.heap.size w w' := by
 have hll := hL.1
 obtain ⟨y, hy⟩ : ∃ y, m[p]? = some y := ⟨_, List.getElem?_eq_getElem (by omega)⟩
 have hF : mrgF m p x = satI x y := by unfold mrgF; rw [List.getD_eq_getElem?_getD, hy]; rfl
 rw [hF]
 have hyu : U64 y := hm y (List.mem_of_getElem? hy)
 obtain ⟨bb, off, rfl, hbb, hcx⟩ := hL.2 p y hy
 have k1 : w.cell? ⟨bb, off + p, none⟩ = some (.int .u64 y) := by have h1 := hcx 0 (by omega); rwa [Nat.mul_one] at h1
 obtain ⟨W0, hW0, hX0, hB0, hs0⟩ := boxes1 w #[.int .u64 x, .int .u64 y] 43
 have hT := ctogether_any w.heap.size x y W0 (cCc hX0 0) (cCc hX0 1) hx hyu
 have hpi : (p : Int) < len := by omega
 obtain ⟨c0, c1, c2⟩ := cl3 hY
 clear hX0 hcx hY hL hF hll hm hy
 go_enter Tryz.func186, Tryz.ntmps186
 go_wp2_with (go_at_call 183; refine hT.mono ?_; rintro e w' ⟨rfl, rfl⟩)
 go_ret
 exact ⟨rfl, hB0⟩
section
attribute [local go_sem] Oper.semAt_some
set_option maxRecDepth 100000 in
set_option maxHeartbeats 8000000 in
theorem change_mrg (F : Nat → Int → Int) (wb yb g len cap N cap2 : Nat) (r c r2 c2 : Int) (sa : Option Addr) (l : List Int) (w : World)
  (hN1 : N ≤ 1000) (hb : w.heap[wb]? = some (.cells #[.int .i64 r2, .int .i64 c2, .slice sa N cap2] 135 (0, 0))) (hg : NumsAt w g l) (hl : l.length = len) (hlu : U64s l) (hBs : ∀ b ∈ [wb], b < w.heap.size ∧ b ≠ g)
  (hF : ∀ W (p : Fin N) x, w.grownBy W (some g) → U64 x → Calls Tryz.prog 186 #[.int .i64 (p.1 : Nat), .int .u64 x, .pointer (some ⟨yb, 0, none⟩)] W fun e w' => e = .returned (.int .u64 (F p.1 x)) ∧ Below W.heap.size W w') (hFu : ∀ p x, U64 x → U64 (F p x)) (hpl : ∀ p : Fin N, p.1 < len) :
  Calls Tryz.prog 180 #[.agg #[.int .i64 r, .int .i64 c, .slice (some ⟨g, 0, none⟩) len cap], .func (.func 188) #[] #[.pointer (some ⟨wb, 0, none⟩)], .func (.func 186) #[] #[.pointer (some ⟨yb, 0, none⟩)]] w fun e w' => e = .returned (.tuple #[]) ∧ NumsAt w' g (chFold (fun x : Fin N => x.1) F l (List.finRange N)) ∧ w.grownBy w' (some g) := by
 obtain ⟨W1, hW1, hX1, hT1, hB1, hs1⟩ := boxes2 w #[.int .i64 r, .int .i64 c, .slice (some ⟨g, 0, none⟩) len cap] 135 #[.func (.func 186) #[] #[.pointer (some ⟨yb, 0, none⟩)]] 236
 have hgl := hg.lt
 have hgw : w.grownBy W1 (some g) := below_gb hB1 _
 have hseq := all_seq wb r2 c2 sa N cap2 hN1 W1 ((hB1.block _ (hBs wb (by simp)).1).trans hb)
 have hI0 : CI (fun x : Fin N => x.1) F l g w.heap.size #[.int .i64 r, .int .i64 c, .slice (some ⟨g, 0, none⟩) len cap] #[.func (.func 186) #[] #[.pointer (some ⟨yb, 0, none⟩)]] w [] W1 := ⟨hg.block (hB1.block _ hgl), hX1, hT1, hgw⟩
 have HFF := Lib.hid hF
 have HL := Lib.hid hl
 have HLU := Lib.hid hlu
 have HFU := Lib.hid hFu
 have HPL := Lib.hid hpl
 clear hF hl hlu hFu hpl hX1 hT1 hg hb
 refine calls_marks Tryz.func180 rfl ?_
 simp only [Tryz.ntmps180, List.size_toArray, List.length_cons, List.length_nil, Nat.reduceAdd, Nat.reduceSub, Array.replicate_succ, Array.replicate_zero, List.push_toArray, List.append_toArray, List.nil_append, List.cons_append]
 go_wp2_with fail
 refine wp_range_all1 [wb] 6 (fun x : Fin N => .int .i64 (x.1 : Nat)) (gf := 188) (lb := #[.pointer (some ⟨wb, 0, none⟩)]) rfl (enters_of Tryz.func188 (by kernel_rfl) rfl)
  hseq (fun k hk => Nat.lt_of_lt_of_le (hBs k hk).1 (by omega)) (Below.refl _ _) (fun _ => rfl) (CI (fun x : Fin N => x.1) F l g w.heap.size #[.int .i64 r, .int .i64 c, .slice (some ⟨g, 0, none⟩) len cap] #[.func (.func 186) #[] #[.pointer (some ⟨yb, 0, none⟩)]] w) (ci_own _ F l g w.heap.size _ _ w _ (by omega)) hI0 ?assign ?body ?fin
 case assign =>
  rintro l pre x W K hI hK
  simp only [List.zip_toArray, List.zip_cons_cons, List.zip_nil_right, List.size_toArray, List.foldl_toArray', List.foldl_cons, List.foldl_nil, List.setIfInBounds_toArray, List.set_cons_succ, List.set_cons_zero] at hK ⊢
  gi_wp2
  exact hI
 case body =>
  rintro lo pre x W ⟨hN, hX, hT, hG⟩ hlt
  simp only [List.zip_toArray, List.zip_cons_cons, List.zip_nil_right, List.size_toArray, List.foldl_toArray', List.foldl_cons, List.foldl_nil, List.setIfInBounds_toArray, List.set_cons_succ, List.set_cons_zero]
  have hp := HPL.out x
  have hlen1 := chFold_len (fun x : Fin N => x.1) F pre l
  rw [HL.out] at hlen1
  have HS : Hid (chFold (fun x : Fin N => x.1) F l (pre ++ [x]) = (chFold (fun x : Fin N => x.1) F l pre).set x.1 (F x.1 ((chFold (fun x : Fin N => x.1) F l pre).getD x.1 0))) := by
   unfold Hid chFold
   rw [List.foldl_append]
   rfl
  have hU1 := chFold_u64 (fun x : Fin N => x.1) F HFU.out pre l HLU.out
  generalize chFold (fun x : Fin N => x.1) F l pre = r1 at hN hlen1 HS hU1
  have hN1 : NumsAt W.drew g r1 := hN.block rfl
  have hX2 : W.drew.heap[w.heap.size]? = some (.cells #[.int .i64 r, .int .i64 c, .slice (some ⟨g, 0, none⟩) len cap] 135 (0, 0)) := hX
  have hT2 : W.drew.heap[w.heap.size + 1]? = some (.cells #[.func (.func 186) #[] #[.pointer (some ⟨yb, 0, none⟩)]] 236 (0, 0)) := hT
  have HP : Hid (x.1 < r1.length) := by show x.1 < r1.length; omega
  have hxu := getD_u64 r1 hU1 x.1
  have y2 : W.drew.cell? ⟨w.heap.size, 2, none⟩ = some (.slice (some ⟨g, 0, none⟩) len cap) := cCc hX2 2
  have y4 : W.drew.cell? ⟨w.heap.size + 1, 0, none⟩ = some (.func (.func 186) #[] #[.pointer (some ⟨yb, 0, none⟩)]) := cCc hT2 0
  have y11 := hN1.cell HP.out
  have HYC : Hid (∀ w5, NumsAt w5 g r1 → w5.cell? ⟨g, x.1, none⟩ = some (.int .u64 (r1.getD x.1 0))) := fun w5 h => h.cell HP.out
  generalize r1.getD x.1 0 = y at y11 hxu HS HYC
  have HF := Lib.hid (HFF.out W.drew x _ (gb_drew hG) hxu)
  have HN := Lib.hid hN1
  have HX := Lib.hid hX2
  have HG := Lib.hid hG
  have HXX := Lib.hid hX
  have HTT := Lib.hid hT
  have fin : ∀ (a : Act) w5, Below W.drew.heap.size W.drew w5 → NumsAt w5 g r1 → ownPostG W1.heap.size (KL [wb]) (CI (fun x : Fin N => x.1) F l g w.heap.size #[.int .i64 r, .int .i64 c, .slice (some ⟨g, 0, none⟩) len cap] #[.func (.func 186) #[] #[.pointer (some ⟨yb, 0, none⟩)]] w) (fun _ _ _ => False) (pre ++ [x]) W   .normal a (w5.setCell ⟨g, x.1, none⟩ (.int .u64 (F x.1 y))) := fun _ w5 hb5 hN5 => by
   have hG5 : W.grownBy w5 (some g) := (gb_drew (World.grownBy.refl W (some g))).trans (below_gb hb5 _)
   have hG6 := hG5.trans (gb_set w5 g x.1 (.int .u64 (F x.1 y)))
   refine ⟨KeepsFrom.of_grownBy hG6 (fun j e => by cases e; omega), KL.grown hG6 (fun k hk e => by cases e; exact (hBs _ hk).2 rfl), ?_, (hG6.block _ (Array.getElem?_eq_some_iff.1 HXX.out).1 (fun e => by cases e; omega)).trans HXX.out, (hG6.block _ (Array.getElem?_eq_some_iff.1 HTT.out).1 (fun e => by cases e; omega)).trans HTT.out, HG.out.trans hG6⟩
   rw [HS.out]
   exact hN5.set _ _
  have hpi : ((x.1 : Nat) : Int) < len := by omega
  clear hG hX hT hN hN1 hX2 hT2 hU1 hxu HFF
  gi_wp2_with fail
  refine wpIn_region_round (F := Fence.wide) rfl (by kernel_rfl) (by kernel_rfl) ?_
  change wpAnyIn _ _ _ _ _ _ _ _ _ (World.drew _)
  refine wpAnyIn_take (i := 0) (v := ?_) rfl rfl (by kernel_rfl) (by kernel_rfl) (by kernel_rfl) (fun _ _ _ h => h) ⟨Or.inl ⟨by rfl, ?_⟩, fun _ => rfl⟩ ?_
  rotate_left
  ·intro w; go_simp; with_reducible rfl
  refine wpAnyIn_take (i := 1) (v := ?_) rfl rfl (by kernel_rfl) (by kernel_rfl) (by kernel_rfl) (fun _ _ _ h => h) ⟨Or.inl ⟨by rfl, ?_⟩, fun _ => rfl⟩ ?_
  rotate_left
  ·intro w; go_simp; with_reducible rfl
  refine wpAnyIn_take (i := 3) (v := ?_) rfl rfl (by kernel_rfl) (by kernel_rfl) (by kernel_rfl) (fun _ _ _ h => h) ⟨Or.inl ⟨by rfl, ?_⟩, fun _ => rfl⟩ ?_
  rotate_left
  ·intro w; go_simp; with_reducible rfl
  refine wpAnyIn_take (i := 5) (v := ?_) rfl rfl (by kernel_rfl) (by kernel_rfl) (by kernel_rfl) (fun _ _ _ h => h) ⟨Or.inl ⟨by rfl, ?_⟩, fun _ => rfl⟩ ?_
  rotate_left
  ·intro w; go_simp; with_reducible rfl
  refine wpAnyIn_take (i := 6) (v := ?_) rfl rfl (by kernel_rfl) (by kernel_rfl) (by kernel_rfl) (fun _ _ _ h => h) ⟨Or.inl ⟨by rfl, ?_⟩, fun _ => rfl⟩ ?_
  rotate_left
  ·intro w; go_simp; with_reducible rfl
  refine wpAnyIn_take (i := 7) (v := ?_) rfl rfl (by kernel_rfl) (by kernel_rfl) (by kernel_rfl) (fun _ _ _ h => h) ⟨Or.inl ⟨by rfl, ?_⟩, fun _ => rfl⟩ ?_
  rotate_left
  ·intro w; go_simp; with_reducible rfl
  refine wpAnyIn_take (i := 9) (v := ?_) rfl rfl (by kernel_rfl) (by kernel_rfl) (by kernel_rfl) (fun _ _ _ h => h) ⟨Or.inl ⟨by rfl, ?_⟩, fun _ => rfl⟩ ?_
  rotate_left
  ·intro w; go_simp; with_reducible rfl
  refine wpAnyIn_ready (rs := [2, 4, 8]) (by kernel_rfl) (by simp) ?_
  refine AllReadyIn.cons rfl (fun K hK => ?_) ?_
  ·go_simp
   refine hK _ _ ?_
   clear hK K
   refine wpAnyIn_ready (rs := [4, 8]) (by kernel_rfl) (by simp) ?_
   refine AllReadyIn.cons rfl (fun K hK => ?_) ?_
   ·go_simp
    refine hK _ _ ?_
    clear hK K
    refine wpAnyIn_ready (rs := [8]) (by kernel_rfl) (by simp) ?_
    refine AllReadyIn.cons rfl (fun K hK => ?_) ?_
    ·go_simp
     refine hK _ _ ?_
     clear hK K
     refine wpAnyIn_take (i := 10) (v := ?_) rfl rfl (by kernel_rfl) (by kernel_rfl) (by kernel_rfl) (fun _ _ _ h => h) ⟨Or.inl ⟨by rfl, ?_⟩, fun _ => rfl⟩ ?_
     rotate_left
     ·intro w; go_simp; first | done | with_reducible rfl | rw [if_neg (by omega)]
     refine wpAnyIn_ready (rs := [11]) (by kernel_rfl) (by simp) ?_
     refine AllReadyIn.cons rfl (fun K hK => ?_) ?_
     ·go_simp
      refine hK _ _ ?_
      clear hK K
      refine wpAnyIn_ready (rs := [12]) (by kernel_rfl) (by simp) ?_
      refine AllReadyIn.cons rfl (fun K hK => ?_) ?_
      ·go_simp
       refine ⟨trivial, (callsIn_wide.2 HF.out).mono ?_⟩
       rintro e w5 ⟨rfl, hb5⟩
       have hX5 := (hb5.block _ (Array.getElem?_eq_some_iff.1 HX.out).1).trans HX.out
       have hN5 : NumsAt w5 g r1 := HN.out.block (hb5.block _ HN.out.lt)
       have z2 : w5.cell? ⟨w.heap.size, 2, none⟩ = some (.slice (some ⟨g, 0, none⟩) len cap) := cCc hX5 2
       have z3 := HYC.out w5 hN5
       have z4 := hN5.frozen x.1
       refine hK _ _ ?_
       clear hK K hX5
       refine wpAnyIn_take (i := 13) (v := ?_) rfl rfl (by kernel_rfl) (by kernel_rfl) (by kernel_rfl) (fun _ _ _ h => h) ⟨Or.inl ⟨by rfl, ?_⟩, fun _ => rfl⟩ ?_
       rotate_left
       ·intro w; go_simp; first | done | with_reducible rfl | rw [if_neg (by omega)]
       refine wpAnyIn_ready (rs := [14]) (by kernel_rfl) (by simp) ?_
       refine AllReadyIn.cons rfl (fun K hK => ?_) ?_
       ·go_simp
        refine hK _ _ ?_
        clear hK K
        refine wpAnyIn_done (by kernel_rfl) ?_ _
        exact fin { tmps := #[], defers := [] } w5 hb5 hN5
       exact AllReadyIn.nil
      exact AllReadyIn.nil
     exact AllReadyIn.nil
    exact AllReadyIn.nil
   refine AllReadyIn.cons rfl (fun K hK => ?_) ?_
   ·go_simp
    refine hK _ _ ?_
    clear hK K
    refine wpAnyIn_take (i := 10) (v := ?_) rfl rfl (by kernel_rfl) (by kernel_rfl) (by kernel_rfl) (fun _ _ _ h => h) ⟨Or.inl ⟨by rfl, ?_⟩, fun _ => rfl⟩ ?_
    rotate_left
    ·intro w; go_simp; first | done | with_reducible rfl | rw [if_neg (by omega)]
    refine wpAnyIn_ready (rs := [4, 11]) (by kernel_rfl) (by simp) ?_
    refine AllReadyIn.cons rfl (fun K hK => ?_) ?_
    ·go_simp
     refine hK _ _ ?_
     clear hK K
     refine wpAnyIn_ready (rs := [11]) (by kernel_rfl) (by simp) ?_
     refine AllReadyIn.cons rfl (fun K hK => ?_) ?_
     ·go_simp
      refine hK _ _ ?_
      clear hK K
      refine wpAnyIn_ready (rs := [12]) (by kernel_rfl) (by simp) ?_
      refine AllReadyIn.cons rfl (fun K hK => ?_) ?_
      ·go_simp
       refine ⟨trivial, (callsIn_wide.2 HF.out).mono ?_⟩
       rintro e w5 ⟨rfl, hb5⟩
       have hX5 := (hb5.block _ (Array.getElem?_eq_some_iff.1 HX.out).1).trans HX.out
       have hN5 : NumsAt w5 g r1 := HN.out.block (hb5.block _ HN.out.lt)
       have z2 : w5.cell? ⟨w.heap.size, 2, none⟩ = some (.slice (some ⟨g, 0, none⟩) len cap) := cCc hX5 2
       have z3 := HYC.out w5 hN5
       have z4 := hN5.frozen x.1
       refine hK _ _ ?_
       clear hK K hX5
       refine wpAnyIn_take (i := 13) (v := ?_) rfl rfl (by kernel_rfl) (by kernel_rfl) (by kernel_rfl) (fun _ _ _ h => h) ⟨Or.inl ⟨by rfl, ?_⟩, fun _ => rfl⟩ ?_
       rotate_left
       ·intro w; go_simp; first | done | with_reducible rfl | rw [if_neg (by omega)]
       refine wpAnyIn_ready (rs := [14]) (by kernel_rfl) (by simp) ?_
       refine AllReadyIn.cons rfl (fun K hK => ?_) ?_
       ·go_simp
        refine hK _ _ ?_
        clear hK K
        refine wpAnyIn_done (by kernel_rfl) ?_ _
        exact fin { tmps := #[], defers := [] } w5 hb5 hN5
       exact AllReadyIn.nil
      exact AllReadyIn.nil
     exact AllReadyIn.nil
    refine AllReadyIn.cons rfl (fun K hK => ?_) ?_
    ·go_simp
     refine hK _ _ ?_
     clear hK K
     refine wpAnyIn_ready (rs := [4]) (by kernel_rfl) (by simp) ?_
     refine AllReadyIn.cons rfl (fun K hK => ?_) ?_
     ·go_simp
      refine hK _ _ ?_
      clear hK K
      refine wpAnyIn_ready (rs := [12]) (by kernel_rfl) (by simp) ?_
      refine AllReadyIn.cons rfl (fun K hK => ?_) ?_
      ·go_simp
       refine ⟨trivial, (callsIn_wide.2 HF.out).mono ?_⟩
       rintro e w5 ⟨rfl, hb5⟩
       have hX5 := (hb5.block _ (Array.getElem?_eq_some_iff.1 HX.out).1).trans HX.out
       have hN5 : NumsAt w5 g r1 := HN.out.block (hb5.block _ HN.out.lt)
       have z2 : w5.cell? ⟨w.heap.size, 2, none⟩ = some (.slice (some ⟨g, 0, none⟩) len cap) := cCc hX5 2
       have z3 := HYC.out w5 hN5
       have z4 := hN5.frozen x.1
       refine hK _ _ ?_
       clear hK K hX5
       refine wpAnyIn_take (i := 13) (v := ?_) rfl rfl (by kernel_rfl) (by kernel_rfl) (by kernel_rfl) (fun _ _ _ h => h) ⟨Or.inl ⟨by rfl, ?_⟩, fun _ => rfl⟩ ?_
       rotate_left
       ·intro w; go_simp; first | done | with_reducible rfl | rw [if_neg (by omega)]
       refine wpAnyIn_ready (rs := [14]) (by kernel_rfl) (by simp) ?_
       refine AllReadyIn.cons rfl (fun K hK => ?_) ?_
       ·go_simp
        refine hK _ _ ?_
        clear hK K
        refine wpAnyIn_done (by kernel_rfl) ?_ _
        exact fin { tmps := #[], defers := [] } w5 hb5 hN5
       exact AllReadyIn.nil
      exact AllReadyIn.nil
     exact AllReadyIn.nil
    exact AllReadyIn.nil
   exact AllReadyIn.nil
  refine AllReadyIn.cons rfl (fun K hK => ?_) ?_
  ·go_simp
   refine hK _ _ ?_
   clear hK K
   refine wpAnyIn_ready (rs := [2, 8]) (by kernel_rfl) (by simp) ?_
   refine AllReadyIn.cons rfl (fun K hK => ?_) ?_
   ·go_simp
    refine hK _ _ ?_
    clear hK K
    refine wpAnyIn_ready (rs := [8]) (by kernel_rfl) (by simp) ?_
    refine AllReadyIn.cons rfl (fun K hK => ?_) ?_
    ·go_simp
     refine hK _ _ ?_
     clear hK K
     refine wpAnyIn_take (i := 10) (v := ?_) rfl rfl (by kernel_rfl) (by kernel_rfl) (by kernel_rfl) (fun _ _ _ h => h) ⟨Or.inl ⟨by rfl, ?_⟩, fun _ => rfl⟩ ?_
     rotate_left
     ·intro w; go_simp; first | done | with_reducible rfl | rw [if_neg (by omega)]
     refine wpAnyIn_ready (rs := [11]) (by kernel_rfl) (by simp) ?_
     refine AllReadyIn.cons rfl (fun K hK => ?_) ?_
     ·go_simp
      refine hK _ _ ?_
      clear hK K
      refine wpAnyIn_ready (rs := [12]) (by kernel_rfl) (by simp) ?_
      refine AllReadyIn.cons rfl (fun K hK => ?_) ?_
      ·go_simp
       refine ⟨trivial, (callsIn_wide.2 HF.out).mono ?_⟩
       rintro e w5 ⟨rfl, hb5⟩
       have hX5 := (hb5.block _ (Array.getElem?_eq_some_iff.1 HX.out).1).trans HX.out
       have hN5 : NumsAt w5 g r1 := HN.out.block (hb5.block _ HN.out.lt)
       have z2 : w5.cell? ⟨w.heap.size, 2, none⟩ = some (.slice (some ⟨g, 0, none⟩) len cap) := cCc hX5 2
       have z3 := HYC.out w5 hN5
       have z4 := hN5.frozen x.1
       refine hK _ _ ?_
       clear hK K hX5
       refine wpAnyIn_take (i := 13) (v := ?_) rfl rfl (by kernel_rfl) (by kernel_rfl) (by kernel_rfl) (fun _ _ _ h => h) ⟨Or.inl ⟨by rfl, ?_⟩, fun _ => rfl⟩ ?_
       rotate_left
       ·intro w; go_simp; first | done | with_reducible rfl | rw [if_neg (by omega)]
       refine wpAnyIn_ready (rs := [14]) (by kernel_rfl) (by simp) ?_
       refine AllReadyIn.cons rfl (fun K hK => ?_) ?_
       ·go_simp
        refine hK _ _ ?_
        clear hK K
        refine wpAnyIn_done (by kernel_rfl) ?_ _
        exact fin { tmps := #[], defers := [] } w5 hb5 hN5
       exact AllReadyIn.nil
      exact AllReadyIn.nil
     exact AllReadyIn.nil
    exact AllReadyIn.nil
   refine AllReadyIn.cons rfl (fun K hK => ?_) ?_
   ·go_simp
    refine hK _ _ ?_
    clear hK K
    refine wpAnyIn_take (i := 10) (v := ?_) rfl rfl (by kernel_rfl) (by kernel_rfl) (by kernel_rfl) (fun _ _ _ h => h) ⟨Or.inl ⟨by rfl, ?_⟩, fun _ => rfl⟩ ?_
    rotate_left
    ·intro w; go_simp; first | done | with_reducible rfl | rw [if_neg (by omega)]
    refine wpAnyIn_ready (rs := [2, 11]) (by kernel_rfl) (by simp) ?_
    refine AllReadyIn.cons rfl (fun K hK => ?_) ?_
    ·go_simp
     refine hK _ _ ?_
     clear hK K
     refine wpAnyIn_ready (rs := [11]) (by kernel_rfl) (by simp) ?_
     refine AllReadyIn.cons rfl (fun K hK => ?_) ?_
     ·go_simp
      refine hK _ _ ?_
      clear hK K
      refine wpAnyIn_ready (rs := [12]) (by kernel_rfl) (by simp) ?_
      refine AllReadyIn.cons rfl (fun K hK => ?_) ?_
      ·go_simp
       refine ⟨trivial, (callsIn_wide.2 HF.out).mono ?_⟩
       rintro e w5 ⟨rfl, hb5⟩
       have hX5 := (hb5.block _ (Array.getElem?_eq_some_iff.1 HX.out).1).trans HX.out
       have hN5 : NumsAt w5 g r1 := HN.out.block (hb5.block _ HN.out.lt)
       have z2 : w5.cell? ⟨w.heap.size, 2, none⟩ = some (.slice (some ⟨g, 0, none⟩) len cap) := cCc hX5 2
       have z3 := HYC.out w5 hN5
       have z4 := hN5.frozen x.1
       refine hK _ _ ?_
       clear hK K hX5
       refine wpAnyIn_take (i := 13) (v := ?_) rfl rfl (by kernel_rfl) (by kernel_rfl) (by kernel_rfl) (fun _ _ _ h => h) ⟨Or.inl ⟨by rfl, ?_⟩, fun _ => rfl⟩ ?_
       rotate_left
       ·intro w; go_simp; first | done | with_reducible rfl | rw [if_neg (by omega)]
       refine wpAnyIn_ready (rs := [14]) (by kernel_rfl) (by simp) ?_
       refine AllReadyIn.cons rfl (fun K hK => ?_) ?_
       ·go_simp
        refine hK _ _ ?_
        clear hK K
        refine wpAnyIn_done (by kernel_rfl) ?_ _
        exact fin { tmps := #[], defers := [] } w5 hb5 hN5
       exact AllReadyIn.nil
      exact AllReadyIn.nil
     exact AllReadyIn.nil
    refine AllReadyIn.cons rfl (fun K hK => ?_) ?_
    ·go_simp
     refine hK _ _ ?_
     clear hK K
     refine wpAnyIn_ready (rs := [2, 12]) (by kernel_rfl) (by simp) ?_
     refine AllReadyIn.cons rfl (fun K hK => ?_) ?_
     ·go_simp
      refine hK _ _ ?_
      clear hK K
      refine wpAnyIn_ready (rs := [12]) (by kernel_rfl) (by simp) ?_
      refine AllReadyIn.cons rfl (fun K hK => ?_) ?_
      ·go_simp
       refine ⟨trivial, (callsIn_wide.2 HF.out).mono ?_⟩
       rintro e w5 ⟨rfl, hb5⟩
       have hX5 := (hb5.block _ (Array.getElem?_eq_some_iff.1 HX.out).1).trans HX.out
       have hN5 : NumsAt w5 g r1 := HN.out.block (hb5.block _ HN.out.lt)
       have z2 : w5.cell? ⟨w.heap.size, 2, none⟩ = some (.slice (some ⟨g, 0, none⟩) len cap) := cCc hX5 2
       have z3 := HYC.out w5 hN5
       have z4 := hN5.frozen x.1
       refine hK _ _ ?_
       clear hK K hX5
       refine wpAnyIn_take (i := 13) (v := ?_) rfl rfl (by kernel_rfl) (by kernel_rfl) (by kernel_rfl) (fun _ _ _ h => h) ⟨Or.inl ⟨by rfl, ?_⟩, fun _ => rfl⟩ ?_
       rotate_left
       ·intro w; go_simp; first | done | with_reducible rfl | rw [if_neg (by omega)]
       refine wpAnyIn_ready (rs := [14]) (by kernel_rfl) (by simp) ?_
       refine AllReadyIn.cons rfl (fun K hK => ?_) ?_
       ·go_simp
        refine hK _ _ ?_
        clear hK K
        refine wpAnyIn_done (by kernel_rfl) ?_ _
        exact fin { tmps := #[], defers := [] } w5 hb5 hN5
       exact AllReadyIn.nil
      exact AllReadyIn.nil
     refine AllReadyIn.cons rfl (fun K hK => ?_) ?_
     ·go_simp
      refine ⟨trivial, (callsIn_wide.2 HF.out).mono ?_⟩
      rintro e w5 ⟨rfl, hb5⟩
      have hX5 := (hb5.block _ (Array.getElem?_eq_some_iff.1 HX.out).1).trans HX.out
      have hN5 : NumsAt w5 g r1 := HN.out.block (hb5.block _ HN.out.lt)
      have z2 : w5.cell? ⟨w.heap.size, 2, none⟩ = some (.slice (some ⟨g, 0, none⟩) len cap) := cCc hX5 2
      have z3 := HYC.out w5 hN5
      have z4 := hN5.frozen x.1
      refine hK _ _ ?_
      clear hK K hX5
      refine wpAnyIn_ready (rs := [2]) (by kernel_rfl) (by simp) ?_
      refine AllReadyIn.cons rfl (fun K hK => ?_) ?_
      ·go_simp
       refine hK _ _ ?_
       clear hK K
       refine wpAnyIn_take (i := 13) (v := ?_) rfl rfl (by kernel_rfl) (by kernel_rfl) (by kernel_rfl) (fun _ _ _ h => h) ⟨Or.inl ⟨by rfl, ?_⟩, fun _ => rfl⟩ ?_
       rotate_left
       ·intro w; go_simp; first | done | with_reducible rfl | rw [if_neg (by omega)]
       refine wpAnyIn_ready (rs := [14]) (by kernel_rfl) (by simp) ?_
       refine AllReadyIn.cons rfl (fun K hK => ?_) ?_
       ·go_simp
        refine hK _ _ ?_
        clear hK K
        refine wpAnyIn_done (by kernel_rfl) ?_ _
        exact fin { tmps := #[], defers := [] } w5 hb5 hN5
       exact AllReadyIn.nil
      exact AllReadyIn.nil
     exact AllReadyIn.nil
    exact AllReadyIn.nil
   exact AllReadyIn.nil
  refine AllReadyIn.cons rfl (fun K hK => ?_) ?_
  ·go_simp
   refine hK _ _ ?_
   clear hK K
   refine wpAnyIn_take (i := 10) (v := ?_) rfl rfl (by kernel_rfl) (by kernel_rfl) (by kernel_rfl) (fun _ _ _ h => h) ⟨Or.inl ⟨by rfl, ?_⟩, fun _ => rfl⟩ ?_
   rotate_left
   ·intro w; go_simp; first | done | with_reducible rfl | rw [if_neg (by omega)]
   refine wpAnyIn_ready (rs := [2, 4, 11]) (by kernel_rfl) (by simp) ?_
   refine AllReadyIn.cons rfl (fun K hK => ?_) ?_
   ·go_simp
    refine hK _ _ ?_
    clear hK K
    refine wpAnyIn_ready (rs := [4, 11]) (by kernel_rfl) (by simp) ?_
    refine AllReadyIn.cons rfl (fun K hK => ?_) ?_
    ·go_simp
     refine hK _ _ ?_
     clear hK K
     refine wpAnyIn_ready (rs := [11]) (by kernel_rfl) (by simp) ?_
     refine AllReadyIn.cons rfl (fun K hK => ?_) ?_
     ·go_simp
      refine hK _ _ ?_
      clear hK K
      refine wpAnyIn_ready (rs := [12]) (by kernel_rfl) (by simp) ?_
      refine AllReadyIn.cons rfl (fun K hK => ?_) ?_
      ·go_simp
       refine ⟨trivial, (callsIn_wide.2 HF.out).mono ?_⟩
       rintro e w5 ⟨rfl, hb5⟩
       have hX5 := (hb5.block _ (Array.getElem?_eq_some_iff.1 HX.out).1).trans HX.out
       have hN5 : NumsAt w5 g r1 := HN.out.block (hb5.block _ HN.out.lt)
       have z2 : w5.cell? ⟨w.heap.size, 2, none⟩ = some (.slice (some ⟨g, 0, none⟩) len cap) := cCc hX5 2
       have z3 := HYC.out w5 hN5
       have z4 := hN5.frozen x.1
       refine hK _ _ ?_
       clear hK K hX5
       refine wpAnyIn_take (i := 13) (v := ?_) rfl rfl (by kernel_rfl) (by kernel_rfl) (by kernel_rfl) (fun _ _ _ h => h) ⟨Or.inl ⟨by rfl, ?_⟩, fun _ => rfl⟩ ?_
       rotate_left
       ·intro w; go_simp; first | done | with_reducible rfl | rw [if_neg (by omega)]
       refine wpAnyIn_ready (rs := [14]) (by kernel_rfl) (by simp) ?_
       refine AllReadyIn.cons rfl (fun K hK => ?_) ?_
       ·go_simp
        refine hK _ _ ?_
        clear hK K
        refine wpAnyIn_done (by kernel_rfl) ?_ _
        exact fin { tmps := #[], defers := [] } w5 hb5 hN5
       exact AllReadyIn.nil
      exact AllReadyIn.nil
     exact AllReadyIn.nil
    refine AllReadyIn.cons rfl (fun K hK => ?_) ?_
    ·go_simp
     refine hK _ _ ?_
     clear hK K
     refine wpAnyIn_ready (rs := [4]) (by kernel_rfl) (by simp) ?_
     refine AllReadyIn.cons rfl (fun K hK => ?_) ?_
     ·go_simp
      refine hK _ _ ?_
      clear hK K
      refine wpAnyIn_ready (rs := [12]) (by kernel_rfl) (by simp) ?_
      refine AllReadyIn.cons rfl (fun K hK => ?_) ?_
      ·go_simp
       refine ⟨trivial, (callsIn_wide.2 HF.out).mono ?_⟩
       rintro e w5 ⟨rfl, hb5⟩
       have hX5 := (hb5.block _ (Array.getElem?_eq_some_iff.1 HX.out).1).trans HX.out
       have hN5 : NumsAt w5 g r1 := HN.out.block (hb5.block _ HN.out.lt)
       have z2 : w5.cell? ⟨w.heap.size, 2, none⟩ = some (.slice (some ⟨g, 0, none⟩) len cap) := cCc hX5 2
       have z3 := HYC.out w5 hN5
       have z4 := hN5.frozen x.1
       refine hK _ _ ?_
       clear hK K hX5
       refine wpAnyIn_take (i := 13) (v := ?_) rfl rfl (by kernel_rfl) (by kernel_rfl) (by kernel_rfl) (fun _ _ _ h => h) ⟨Or.inl ⟨by rfl, ?_⟩, fun _ => rfl⟩ ?_
       rotate_left
       ·intro w; go_simp; first | done | with_reducible rfl | rw [if_neg (by omega)]
       refine wpAnyIn_ready (rs := [14]) (by kernel_rfl) (by simp) ?_
       refine AllReadyIn.cons rfl (fun K hK => ?_) ?_
       ·go_simp
        refine hK _ _ ?_
        clear hK K
        refine wpAnyIn_done (by kernel_rfl) ?_ _
        exact fin { tmps := #[], defers := [] } w5 hb5 hN5
       exact AllReadyIn.nil
      exact AllReadyIn.nil
     exact AllReadyIn.nil
    exact AllReadyIn.nil
   refine AllReadyIn.cons rfl (fun K hK => ?_) ?_
   ·go_simp
    refine hK _ _ ?_
    clear hK K
    refine wpAnyIn_ready (rs := [2, 11]) (by kernel_rfl) (by simp) ?_
    refine AllReadyIn.cons rfl (fun K hK => ?_) ?_
    ·go_simp
     refine hK _ _ ?_
     clear hK K
     refine wpAnyIn_ready (rs := [11]) (by kernel_rfl) (by simp) ?_
     refine AllReadyIn.cons rfl (fun K hK => ?_) ?_
     ·go_simp
      refine hK _ _ ?_
      clear hK K
      refine wpAnyIn_ready (rs := [12]) (by kernel_rfl) (by simp) ?_
      refine AllReadyIn.cons rfl (fun K hK => ?_) ?_
      ·go_simp
       refine ⟨trivial, (callsIn_wide.2 HF.out).mono ?_⟩
       rintro e w5 ⟨rfl, hb5⟩
       have hX5 := (hb5.block _ (Array.getElem?_eq_some_iff.1 HX.out).1).trans HX.out
       have hN5 : NumsAt w5 g r1 := HN.out.block (hb5.block _ HN.out.lt)
       have z2 : w5.cell? ⟨w.heap.size, 2, none⟩ = some (.slice (some ⟨g, 0, none⟩) len cap) := cCc hX5 2
       have z3 := HYC.out w5 hN5
       have z4 := hN5.frozen x.1
       refine hK _ _ ?_
       clear hK K hX5
       refine wpAnyIn_take (i := 13) (v := ?_) rfl rfl (by kernel_rfl) (by kernel_rfl) (by kernel_rfl) (fun _ _ _ h => h) ⟨Or.inl ⟨by rfl, ?_⟩, fun _ => rfl⟩ ?_
       rotate_left
       ·intro w; go_simp; first | done | with_reducible rfl | rw [if_neg (by omega)]
       refine wpAnyIn_ready (rs := [14]) (by kernel_rfl) (by simp) ?_
       refine AllReadyIn.cons rfl (fun K hK => ?_) ?_
       ·go_simp
        refine hK _ _ ?_
        clear hK K
        refine wpAnyIn_done (by kernel_rfl) ?_ _
        exact fin { tmps := #[], defers := [] } w5 hb5 hN5
       exact AllReadyIn.nil
      exact AllReadyIn.nil
     exact AllReadyIn.nil
    refine AllReadyIn.cons rfl (fun K hK => ?_) ?_
    ·go_simp
     refine hK _ _ ?_
     clear hK K
     refine wpAnyIn_ready (rs := [2, 12]) (by kernel_rfl) (by simp) ?_
     refine AllReadyIn.cons rfl (fun K hK => ?_) ?_
     ·go_simp
      refine hK _ _ ?_
      clear hK K
      refine wpAnyIn_ready (rs := [12]) (by kernel_rfl) (by simp) ?_
      refine AllReadyIn.cons rfl (fun K hK => ?_) ?_
      ·go_simp
       refine ⟨trivial, (callsIn_wide.2 HF.out).mono ?_⟩
       rintro e w5 ⟨rfl, hb5⟩
       have hX5 := (hb5.block _ (Array.getElem?_eq_some_iff.1 HX.out).1).trans HX.out
       have hN5 : NumsAt w5 g r1 := HN.out.block (hb5.block _ HN.out.lt)
       have z2 : w5.cell? ⟨w.heap.size, 2, none⟩ = some (.slice (some ⟨g, 0, none⟩) len cap) := cCc hX5 2
       have z3 := HYC.out w5 hN5
       have z4 := hN5.frozen x.1
       refine hK _ _ ?_
       clear hK K hX5
       refine wpAnyIn_take (i := 13) (v := ?_) rfl rfl (by kernel_rfl) (by kernel_rfl) (by kernel_rfl) (fun _ _ _ h => h) ⟨Or.inl ⟨by rfl, ?_⟩, fun _ => rfl⟩ ?_
       rotate_left
       ·intro w; go_simp; first | done | with_reducible rfl | rw [if_neg (by omega)]
       refine wpAnyIn_ready (rs := [14]) (by kernel_rfl) (by simp) ?_
       refine AllReadyIn.cons rfl (fun K hK => ?_) ?_
       ·go_simp
        refine hK _ _ ?_
        clear hK K
        refine wpAnyIn_done (by kernel_rfl) ?_ _
        exact fin { tmps := #[], defers := [] } w5 hb5 hN5
       exact AllReadyIn.nil
      exact AllReadyIn.nil
     refine AllReadyIn.cons rfl (fun K hK => ?_) ?_
     ·go_simp
      refine ⟨trivial, (callsIn_wide.2 HF.out).mono ?_⟩
      rintro e w5 ⟨rfl, hb5⟩
      have hX5 := (hb5.block _ (Array.getElem?_eq_some_iff.1 HX.out).1).trans HX.out
      have hN5 : NumsAt w5 g r1 := HN.out.block (hb5.block _ HN.out.lt)
      have z2 : w5.cell? ⟨w.heap.size, 2, none⟩ = some (.slice (some ⟨g, 0, none⟩) len cap) := cCc hX5 2
      have z3 := HYC.out w5 hN5
      have z4 := hN5.frozen x.1
      refine hK _ _ ?_
      clear hK K hX5
      refine wpAnyIn_ready (rs := [2]) (by kernel_rfl) (by simp) ?_
      refine AllReadyIn.cons rfl (fun K hK => ?_) ?_
      ·go_simp
       refine hK _ _ ?_
       clear hK K
       refine wpAnyIn_take (i := 13) (v := ?_) rfl rfl (by kernel_rfl) (by kernel_rfl) (by kernel_rfl) (fun _ _ _ h => h) ⟨Or.inl ⟨by rfl, ?_⟩, fun _ => rfl⟩ ?_
       rotate_left
       ·intro w; go_simp; first | done | with_reducible rfl | rw [if_neg (by omega)]
       refine wpAnyIn_ready (rs := [14]) (by kernel_rfl) (by simp) ?_
       refine AllReadyIn.cons rfl (fun K hK => ?_) ?_
       ·go_simp
        refine hK _ _ ?_
        clear hK K
        refine wpAnyIn_done (by kernel_rfl) ?_ _
        exact fin { tmps := #[], defers := [] } w5 hb5 hN5
       exact AllReadyIn.nil
      exact AllReadyIn.nil
     exact AllReadyIn.nil
    exact AllReadyIn.nil
   refine AllReadyIn.cons rfl (fun K hK => ?_) ?_
   ·go_simp
    refine hK _ _ ?_
    clear hK K
    refine wpAnyIn_ready (rs := [2, 4]) (by kernel_rfl) (by simp) ?_
    refine AllReadyIn.cons rfl (fun K hK => ?_) ?_
    ·go_simp
     refine hK _ _ ?_
     clear hK K
     refine wpAnyIn_ready (rs := [4]) (by kernel_rfl) (by simp) ?_
     refine AllReadyIn.cons rfl (fun K hK => ?_) ?_
     ·go_simp
      refine hK _ _ ?_
      clear hK K
      refine wpAnyIn_ready (rs := [12]) (by kernel_rfl) (by simp) ?_
      refine AllReadyIn.cons rfl (fun K hK => ?_) ?_
      ·go_simp
       refine ⟨trivial, (callsIn_wide.2 HF.out).mono ?_⟩
       rintro e w5 ⟨rfl, hb5⟩
       have hX5 := (hb5.block _ (Array.getElem?_eq_some_iff.1 HX.out).1).trans HX.out
       have hN5 : NumsAt w5 g r1 := HN.out.block (hb5.block _ HN.out.lt)
       have z2 : w5.cell? ⟨w.heap.size, 2, none⟩ = some (.slice (some ⟨g, 0, none⟩) len cap) := cCc hX5 2
       have z3 := HYC.out w5 hN5
       have z4 := hN5.frozen x.1
       refine hK _ _ ?_
       clear hK K hX5
       refine wpAnyIn_take (i := 13) (v := ?_) rfl rfl (by kernel_rfl) (by kernel_rfl) (by kernel_rfl) (fun _ _ _ h => h) ⟨Or.inl ⟨by rfl, ?_⟩, fun _ => rfl⟩ ?_
       rotate_left
       ·intro w; go_simp; first | done | with_reducible rfl | rw [if_neg (by omega)]
       refine wpAnyIn_ready (rs := [14]) (by kernel_rfl) (by simp) ?_
       refine AllReadyIn.cons rfl (fun K hK => ?_) ?_
       ·go_simp
        refine hK _ _ ?_
        clear hK K
        refine wpAnyIn_done (by kernel_rfl) ?_ _
        exact fin { tmps := #[], defers := [] } w5 hb5 hN5
       exact AllReadyIn.nil
      exact AllReadyIn.nil
     exact AllReadyIn.nil
    refine AllReadyIn.cons rfl (fun K hK => ?_) ?_
    ·go_simp
     refine hK _ _ ?_
     clear hK K
     refine wpAnyIn_ready (rs := [2, 12]) (by kernel_rfl) (by simp) ?_
     refine AllReadyIn.cons rfl (fun K hK => ?_) ?_
     ·go_simp
      refine hK _ _ ?_
      clear hK K
      refine wpAnyIn_ready (rs := [12]) (by kernel_rfl) (by simp) ?_
      refine AllReadyIn.cons rfl (fun K hK => ?_) ?_
      ·go_simp
       refine ⟨trivial, (callsIn_wide.2 HF.out).mono ?_⟩
       rintro e w5 ⟨rfl, hb5⟩
       have hX5 := (hb5.block _ (Array.getElem?_eq_some_iff.1 HX.out).1).trans HX.out
       have hN5 : NumsAt w5 g r1 := HN.out.block (hb5.block _ HN.out.lt)
       have z2 : w5.cell? ⟨w.heap.size, 2, none⟩ = some (.slice (some ⟨g, 0, none⟩) len cap) := cCc hX5 2
       have z3 := HYC.out w5 hN5
       have z4 := hN5.frozen x.1
       refine hK _ _ ?_
       clear hK K hX5
       refine wpAnyIn_take (i := 13) (v := ?_) rfl rfl (by kernel_rfl) (by kernel_rfl) (by kernel_rfl) (fun _ _ _ h => h) ⟨Or.inl ⟨by rfl, ?_⟩, fun _ => rfl⟩ ?_
       rotate_left
       ·intro w; go_simp; first | done | with_reducible rfl | rw [if_neg (by omega)]
       refine wpAnyIn_ready (rs := [14]) (by kernel_rfl) (by simp) ?_
       refine AllReadyIn.cons rfl (fun K hK => ?_) ?_
       ·go_simp
        refine hK _ _ ?_
        clear hK K
        refine wpAnyIn_done (by kernel_rfl) ?_ _
        exact fin { tmps := #[], defers := [] } w5 hb5 hN5
       exact AllReadyIn.nil
      exact AllReadyIn.nil
     refine AllReadyIn.cons rfl (fun K hK => ?_) ?_
     ·go_simp
      refine ⟨trivial, (callsIn_wide.2 HF.out).mono ?_⟩
      rintro e w5 ⟨rfl, hb5⟩
      have hX5 := (hb5.block _ (Array.getElem?_eq_some_iff.1 HX.out).1).trans HX.out
      have hN5 : NumsAt w5 g r1 := HN.out.block (hb5.block _ HN.out.lt)
      have z2 : w5.cell? ⟨w.heap.size, 2, none⟩ = some (.slice (some ⟨g, 0, none⟩) len cap) := cCc hX5 2
      have z3 := HYC.out w5 hN5
      have z4 := hN5.frozen x.1
      refine hK _ _ ?_
      clear hK K hX5
      refine wpAnyIn_ready (rs := [2]) (by kernel_rfl) (by simp) ?_
      refine AllReadyIn.cons rfl (fun K hK => ?_) ?_
      ·go_simp
       refine hK _ _ ?_
       clear hK K
       refine wpAnyIn_take (i := 13) (v := ?_) rfl rfl (by kernel_rfl) (by kernel_rfl) (by kernel_rfl) (fun _ _ _ h => h) ⟨Or.inl ⟨by rfl, ?_⟩, fun _ => rfl⟩ ?_
       rotate_left
       ·intro w; go_simp; first | done | with_reducible rfl | rw [if_neg (by omega)]
       refine wpAnyIn_ready (rs := [14]) (by kernel_rfl) (by simp) ?_
       refine AllReadyIn.cons rfl (fun K hK => ?_) ?_
       ·go_simp
        refine hK _ _ ?_
        clear hK K
        refine wpAnyIn_done (by kernel_rfl) ?_ _
        exact fin { tmps := #[], defers := [] } w5 hb5 hN5
       exact AllReadyIn.nil
      exact AllReadyIn.nil
     exact AllReadyIn.nil
    exact AllReadyIn.nil
   exact AllReadyIn.nil
  exact AllReadyIn.nil
 case fin =>
  rintro D W hD ⟨hN, hX, hT, hG⟩ hK
  have hne : some g ≠ some D := fun e => by cases e; omega
  refine marks_ret1 (v := .tuple #[]) hK (results_none rfl _ _ _) ⟨rfl, ?_, ?_⟩
  ·exact hN.block ((grownBy_putObj' _ D _).block _ hN.lt hne)
  ·exact hG.andThen (grownBy_putObj' _ D _) (fun j e => by cases e; exact .inl (by omega))
end
end Go.Proofs.YtcbbenncdainfaaGreatDoor
namespace Go.Proofs.YtcbbenncdainfaaGreatDoor
open Go Go.RowKit Go.Shelf
set_option maxRecDepth 100000 in
set_option maxHeartbeats 2000000 in
theorem cMerge_any (c : Nat) (l m : List Int) (a : Option Addr) (len cap : Nat) (a2 : Option Addr) (len2 cap2 : Nat) (w : World) (hs : isShapeB 2 c = true) (h2 : c ≤ 32) (hL : SlE encU 1 w.heap.size w a len l) (hl : l.length = 2 * c) (hlu : U64s l) (hn : a = none → len = 0) (hM : SlE encU 1 w.heap.size w a2 len2 m) (hm : m.length = 2 * c) (hmu : U64s m) :
  Calls Tryz.prog 178 #[.agg #[.int .i64 2, .int .i64 c, .slice a len cap], .agg #[.int .i64 2, .int .i64 c, .slice a2 len2 cap2]] w fun e w' => ∃ g, e = .returned (.tuple #[.agg #[.int .i64 2, .int .i64 c, .slice (some ⟨g, 0, none⟩) (2 * c) (2 * c)], .int .i64 0]) ∧ NumsAt w' g (cmMrg l m) ∧ w.heap.size ≤ g ∧ Below w.heap.size w w' := by
 have hB : Hid (∀ w1, Below w.heap.size w w1 → Calls Tryz.prog 179 #[.agg #[.int .i64 2, .int .i64 c, .slice a len cap]] w1 fun e w' => ∃ g, e = .returned (.tuple #[.agg #[.int .i64 2, .int .i64 c, .slice (some ⟨g, 0, none⟩) (2 * c) (2 * c)], .nilIface]) ∧ NumsAt w' g l ∧ w1.heap.size ≤ g ∧ Below w1.heap.size w1 w') := fun w1 hb => cbegin_any c l a len cap w1 hs h2 ((hL.below hb).mono hb.size) hl hn
 have hR : Hid (∀ w1, Below w.heap.size w w1 → Calls Tryz.prog 97 #[.agg #[.int .i64 2, .int .i64 c, .slice a2 len2 cap2]] w1 fun e w' => e = .returned (.bool true) ∧ Below w1.heap.size w1 w') := fun w1 hb => (cms_Right_any 2 c m a2 len2 cap2 w1 ((hM.below hb).mono hb.size).1).mono fun e w' h => ⟨by rw [h.1]; simp [cmRight, hs, hm], h.2⟩
 have HCC : Hid (c ≤ 32 ∧ l.length = 2 * c ∧ U64s l ∧ m.length = 2 * c ∧ U64s m) := ⟨h2, hl, hlu, hm, hmu⟩
 have HM := Lib.hid hM
 have HE := Lib.hid (chFold_mrg (2 * c) l m hl)
 clear hL hl hlu hs hn hM hm hmu
 obtain ⟨W0, hW0, hXp, hXy, hXr, hB0, hs0⟩ := boxes3 w #[.int .i64 2, .int .i64 c, .slice a len cap] 28 #[.int .i64 2, .int .i64 c, .slice a2 len2 cap2] 28 #[.int .i64 0, .int .i64 0, .slice none 0 0] 28
 have HXP := Lib.hid hXp
 have HXY := Lib.hid hXy
 have HXR := Lib.hid hXr
 obtain ⟨x0, x1, x2⟩ := cl3 hXp
 clear hXp hXy hXr
 go_enter Tryz.func178, Tryz.ntmps178
 go_wp2_with fail
 refine (hB.out _ hB0).mono ?_
 rintro e w1 ⟨g, rfl, hr1, hg1, hb1⟩
 obtain ⟨W2, hW2, hX2, hB2, hs2⟩ := boxes1 w1 #[.int .i64 2, .int .i64 c, .slice (some ⟨g, 0, none⟩) (2 * c) (2 * c)] 135
 have hgl := hr1.lt
 have hb1s := hb1.size
 have hb12 : Below W0.heap.size W0 W2 := hb1.trans (hB2.mono hb1s)
 have hY2 := known hb12 (Nat.le_refl _) HXY.out
 have hRt := Lib.hid (hR.out W2 (hB0.trans (hb12.mono hB0.size)))
 obtain ⟨y0, y1, y2⟩ := cl3 hY2
 have hr2 := hr1.block (hB2.block _ hgl)
 clear hY2
 go_wp2_with fail
 refine hRt.out.mono ?_
 rintro e w3 ⟨rfl, hb3⟩
 have hb13 : Below W0.heap.size W0 w3 := hb12.trans (hb3.mono hb12.size)
 have hP3 := known hb13 (Nat.le_refl _) HXP.out
 have hY3 := known hb13 (Nat.le_refl _) HXY.out
 have hR3 := known hb13 (Nat.le_refl _) HXR.out
 have hX3 := known hb3 (Nat.le_refl _) hX2
 have hr3 : NumsAt w3 g l := hr2.block (hb3.block _ (by omega))
 have hb3s := hb3.size
 obtain ⟨p0, p1, p2⟩ := cl3 hP3
 obtain ⟨q0, q1, q2⟩ := cl3 hY3
 obtain ⟨W5, hW5, hY5, hB5, hs5⟩ := boxes1 w3.drew #[.int .i64 2, .int .i64 c, .slice (some ⟨g, 0, none⟩) (2 * c) (2 * c)] 135
 have hzd : w3.drew.heap.size = w3.heap.size := rfl
 rw [hzd] at hY5 hB5 hs5
 have hB35 : Below w3.heap.size w3 W5 := (Below.refl _ w3).drew.trans hB5
 have hr5 : NumsAt W5 g l := hr3.block (hB35.block _ (by omega))
 have hX5 : W5.heap[w1.heap.size]? = some (.cells #[.int .i64 2, .int .i64 c, .slice (some ⟨g, 0, none⟩) (2 * c) (2 * c)] 135 (0, 0)) := known hB35 (Nat.le_refl _) hX3
 have hQ5 : W5.heap[w.heap.size + 1]? = some (.cells #[.int .i64 2, .int .i64 c, .slice a2 len2 cap2] 28 (0, 0)) := known hB35 (Nat.le_refl _) hY3
 have hR5 : W5.heap[w.heap.size + 2]? = some (.cells #[.int .i64 0, .int .i64 0, .slice none 0 0] 28 (0, 0)) := known hB35 (Nat.le_refl _) hR3
 have hB05 : Below w.heap.size w W5 := hB0.trans ((hb13.trans (hB35.mono hb13.size)).mono hB0.size)
 have hCH := change_mrg (mrgF m) w3.heap.size (w.heap.size + 1) g (2 * c) (2 * c) (2 * c) (2 * c) 2 c 2 c (some ⟨g, 0, none⟩) l W5 (by have := HCC.out.1; omega) hY5 hr5 HCC.out.2.1 HCC.out.2.2.1 (by intro k hk; simp at hk; omega)
  (fun W p x hG hx => by
   have hBW : Below w.heap.size W5 W := (Below.refl _ W5).grown hG hB05.size (fun k e => by cases e; omega)
   have hbb := hB05.trans hBW
   exact mrgF_any (w.heap.size + 1) p.1 x c m a2 len2 cap2 W ((hG.block _ (Array.getElem?_eq_some_iff.1 hQ5).1 (fun e => by cases e; omega)).trans hQ5) ((HM.out.below hbb).mono hbb.size) (by have := p.2; have := HM.out.1; have := HCC.out.2.2.2.1; omega) hx HCC.out.2.2.2.2)
  (fun p x hx => satI_u64 x _ hx (getD_u64 m HCC.out.2.2.2.2 p)) (fun p => p.2)
 have HW5 := Lib.hid hW5
 have HX5 := Lib.hid hX5
 have HR5 := Lib.hid hR5
 have HB05 := Lib.hid hB05
 have hXd : w3.drew.heap[w1.heap.size]? = some (.cells #[.int .i64 2, .int .i64 c, .slice (some ⟨g, 0, none⟩) (2 * c) (2 * c)] 135 (0, 0)) := hX3
 obtain ⟨d0, d1, d2⟩ := cl3 hXd
 obtain ⟨b0, b1, b2⟩ := cl3 hX5
 have hgw : w.heap.size + 2 < g := by omega
 clear hW5 hX2 hX3 hXd hX5 hR5 hQ5 hY5 hB2 hB5 hB35 hB05 hr1 hr2 hr3 hr5 hb1 hb12 hb13 hb3 hP3 hY3 hR3
 have fin : ∀ w6, NumsAt w6 g (cmMrg l m) → W5.grownBy w6 (some g) → ∃ V, ((w6.setCell ⟨w.heap.size + 1 + 1, 0, none⟩ (.int .i64 2)).setCell ⟨w.heap.size + 1 + 1, 1, none⟩ (.int .i64 c)).setCell ⟨w.heap.size + 1 + 1, 2, none⟩ (.slice (some ⟨g, 0, none⟩) (2 * c) (2 * c)) = V ∧ V.heap[w.heap.size + 1 + 1]? = some (.cells #[.int .i64 2, .int .i64 c, .slice (some ⟨g, 0, none⟩) (2 * c) (2 * c)] 28 (0, 0)) ∧ NumsAt V g (cmMrg l m) ∧ Below w.heap.size w V := fun w6 hN6 hG6 => by
  have hR6 := (hG6.block _ (Array.getElem?_eq_some_iff.1 HR5.out).1 (fun e => by cases e; omega)).trans HR5.out
  have hne : w.heap.size + 1 + 1 ≠ g := by omega
  refine ⟨_, rfl, set_cells3 hR6, ((hN6.block (heap_set_other (p := ⟨w.heap.size + 1 + 1, 0, none⟩) hne _)).block (heap_set_other (p := ⟨w.heap.size + 1 + 1, 1, none⟩) hne _)).block (heap_set_other (p := ⟨w.heap.size + 1 + 1, 2, none⟩) hne _), ?_⟩
  exact (((HB05.out.grown hG6 HB05.out.size (fun k e => by cases e; omega)).setCell (p := ⟨w.heap.size + 1 + 1, 0, none⟩) (by show _ ≤ _ + 1 + 1; omega) _).setCell (p := ⟨w.heap.size + 1 + 1, 1, none⟩) (by show _ ≤ _ + 1 + 1; omega) _).setCell (p := ⟨w.heap.size + 1 + 1, 2, none⟩) (by show _ ≤ _ + 1 + 1; omega) _
 go_wp2_with fail
 refine wp_region_any (by kernel_rfl) ?_
 change wpAny _ _ _ _ _ _ _ (World.drew _)
 refine tk 3 (v := ?_) rfl ?_ ?_
 rotate_left
 ·intro w; go_simp; with_reducible rfl
 refine wpAny_ready (rs := [0, 1]) (by kernel_rfl) (by simp) ?_
 refine AllReady.cons rfl (fun K hK => ?_) ?_
 ·go_simp
  refine hK _ _ ?_
  clear hK K
  refine wpAny_ready (rs := [1]) (by kernel_rfl) (by simp) ?_
  refine AllReady.cons rfl (fun K hK => ?_) ?_
  ·go_simp
   refine hK _ _ ?_
   clear hK K
   refine wpAny_ready (rs := [2]) (by kernel_rfl) (by simp) ?_
   refine AllReady.cons rfl (fun K hK => ?_) ?_
   ·go_simp
    refine (all_any 2 c (.slice (some ⟨g, 0, none⟩) (2 * c) (2 * c)) _).mono ?_
    rintro e w5 ⟨rfl, rfl⟩
    rw [HW5.out]
    refine hK _ _ ?_
    clear hK K
    refine wpAny_ready (rs := [4]) (by kernel_rfl) (by simp) ?_
    refine AllReady.cons rfl (fun K hK => ?_) ?_
    ·go_simp
     refine hCH.mono ?_
     rintro e w6 ⟨rfl, hN6, hG6⟩
     rw [HE.out] at hN6
     refine hK _ _ ?_
     clear hK K
     refine wpAny_done (by kernel_rfl) ?_ _
     have hX6 := (hG6.block _ (Array.getElem?_eq_some_iff.1 HX5.out).1 (fun e => by cases e; omega)).trans HX5.out
     have hR6 : w6.heap[w.heap.size + 1 + 1]? = _ := (hG6.block _ (Array.getElem?_eq_some_iff.1 HR5.out).1 (fun e => by cases e; omega)).trans HR5.out
     obtain ⟨z0, z1, z2⟩ := cl3 hX6
     obtain ⟨v0, v1, v2⟩ := cl3 hR6
     obtain ⟨f0, f1, f2⟩ := cz3 hR6
     obtain ⟨V, hV, hXV, hNV, hBV⟩ := fin w6 hN6 hG6
     clear fin hX6 hR6 hN6 hG6 hCH
     go_wp2_with fail
     have k0 := cCc hXV 0
     have k1 := cCc hXV 1
     have k2 := cCc hXV 2
     simp at k0 k1 k2
     exact bodyPost_ret (v := .tuple #[.agg #[.int .i64 2, .int .i64 c, .slice (some ⟨g, 0, none⟩) (2 * c) (2 * c)], .int .i64 0]) (by simp [results, Tryz.f178, go_sem, k0, k1, k2]) rfl ⟨g, rfl, hNV, by omega, hBV⟩
    exact AllReady.nil
   exact AllReady.nil
  exact AllReady.nil
 refine AllReady.cons rfl (fun K hK => ?_) ?_
 ·go_simp
  refine hK _ _ ?_
  clear hK K
  refine wpAny_ready (rs := [0, 2]) (by kernel_rfl) (by simp) ?_
  refine AllReady.cons rfl (fun K hK => ?_) ?_
  ·go_simp
   refine hK _ _ ?_
   clear hK K
   refine wpAny_ready (rs := [2]) (by kernel_rfl) (by simp) ?_
   refine AllReady.cons rfl (fun K hK => ?_) ?_
   ·go_simp
    refine (all_any 2 c (.slice (some ⟨g, 0, none⟩) (2 * c) (2 * c)) _).mono ?_
    rintro e w5 ⟨rfl, rfl⟩
    rw [HW5.out]
    refine hK _ _ ?_
    clear hK K
    refine wpAny_ready (rs := [4]) (by kernel_rfl) (by simp) ?_
    refine AllReady.cons rfl (fun K hK => ?_) ?_
    ·go_simp
     refine hCH.mono ?_
     rintro e w6 ⟨rfl, hN6, hG6⟩
     rw [HE.out] at hN6
     refine hK _ _ ?_
     clear hK K
     refine wpAny_done (by kernel_rfl) ?_ _
     have hX6 := (hG6.block _ (Array.getElem?_eq_some_iff.1 HX5.out).1 (fun e => by cases e; omega)).trans HX5.out
     have hR6 : w6.heap[w.heap.size + 1 + 1]? = _ := (hG6.block _ (Array.getElem?_eq_some_iff.1 HR5.out).1 (fun e => by cases e; omega)).trans HR5.out
     obtain ⟨z0, z1, z2⟩ := cl3 hX6
     obtain ⟨v0, v1, v2⟩ := cl3 hR6
     obtain ⟨f0, f1, f2⟩ := cz3 hR6
     obtain ⟨V, hV, hXV, hNV, hBV⟩ := fin w6 hN6 hG6
     clear fin hX6 hR6 hN6 hG6 hCH
     go_wp2_with fail
     have k0 := cCc hXV 0
     have k1 := cCc hXV 1
     have k2 := cCc hXV 2
     simp at k0 k1 k2
     exact bodyPost_ret (v := .tuple #[.agg #[.int .i64 2, .int .i64 c, .slice (some ⟨g, 0, none⟩) (2 * c) (2 * c)], .int .i64 0]) (by simp [results, Tryz.f178, go_sem, k0, k1, k2]) rfl ⟨g, rfl, hNV, by omega, hBV⟩
    exact AllReady.nil
   exact AllReady.nil
  refine AllReady.cons rfl (fun K hK => ?_) ?_
  ·go_simp
   refine (all_any 2 c (.slice (some ⟨g, 0, none⟩) (2 * c) (2 * c)) _).mono ?_
   rintro e w5 ⟨rfl, rfl⟩
   rw [HW5.out]
   refine hK _ _ ?_
   clear hK K
   refine wpAny_ready (rs := [0]) (by kernel_rfl) (by simp) ?_
   refine AllReady.cons rfl (fun K hK => ?_) ?_
   ·go_simp
    refine hK _ _ ?_
    clear hK K
    refine wpAny_ready (rs := [4]) (by kernel_rfl) (by simp) ?_
    refine AllReady.cons rfl (fun K hK => ?_) ?_
    ·go_simp
     refine hCH.mono ?_
     rintro e w6 ⟨rfl, hN6, hG6⟩
     rw [HE.out] at hN6
     refine hK _ _ ?_
     clear hK K
     refine wpAny_done (by kernel_rfl) ?_ _
     have hX6 := (hG6.block _ (Array.getElem?_eq_some_iff.1 HX5.out).1 (fun e => by cases e; omega)).trans HX5.out
     have hR6 : w6.heap[w.heap.size + 1 + 1]? = _ := (hG6.block _ (Array.getElem?_eq_some_iff.1 HR5.out).1 (fun e => by cases e; omega)).trans HR5.out
     obtain ⟨z0, z1, z2⟩ := cl3 hX6
     obtain ⟨v0, v1, v2⟩ := cl3 hR6
     obtain ⟨f0, f1, f2⟩ := cz3 hR6
     obtain ⟨V, hV, hXV, hNV, hBV⟩ := fin w6 hN6 hG6
     clear fin hX6 hR6 hN6 hG6 hCH
     go_wp2_with fail
     have k0 := cCc hXV 0
     have k1 := cCc hXV 1
     have k2 := cCc hXV 2
     simp at k0 k1 k2
     exact bodyPost_ret (v := .tuple #[.agg #[.int .i64 2, .int .i64 c, .slice (some ⟨g, 0, none⟩) (2 * c) (2 * c)], .int .i64 0]) (by simp [results, Tryz.f178, go_sem, k0, k1, k2]) rfl ⟨g, rfl, hNV, by omega, hBV⟩
    exact AllReady.nil
   exact AllReady.nil
  exact AllReady.nil
 exact AllReady.nil
end Go.Proofs.YtcbbenncdainfaaGreatDoor

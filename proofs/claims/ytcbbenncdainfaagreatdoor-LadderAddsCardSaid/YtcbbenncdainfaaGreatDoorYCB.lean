/- Package cms: change, by told and Add's function. -/
import Derived.Test.YtcbbenncdainfaaGreatDoorYA7
namespace Go.Proofs.YtcbbenncdainfaaGreatDoor
open Go Go.RowKit Go.Shelf
attribute [local go_sem] Oper.semAt_some
def NumsAt (W : World) (g : Nat) (l : List Int) : Prop := W.heap[g]? = some (.cells (l.map (Value.int .u64)).toArray 43 (0, 0))
theorem NumsAt.lt {W : World} {g : Nat} {l : List Int} (h : NumsAt W g l) : g < W.heap.size := (Array.getElem?_eq_some_iff.1 h).1
theorem NumsAt.cell {W : World} {g : Nat} {l : List Int} (h : NumsAt W g l) {j : Nat} (hj : j < l.length) : W.cell? ⟨g, j, none⟩ = some (.int .u64 (l.getD j 0)) := by
 rw [cCc h j]
 simp [List.getD_eq_getElem?_getD, hj]
theorem NumsAt.frozen {W : World} {g : Nat} {l : List Int} (h : NumsAt W g l) (j : Nat) : W.frozen? ⟨g, j, none⟩ = false := cFz h j
theorem NumsAt.block {W W' : World} {g : Nat} {l : List Int} (h : NumsAt W g l) (hb : W'.heap[g]? = W.heap[g]?) : NumsAt W' g l := hb.trans h
theorem NumsAt.set {W : World} {g : Nat} {l : List Int} (h : NumsAt W g l) (p : Nat) (x : Int) : NumsAt (W.setCell ⟨g, p, none⟩ (.int .u64 x)) g (l.set p x) := by
 have := hSk (i := p) h (.int .u64 x)
 unfold NumsAt
 rw [this]
 congr 2
 simp [List.map_set]
theorem below_gb {W W' : World} (h : Below W.heap.size W W') (row : Option Nat) : W.grownBy W' row := ⟨h.os, h.tape, h.output, h.size, fun k hk _ => h.block k hk⟩
def chFold {α : Type} (pl : α → Nat) (F : Nat → Int → Int) (l : List Int) (ps : List α) : List Int := ps.foldl (fun l p => l.set (pl p) (F (pl p) (l.getD (pl p) 0))) l
theorem chFold_len {α : Type} (pl : α → Nat) (F : Nat → Int → Int) : ∀ (ps : List α) (l : List Int), (chFold pl F l ps).length = l.length
 | [], _ => rfl
 | p :: ps, l => by
  show (chFold pl F (l.set (pl p) _) ps).length = _
  rw [chFold_len pl F ps, List.length_set]
theorem chFold_u64 {α : Type} (pl : α → Nat) (F : Nat → Int → Int) (hF : ∀ p x, U64 x → U64 (F p x)) : ∀ (ps : List α) (l : List Int), U64s l → U64s (chFold pl F l ps)
 | [], _, h => h
 | p :: ps, l, h => by
  refine chFold_u64 pl F hF ps _ (fun x hx => ?_)
  rcases List.mem_or_eq_of_mem_set hx with hx | rfl
  ·exact h x hx
  ·exact hF _ _ (getD_u64 l h _)
def CI {α : Type} (pl : α → Nat) (F : Nat → Int → Int) (l : List Int) (g B : Nat) (wv tv : Array Value) (w : World) (pre : List α) (W : World) : Prop :=
 NumsAt W g (chFold pl F l pre) ∧ W.heap[B]? = some (.cells wv 135 (0, 0)) ∧ W.heap[B + 1]? = some (.cells tv 236 (0, 0)) ∧ w.grownBy W (some g)
theorem ci_own {α : Type} (pl : α → Nat) (F : Nat → Int → Int) (l : List Int) (g B : Nat) (wv tv : Array Value) (w : World) (C : Nat) (hC : w.heap.size ≤ C) : OwnFrom C (CI pl F l g B wv tv w) := fun pre X Y row hs hg hr => by
 obtain ⟨h1, h2, h3, h4⟩ := hs
 have hne : ∀ (k : Nat) (o : Obj), X.heap[k]? = some o → o.isCells = true → Y.heap[k]? = some o := fun k o hk hc => by
  refine (hg.block k (Array.getElem?_eq_some_iff.1 hk).1 (fun e => ?_)).trans hk
  obtain ⟨-, o', ho', hc'⟩ := hr k e.symm
  rw [hk] at ho'
  cases ho'
  rw [hc] at hc'
  cases hc'
 exact ⟨hne _ _ h1 rfl, hne _ _ h2 rfl, hne _ _ h3 rfl, h4.andThen hg (fun j e => .inl (Nat.le_trans hC (hr j e).1))⟩
theorem addF_any (nb : Nat) (p : Nat) (x n : Int) (w : World) (hn : w.cell? ⟨nb, 0, none⟩ = some (.int .u64 n)) (hx : U64 x) (hu : U64 n) :
  Calls Tryz.prog 182 #[.int .i64 p, .int .u64 x, .pointer (some ⟨nb, 0, none⟩)] w fun e w' => e = .returned (.int .u64 (satI x n)) ∧ Below w.heap.size w w' := by
 obtain ⟨W0, hW0, hX0, hB0, hs0⟩ := boxes1 w #[.int .u64 x, .int .u64 n] 43
 have hT := ctogether_any w.heap.size x n W0 (cCc hX0 0) (cCc hX0 1) hx hu
 clear hX0
 go_enter Tryz.func182, Tryz.ntmps182
 go_wp2_with (go_at_call 183; refine hT.mono ?_; rintro e w' ⟨rfl, rfl⟩)
 go_ret
 exact ⟨rfl, hB0⟩
set_option maxRecDepth 100000 in
set_option maxHeartbeats 8000000 in
theorem change_add (F : Nat → Int → Int) (c h nb wb hbx g len cap : Nat) (r : Int) (v : Value) (l : List Int) (w : World)
  (hc : 0 < c) (hc2 : c ≤ 32) (hh : h < 2 ^ 64) (hb : w.heap[wb]? = some (.cells #[.int .i64 2, .int .i64 c, v] 135 (0, 0))) (hb2 : w.heap[hbx]? = some (.cells #[.int .u64 h] 43 (0, 0))) (hg : NumsAt w g l) (hl : l.length = len) (hlu : U64s l) (hBs : ∀ b ∈ [wb, hbx], b < w.heap.size ∧ b ≠ g)
  (hF : ∀ W (p : { n : Nat // n < 2 * c }) x, w.grownBy W (some g) → U64 x → Calls Tryz.prog 182 #[.int .i64 (p.1 : Nat), .int .u64 x, .pointer (some ⟨nb, 0, none⟩)] W fun e w' => e = .returned (.int .u64 (F p.1 x)) ∧ Below W.heap.size W w') (hFu : ∀ p x, U64 x → U64 (F p x)) (hpl : ∀ p : { n : Nat // n < 2 * c }, p.1 < len) :
  Calls Tryz.prog 180 #[.agg #[.int .i64 r, .int .i64 c, .slice (some ⟨g, 0, none⟩) len cap], .func (.func 187) #[] #[.pointer (some ⟨wb, 0, none⟩), .pointer (some ⟨hbx, 0, none⟩)], .func (.func 182) #[] #[.pointer (some ⟨nb, 0, none⟩)]] w fun e w' => e = .returned (.tuple #[]) ∧ NumsAt w' g (chFold (fun x : { n : Nat // n < 2 * c } => x.1) F l (toldPl c h hc)) ∧ w.grownBy w' (some g) := by
 obtain ⟨W1, hW1, hX1, hT1, hB1, hs1⟩ := boxes2 w #[.int .i64 r, .int .i64 c, .slice (some ⟨g, 0, none⟩) len cap] 135 #[.func (.func 182) #[] #[.pointer (some ⟨nb, 0, none⟩)]] 236
 have hgl := hg.lt
 have hgw : w.grownBy W1 (some g) := below_gb hB1 _
 have hseq := told_seq wb hbx c h v hc hc2 hh W1 ((hB1.block _ (hBs wb (by simp)).1).trans hb) ((hB1.block _ (hBs hbx (by simp)).1).trans hb2)
 have hI0 : CI (fun x : { n : Nat // n < 2 * c } => x.1) F l g w.heap.size #[.int .i64 r, .int .i64 c, .slice (some ⟨g, 0, none⟩) len cap] #[.func (.func 182) #[] #[.pointer (some ⟨nb, 0, none⟩)]] w [] W1 := ⟨hg.block (hB1.block _ hgl), hX1, hT1, hgw⟩
 have HFF := Lib.hid hF
 have HL := Lib.hid hl
 have HLU := Lib.hid hlu
 have HFU := Lib.hid hFu
 have HPL := Lib.hid hpl
 clear hF hl hlu hFu hpl hX1 hT1 hg hb hb2
 refine calls_marks Tryz.func180 rfl ?_
 simp only [Tryz.ntmps180, List.size_toArray, List.length_cons, List.length_nil, Nat.reduceAdd, Nat.reduceSub, Array.replicate_succ, Array.replicate_zero, List.push_toArray, List.append_toArray, List.nil_append, List.cons_append]
 go_wp2_with fail
 refine wp_range_all1 [wb, hbx] 6 (fun x : { n : Nat // n < 2 * c } => .int .i64 (x.1 : Nat)) (gf := 187) (lb := #[.pointer (some ⟨wb, 0, none⟩), .pointer (some ⟨hbx, 0, none⟩)]) rfl (enters_of Tryz.func187 (by kernel_rfl) rfl)
  hseq (fun k hk => Nat.lt_of_lt_of_le (hBs k hk).1 (by omega)) (Below.refl _ _) (fun _ => rfl) (CI (fun x : { n : Nat // n < 2 * c } => x.1) F l g w.heap.size #[.int .i64 r, .int .i64 c, .slice (some ⟨g, 0, none⟩) len cap] #[.func (.func 182) #[] #[.pointer (some ⟨nb, 0, none⟩)]] w) (ci_own _ F l g w.heap.size _ _ w _ (by omega)) hI0 ?assign ?body ?fin
 case assign =>
  rintro l pre x W K hI hK
  simp only [List.zip_toArray, List.zip_cons_cons, List.zip_nil_right, List.size_toArray, List.foldl_toArray', List.foldl_cons, List.foldl_nil, List.setIfInBounds_toArray, List.set_cons_succ, List.set_cons_zero] at hK ⊢
  gi_wp2
  exact hI
 case body =>
  rintro lo pre x W ⟨hN, hX, hT, hG⟩ hlt
  simp only [List.zip_toArray, List.zip_cons_cons, List.zip_nil_right, List.size_toArray, List.foldl_toArray', List.foldl_cons, List.foldl_nil, List.setIfInBounds_toArray, List.set_cons_succ, List.set_cons_zero]
  have hp := HPL.out x
  have hlen1 := chFold_len (fun x : { n : Nat // n < 2 * c } => x.1) F pre l
  rw [HL.out] at hlen1
  have HS : Hid (chFold (fun x : { n : Nat // n < 2 * c } => x.1) F l (pre ++ [x]) = (chFold (fun x : { n : Nat // n < 2 * c } => x.1) F l pre).set x.1 (F x.1 ((chFold (fun x : { n : Nat // n < 2 * c } => x.1) F l pre).getD x.1 0))) := by
   unfold Hid chFold
   rw [List.foldl_append]
   rfl
  have hU1 := chFold_u64 (fun x : { n : Nat // n < 2 * c } => x.1) F HFU.out pre l HLU.out
  generalize chFold (fun x : { n : Nat // n < 2 * c } => x.1) F l pre = r1 at hN hlen1 HS hU1
  have hN1 : NumsAt W.drew g r1 := hN.block rfl
  have hX2 : W.drew.heap[w.heap.size]? = some (.cells #[.int .i64 r, .int .i64 c, .slice (some ⟨g, 0, none⟩) len cap] 135 (0, 0)) := hX
  have hT2 : W.drew.heap[w.heap.size + 1]? = some (.cells #[.func (.func 182) #[] #[.pointer (some ⟨nb, 0, none⟩)]] 236 (0, 0)) := hT
  have HP : Hid (x.1 < r1.length) := by show x.1 < r1.length; omega
  have hxu := getD_u64 r1 hU1 x.1
  have y2 : W.drew.cell? ⟨w.heap.size, 2, none⟩ = some (.slice (some ⟨g, 0, none⟩) len cap) := cCc hX2 2
  have y4 : W.drew.cell? ⟨w.heap.size + 1, 0, none⟩ = some (.func (.func 182) #[] #[.pointer (some ⟨nb, 0, none⟩)]) := cCc hT2 0
  have y11 := hN1.cell HP.out
  have HYC : Hid (∀ w5, NumsAt w5 g r1 → w5.cell? ⟨g, x.1, none⟩ = some (.int .u64 (r1.getD x.1 0))) := fun w5 h => h.cell HP.out
  generalize r1.getD x.1 0 = y at y11 hxu HS HYC
  have HF := Lib.hid (HFF.out W.drew x _ (gb_drew hG) hxu)
  have HN := Lib.hid hN1
  have HX := Lib.hid hX2
  have HG := Lib.hid hG
  have HXX := Lib.hid hX
  have HTT := Lib.hid hT
  have fin : ∀ (a : Act) w5, Below W.drew.heap.size W.drew w5 → NumsAt w5 g r1 → ownPostG W1.heap.size (KL [wb, hbx]) (CI (fun x : { n : Nat // n < 2 * c } => x.1) F l g w.heap.size #[.int .i64 r, .int .i64 c, .slice (some ⟨g, 0, none⟩) len cap] #[.func (.func 182) #[] #[.pointer (some ⟨nb, 0, none⟩)]] w) (fun _ _ _ => False) (pre ++ [x]) W   .normal a (w5.setCell ⟨g, x.1, none⟩ (.int .u64 (F x.1 y))) := fun _ w5 hb5 hN5 => by
   have hG5 : W.grownBy w5 (some g) := (gb_drew (World.grownBy.refl W (some g))).trans (below_gb hb5 _)
   have hG6 := hG5.trans (gb_set w5 g x.1 (.int .u64 (F x.1 y)))
   refine ⟨KeepsFrom.of_grownBy hG6 (fun j e => by cases e; omega), KL.grown hG6 (fun k hk e => by cases e; exact (hBs _ hk).2 rfl), ?_, (hG6.block _ (Array.getElem?_eq_some_iff.1 HXX.out).1 (fun e => by cases e; omega)).trans HXX.out, (hG6.block _ (Array.getElem?_eq_some_iff.1 HTT.out).1 (fun e => by cases e; omega)).trans HTT.out, HG.out.trans hG6⟩
   rw [HS.out]
   exact hN5.set _ _
  have hpi : ((x.1 : Nat) : Int) < len := by omega
  clear hG hX hT hN hN1 hX2 hT2 hU1 hxu HFF
  gi_wp2_with fail
  refine wpIn_region_round (F := Fence.wide) rfl (by kernel_rfl) (by kernel_rfl) ?_
  change wpAnyIn _ _ _ _ _ _ _ _ _ (World.drew _)
  refine wpAnyIn_take (i := 0) (v := ?_) rfl rfl (by kernel_rfl) (by kernel_rfl) (by kernel_rfl) (fun _ _ _ h => h) ⟨Or.inl ⟨by rfl, ?_⟩, fun _ => rfl⟩ ?_
  rotate_left
  ·intro w; go_simp; with_reducible rfl
  refine wpAnyIn_take (i := 1) (v := ?_) rfl rfl (by kernel_rfl) (by kernel_rfl) (by kernel_rfl) (fun _ _ _ h => h) ⟨Or.inl ⟨by rfl, ?_⟩, fun _ => rfl⟩ ?_
  rotate_left
  ·intro w; go_simp; with_reducible rfl
  refine wpAnyIn_take (i := 3) (v := ?_) rfl rfl (by kernel_rfl) (by kernel_rfl) (by kernel_rfl) (fun _ _ _ h => h) ⟨Or.inl ⟨by rfl, ?_⟩, fun _ => rfl⟩ ?_
  rotate_left
  ·intro w; go_simp; with_reducible rfl
  refine wpAnyIn_take (i := 5) (v := ?_) rfl rfl (by kernel_rfl) (by kernel_rfl) (by kernel_rfl) (fun _ _ _ h => h) ⟨Or.inl ⟨by rfl, ?_⟩, fun _ => rfl⟩ ?_
  rotate_left
  ·intro w; go_simp; with_reducible rfl
  refine wpAnyIn_take (i := 6) (v := ?_) rfl rfl (by kernel_rfl) (by kernel_rfl) (by kernel_rfl) (fun _ _ _ h => h) ⟨Or.inl ⟨by rfl, ?_⟩, fun _ => rfl⟩ ?_
  rotate_left
  ·intro w; go_simp; with_reducible rfl
  refine wpAnyIn_take (i := 7) (v := ?_) rfl rfl (by kernel_rfl) (by kernel_rfl) (by kernel_rfl) (fun _ _ _ h => h) ⟨Or.inl ⟨by rfl, ?_⟩, fun _ => rfl⟩ ?_
  rotate_left
  ·intro w; go_simp; with_reducible rfl
  refine wpAnyIn_take (i := 9) (v := ?_) rfl rfl (by kernel_rfl) (by kernel_rfl) (by kernel_rfl) (fun _ _ _ h => h) ⟨Or.inl ⟨by rfl, ?_⟩, fun _ => rfl⟩ ?_
  rotate_left
  ·intro w; go_simp; with_reducible rfl
  refine wpAnyIn_ready (rs := [2, 4, 8]) (by kernel_rfl) (by simp) ?_
  refine AllReadyIn.cons rfl (fun K hK => ?_) ?_
  ·go_simp
   refine hK _ _ ?_
   clear hK K
   refine wpAnyIn_ready (rs := [4, 8]) (by kernel_rfl) (by simp) ?_
   refine AllReadyIn.cons rfl (fun K hK => ?_) ?_
   ·go_simp
    refine hK _ _ ?_
    clear hK K
    refine wpAnyIn_ready (rs := [8]) (by kernel_rfl) (by simp) ?_
    refine AllReadyIn.cons rfl (fun K hK => ?_) ?_
    ·go_simp
     refine hK _ _ ?_
     clear hK K
     refine wpAnyIn_take (i := 10) (v := ?_) rfl rfl (by kernel_rfl) (by kernel_rfl) (by kernel_rfl) (fun _ _ _ h => h) ⟨Or.inl ⟨by rfl, ?_⟩, fun _ => rfl⟩ ?_
     rotate_left
     ·intro w; go_simp; first | done | with_reducible rfl | rw [if_neg (by omega)]
     refine wpAnyIn_ready (rs := [11]) (by kernel_rfl) (by simp) ?_
     refine AllReadyIn.cons rfl (fun K hK => ?_) ?_
     ·go_simp
      refine hK _ _ ?_
      clear hK K
      refine wpAnyIn_ready (rs := [12]) (by kernel_rfl) (by simp) ?_
      refine AllReadyIn.cons rfl (fun K hK => ?_) ?_
      ·go_simp
       refine ⟨trivial, (callsIn_wide.2 HF.out).mono ?_⟩
       rintro e w5 ⟨rfl, hb5⟩
       have hX5 := (hb5.block _ (Array.getElem?_eq_some_iff.1 HX.out).1).trans HX.out
       have hN5 : NumsAt w5 g r1 := HN.out.block (hb5.block _ HN.out.lt)
       have z2 : w5.cell? ⟨w.heap.size, 2, none⟩ = some (.slice (some ⟨g, 0, none⟩) len cap) := cCc hX5 2
       have z3 := HYC.out w5 hN5
       have z4 := hN5.frozen x.1
       refine hK _ _ ?_
       clear hK K hX5
       refine wpAnyIn_take (i := 13) (v := ?_) rfl rfl (by kernel_rfl) (by kernel_rfl) (by kernel_rfl) (fun _ _ _ h => h) ⟨Or.inl ⟨by rfl, ?_⟩, fun _ => rfl⟩ ?_
       rotate_left
       ·intro w; go_simp; first | done | with_reducible rfl | rw [if_neg (by omega)]
       refine wpAnyIn_ready (rs := [14]) (by kernel_rfl) (by simp) ?_
       refine AllReadyIn.cons rfl (fun K hK => ?_) ?_
       ·go_simp
        refine hK _ _ ?_
        clear hK K
        refine wpAnyIn_done (by kernel_rfl) ?_ _
        exact fin { tmps := #[], defers := [] } w5 hb5 hN5
       exact AllReadyIn.nil
      exact AllReadyIn.nil
     exact AllReadyIn.nil
    exact AllReadyIn.nil
   refine AllReadyIn.cons rfl (fun K hK => ?_) ?_
   ·go_simp
    refine hK _ _ ?_
    clear hK K
    refine wpAnyIn_take (i := 10) (v := ?_) rfl rfl (by kernel_rfl) (by kernel_rfl) (by kernel_rfl) (fun _ _ _ h => h) ⟨Or.inl ⟨by rfl, ?_⟩, fun _ => rfl⟩ ?_
    rotate_left
    ·intro w; go_simp; first | done | with_reducible rfl | rw [if_neg (by omega)]
    refine wpAnyIn_ready (rs := [4, 11]) (by kernel_rfl) (by simp) ?_
    refine AllReadyIn.cons rfl (fun K hK => ?_) ?_
    ·go_simp
     refine hK _ _ ?_
     clear hK K
     refine wpAnyIn_ready (rs := [11]) (by kernel_rfl) (by simp) ?_
     refine AllReadyIn.cons rfl (fun K hK => ?_) ?_
     ·go_simp
      refine hK _ _ ?_
      clear hK K
      refine wpAnyIn_ready (rs := [12]) (by kernel_rfl) (by simp) ?_
      refine AllReadyIn.cons rfl (fun K hK => ?_) ?_
      ·go_simp
       refine ⟨trivial, (callsIn_wide.2 HF.out).mono ?_⟩
       rintro e w5 ⟨rfl, hb5⟩
       have hX5 := (hb5.block _ (Array.getElem?_eq_some_iff.1 HX.out).1).trans HX.out
       have hN5 : NumsAt w5 g r1 := HN.out.block (hb5.block _ HN.out.lt)
       have z2 : w5.cell? ⟨w.heap.size, 2, none⟩ = some (.slice (some ⟨g, 0, none⟩) len cap) := cCc hX5 2
       have z3 := HYC.out w5 hN5
       have z4 := hN5.frozen x.1
       refine hK _ _ ?_
       clear hK K hX5
       refine wpAnyIn_take (i := 13) (v := ?_) rfl rfl (by kernel_rfl) (by kernel_rfl) (by kernel_rfl) (fun _ _ _ h => h) ⟨Or.inl ⟨by rfl, ?_⟩, fun _ => rfl⟩ ?_
       rotate_left
       ·intro w; go_simp; first | done | with_reducible rfl | rw [if_neg (by omega)]
       refine wpAnyIn_ready (rs := [14]) (by kernel_rfl) (by simp) ?_
       refine AllReadyIn.cons rfl (fun K hK => ?_) ?_
       ·go_simp
        refine hK _ _ ?_
        clear hK K
        refine wpAnyIn_done (by kernel_rfl) ?_ _
        exact fin { tmps := #[], defers := [] } w5 hb5 hN5
       exact AllReadyIn.nil
      exact AllReadyIn.nil
     exact AllReadyIn.nil
    refine AllReadyIn.cons rfl (fun K hK => ?_) ?_
    ·go_simp
     refine hK _ _ ?_
     clear hK K
     refine wpAnyIn_ready (rs := [4]) (by kernel_rfl) (by simp) ?_
     refine AllReadyIn.cons rfl (fun K hK => ?_) ?_
     ·go_simp
      refine hK _ _ ?_
      clear hK K
      refine wpAnyIn_ready (rs := [12]) (by kernel_rfl) (by simp) ?_
      refine AllReadyIn.cons rfl (fun K hK => ?_) ?_
      ·go_simp
       refine ⟨trivial, (callsIn_wide.2 HF.out).mono ?_⟩
       rintro e w5 ⟨rfl, hb5⟩
       have hX5 := (hb5.block _ (Array.getElem?_eq_some_iff.1 HX.out).1).trans HX.out
       have hN5 : NumsAt w5 g r1 := HN.out.block (hb5.block _ HN.out.lt)
       have z2 : w5.cell? ⟨w.heap.size, 2, none⟩ = some (.slice (some ⟨g, 0, none⟩) len cap) := cCc hX5 2
       have z3 := HYC.out w5 hN5
       have z4 := hN5.frozen x.1
       refine hK _ _ ?_
       clear hK K hX5
       refine wpAnyIn_take (i := 13) (v := ?_) rfl rfl (by kernel_rfl) (by kernel_rfl) (by kernel_rfl) (fun _ _ _ h => h) ⟨Or.inl ⟨by rfl, ?_⟩, fun _ => rfl⟩ ?_
       rotate_left
       ·intro w; go_simp; first | done | with_reducible rfl | rw [if_neg (by omega)]
       refine wpAnyIn_ready (rs := [14]) (by kernel_rfl) (by simp) ?_
       refine AllReadyIn.cons rfl (fun K hK => ?_) ?_
       ·go_simp
        refine hK _ _ ?_
        clear hK K
        refine wpAnyIn_done (by kernel_rfl) ?_ _
        exact fin { tmps := #[], defers := [] } w5 hb5 hN5
       exact AllReadyIn.nil
      exact AllReadyIn.nil
     exact AllReadyIn.nil
    exact AllReadyIn.nil
   exact AllReadyIn.nil
  refine AllReadyIn.cons rfl (fun K hK => ?_) ?_
  ·go_simp
   refine hK _ _ ?_
   clear hK K
   refine wpAnyIn_ready (rs := [2, 8]) (by kernel_rfl) (by simp) ?_
   refine AllReadyIn.cons rfl (fun K hK => ?_) ?_
   ·go_simp
    refine hK _ _ ?_
    clear hK K
    refine wpAnyIn_ready (rs := [8]) (by kernel_rfl) (by simp) ?_
    refine AllReadyIn.cons rfl (fun K hK => ?_) ?_
    ·go_simp
     refine hK _ _ ?_
     clear hK K
     refine wpAnyIn_take (i := 10) (v := ?_) rfl rfl (by kernel_rfl) (by kernel_rfl) (by kernel_rfl) (fun _ _ _ h => h) ⟨Or.inl ⟨by rfl, ?_⟩, fun _ => rfl⟩ ?_
     rotate_left
     ·intro w; go_simp; first | done | with_reducible rfl | rw [if_neg (by omega)]
     refine wpAnyIn_ready (rs := [11]) (by kernel_rfl) (by simp) ?_
     refine AllReadyIn.cons rfl (fun K hK => ?_) ?_
     ·go_simp
      refine hK _ _ ?_
      clear hK K
      refine wpAnyIn_ready (rs := [12]) (by kernel_rfl) (by simp) ?_
      refine AllReadyIn.cons rfl (fun K hK => ?_) ?_
      ·go_simp
       refine ⟨trivial, (callsIn_wide.2 HF.out).mono ?_⟩
       rintro e w5 ⟨rfl, hb5⟩
       have hX5 := (hb5.block _ (Array.getElem?_eq_some_iff.1 HX.out).1).trans HX.out
       have hN5 : NumsAt w5 g r1 := HN.out.block (hb5.block _ HN.out.lt)
       have z2 : w5.cell? ⟨w.heap.size, 2, none⟩ = some (.slice (some ⟨g, 0, none⟩) len cap) := cCc hX5 2
       have z3 := HYC.out w5 hN5
       have z4 := hN5.frozen x.1
       refine hK _ _ ?_
       clear hK K hX5
       refine wpAnyIn_take (i := 13) (v := ?_) rfl rfl (by kernel_rfl) (by kernel_rfl) (by kernel_rfl) (fun _ _ _ h => h) ⟨Or.inl ⟨by rfl, ?_⟩, fun _ => rfl⟩ ?_
       rotate_left
       ·intro w; go_simp; first | done | with_reducible rfl | rw [if_neg (by omega)]
       refine wpAnyIn_ready (rs := [14]) (by kernel_rfl) (by simp) ?_
       refine AllReadyIn.cons rfl (fun K hK => ?_) ?_
       ·go_simp
        refine hK _ _ ?_
        clear hK K
        refine wpAnyIn_done (by kernel_rfl) ?_ _
        exact fin { tmps := #[], defers := [] } w5 hb5 hN5
       exact AllReadyIn.nil
      exact AllReadyIn.nil
     exact AllReadyIn.nil
    exact AllReadyIn.nil
   refine AllReadyIn.cons rfl (fun K hK => ?_) ?_
   ·go_simp
    refine hK _ _ ?_
    clear hK K
    refine wpAnyIn_take (i := 10) (v := ?_) rfl rfl (by kernel_rfl) (by kernel_rfl) (by kernel_rfl) (fun _ _ _ h => h) ⟨Or.inl ⟨by rfl, ?_⟩, fun _ => rfl⟩ ?_
    rotate_left
    ·intro w; go_simp; first | done | with_reducible rfl | rw [if_neg (by omega)]
    refine wpAnyIn_ready (rs := [2, 11]) (by kernel_rfl) (by simp) ?_
    refine AllReadyIn.cons rfl (fun K hK => ?_) ?_
    ·go_simp
     refine hK _ _ ?_
     clear hK K
     refine wpAnyIn_ready (rs := [11]) (by kernel_rfl) (by simp) ?_
     refine AllReadyIn.cons rfl (fun K hK => ?_) ?_
     ·go_simp
      refine hK _ _ ?_
      clear hK K
      refine wpAnyIn_ready (rs := [12]) (by kernel_rfl) (by simp) ?_
      refine AllReadyIn.cons rfl (fun K hK => ?_) ?_
      ·go_simp
       refine ⟨trivial, (callsIn_wide.2 HF.out).mono ?_⟩
       rintro e w5 ⟨rfl, hb5⟩
       have hX5 := (hb5.block _ (Array.getElem?_eq_some_iff.1 HX.out).1).trans HX.out
       have hN5 : NumsAt w5 g r1 := HN.out.block (hb5.block _ HN.out.lt)
       have z2 : w5.cell? ⟨w.heap.size, 2, none⟩ = some (.slice (some ⟨g, 0, none⟩) len cap) := cCc hX5 2
       have z3 := HYC.out w5 hN5
       have z4 := hN5.frozen x.1
       refine hK _ _ ?_
       clear hK K hX5
       refine wpAnyIn_take (i := 13) (v := ?_) rfl rfl (by kernel_rfl) (by kernel_rfl) (by kernel_rfl) (fun _ _ _ h => h) ⟨Or.inl ⟨by rfl, ?_⟩, fun _ => rfl⟩ ?_
       rotate_left
       ·intro w; go_simp; first | done | with_reducible rfl | rw [if_neg (by omega)]
       refine wpAnyIn_ready (rs := [14]) (by kernel_rfl) (by simp) ?_
       refine AllReadyIn.cons rfl (fun K hK => ?_) ?_
       ·go_simp
        refine hK _ _ ?_
        clear hK K
        refine wpAnyIn_done (by kernel_rfl) ?_ _
        exact fin { tmps := #[], defers := [] } w5 hb5 hN5
       exact AllReadyIn.nil
      exact AllReadyIn.nil
     exact AllReadyIn.nil
    refine AllReadyIn.cons rfl (fun K hK => ?_) ?_
    ·go_simp
     refine hK _ _ ?_
     clear hK K
     refine wpAnyIn_ready (rs := [2, 12]) (by kernel_rfl) (by simp) ?_
     refine AllReadyIn.cons rfl (fun K hK => ?_) ?_
     ·go_simp
      refine hK _ _ ?_
      clear hK K
      refine wpAnyIn_ready (rs := [12]) (by kernel_rfl) (by simp) ?_
      refine AllReadyIn.cons rfl (fun K hK => ?_) ?_
      ·go_simp
       refine ⟨trivial, (callsIn_wide.2 HF.out).mono ?_⟩
       rintro e w5 ⟨rfl, hb5⟩
       have hX5 := (hb5.block _ (Array.getElem?_eq_some_iff.1 HX.out).1).trans HX.out
       have hN5 : NumsAt w5 g r1 := HN.out.block (hb5.block _ HN.out.lt)
       have z2 : w5.cell? ⟨w.heap.size, 2, none⟩ = some (.slice (some ⟨g, 0, none⟩) len cap) := cCc hX5 2
       have z3 := HYC.out w5 hN5
       have z4 := hN5.frozen x.1
       refine hK _ _ ?_
       clear hK K hX5
       refine wpAnyIn_take (i := 13) (v := ?_) rfl rfl (by kernel_rfl) (by kernel_rfl) (by kernel_rfl) (fun _ _ _ h => h) ⟨Or.inl ⟨by rfl, ?_⟩, fun _ => rfl⟩ ?_
       rotate_left
       ·intro w; go_simp; first | done | with_reducible rfl | rw [if_neg (by omega)]
       refine wpAnyIn_ready (rs := [14]) (by kernel_rfl) (by simp) ?_
       refine AllReadyIn.cons rfl (fun K hK => ?_) ?_
       ·go_simp
        refine hK _ _ ?_
        clear hK K
        refine wpAnyIn_done (by kernel_rfl) ?_ _
        exact fin { tmps := #[], defers := [] } w5 hb5 hN5
       exact AllReadyIn.nil
      exact AllReadyIn.nil
     refine AllReadyIn.cons rfl (fun K hK => ?_) ?_
     ·go_simp
      refine ⟨trivial, (callsIn_wide.2 HF.out).mono ?_⟩
      rintro e w5 ⟨rfl, hb5⟩
      have hX5 := (hb5.block _ (Array.getElem?_eq_some_iff.1 HX.out).1).trans HX.out
      have hN5 : NumsAt w5 g r1 := HN.out.block (hb5.block _ HN.out.lt)
      have z2 : w5.cell? ⟨w.heap.size, 2, none⟩ = some (.slice (some ⟨g, 0, none⟩) len cap) := cCc hX5 2
      have z3 := HYC.out w5 hN5
      have z4 := hN5.frozen x.1
      refine hK _ _ ?_
      clear hK K hX5
      refine wpAnyIn_ready (rs := [2]) (by kernel_rfl) (by simp) ?_
      refine AllReadyIn.cons rfl (fun K hK => ?_) ?_
      ·go_simp
       refine hK _ _ ?_
       clear hK K
       refine wpAnyIn_take (i := 13) (v := ?_) rfl rfl (by kernel_rfl) (by kernel_rfl) (by kernel_rfl) (fun _ _ _ h => h) ⟨Or.inl ⟨by rfl, ?_⟩, fun _ => rfl⟩ ?_
       rotate_left
       ·intro w; go_simp; first | done | with_reducible rfl | rw [if_neg (by omega)]
       refine wpAnyIn_ready (rs := [14]) (by kernel_rfl) (by simp) ?_
       refine AllReadyIn.cons rfl (fun K hK => ?_) ?_
       ·go_simp
        refine hK _ _ ?_
        clear hK K
        refine wpAnyIn_done (by kernel_rfl) ?_ _
        exact fin { tmps := #[], defers := [] } w5 hb5 hN5
       exact AllReadyIn.nil
      exact AllReadyIn.nil
     exact AllReadyIn.nil
    exact AllReadyIn.nil
   exact AllReadyIn.nil
  refine AllReadyIn.cons rfl (fun K hK => ?_) ?_
  ·go_simp
   refine hK _ _ ?_
   clear hK K
   refine wpAnyIn_take (i := 10) (v := ?_) rfl rfl (by kernel_rfl) (by kernel_rfl) (by kernel_rfl) (fun _ _ _ h => h) ⟨Or.inl ⟨by rfl, ?_⟩, fun _ => rfl⟩ ?_
   rotate_left
   ·intro w; go_simp; first | done | with_reducible rfl | rw [if_neg (by omega)]
   refine wpAnyIn_ready (rs := [2, 4, 11]) (by kernel_rfl) (by simp) ?_
   refine AllReadyIn.cons rfl (fun K hK => ?_) ?_
   ·go_simp
    refine hK _ _ ?_
    clear hK K
    refine wpAnyIn_ready (rs := [4, 11]) (by kernel_rfl) (by simp) ?_
    refine AllReadyIn.cons rfl (fun K hK => ?_) ?_
    ·go_simp
     refine hK _ _ ?_
     clear hK K
     refine wpAnyIn_ready (rs := [11]) (by kernel_rfl) (by simp) ?_
     refine AllReadyIn.cons rfl (fun K hK => ?_) ?_
     ·go_simp
      refine hK _ _ ?_
      clear hK K
      refine wpAnyIn_ready (rs := [12]) (by kernel_rfl) (by simp) ?_
      refine AllReadyIn.cons rfl (fun K hK => ?_) ?_
      ·go_simp
       refine ⟨trivial, (callsIn_wide.2 HF.out).mono ?_⟩
       rintro e w5 ⟨rfl, hb5⟩
       have hX5 := (hb5.block _ (Array.getElem?_eq_some_iff.1 HX.out).1).trans HX.out
       have hN5 : NumsAt w5 g r1 := HN.out.block (hb5.block _ HN.out.lt)
       have z2 : w5.cell? ⟨w.heap.size, 2, none⟩ = some (.slice (some ⟨g, 0, none⟩) len cap) := cCc hX5 2
       have z3 := HYC.out w5 hN5
       have z4 := hN5.frozen x.1
       refine hK _ _ ?_
       clear hK K hX5
       refine wpAnyIn_take (i := 13) (v := ?_) rfl rfl (by kernel_rfl) (by kernel_rfl) (by kernel_rfl) (fun _ _ _ h => h) ⟨Or.inl ⟨by rfl, ?_⟩, fun _ => rfl⟩ ?_
       rotate_left
       ·intro w; go_simp; first | done | with_reducible rfl | rw [if_neg (by omega)]
       refine wpAnyIn_ready (rs := [14]) (by kernel_rfl) (by simp) ?_
       refine AllReadyIn.cons rfl (fun K hK => ?_) ?_
       ·go_simp
        refine hK _ _ ?_
        clear hK K
        refine wpAnyIn_done (by kernel_rfl) ?_ _
        exact fin { tmps := #[], defers := [] } w5 hb5 hN5
       exact AllReadyIn.nil
      exact AllReadyIn.nil
     exact AllReadyIn.nil
    refine AllReadyIn.cons rfl (fun K hK => ?_) ?_
    ·go_simp
     refine hK _ _ ?_
     clear hK K
     refine wpAnyIn_ready (rs := [4]) (by kernel_rfl) (by simp) ?_
     refine AllReadyIn.cons rfl (fun K hK => ?_) ?_
     ·go_simp
      refine hK _ _ ?_
      clear hK K
      refine wpAnyIn_ready (rs := [12]) (by kernel_rfl) (by simp) ?_
      refine AllReadyIn.cons rfl (fun K hK => ?_) ?_
      ·go_simp
       refine ⟨trivial, (callsIn_wide.2 HF.out).mono ?_⟩
       rintro e w5 ⟨rfl, hb5⟩
       have hX5 := (hb5.block _ (Array.getElem?_eq_some_iff.1 HX.out).1).trans HX.out
       have hN5 : NumsAt w5 g r1 := HN.out.block (hb5.block _ HN.out.lt)
       have z2 : w5.cell? ⟨w.heap.size, 2, none⟩ = some (.slice (some ⟨g, 0, none⟩) len cap) := cCc hX5 2
       have z3 := HYC.out w5 hN5
       have z4 := hN5.frozen x.1
       refine hK _ _ ?_
       clear hK K hX5
       refine wpAnyIn_take (i := 13) (v := ?_) rfl rfl (by kernel_rfl) (by kernel_rfl) (by kernel_rfl) (fun _ _ _ h => h) ⟨Or.inl ⟨by rfl, ?_⟩, fun _ => rfl⟩ ?_
       rotate_left
       ·intro w; go_simp; first | done | with_reducible rfl | rw [if_neg (by omega)]
       refine wpAnyIn_ready (rs := [14]) (by kernel_rfl) (by simp) ?_
       refine AllReadyIn.cons rfl (fun K hK => ?_) ?_
       ·go_simp
        refine hK _ _ ?_
        clear hK K
        refine wpAnyIn_done (by kernel_rfl) ?_ _
        exact fin { tmps := #[], defers := [] } w5 hb5 hN5
       exact AllReadyIn.nil
      exact AllReadyIn.nil
     exact AllReadyIn.nil
    exact AllReadyIn.nil
   refine AllReadyIn.cons rfl (fun K hK => ?_) ?_
   ·go_simp
    refine hK _ _ ?_
    clear hK K
    refine wpAnyIn_ready (rs := [2, 11]) (by kernel_rfl) (by simp) ?_
    refine AllReadyIn.cons rfl (fun K hK => ?_) ?_
    ·go_simp
     refine hK _ _ ?_
     clear hK K
     refine wpAnyIn_ready (rs := [11]) (by kernel_rfl) (by simp) ?_
     refine AllReadyIn.cons rfl (fun K hK => ?_) ?_
     ·go_simp
      refine hK _ _ ?_
      clear hK K
      refine wpAnyIn_ready (rs := [12]) (by kernel_rfl) (by simp) ?_
      refine AllReadyIn.cons rfl (fun K hK => ?_) ?_
      ·go_simp
       refine ⟨trivial, (callsIn_wide.2 HF.out).mono ?_⟩
       rintro e w5 ⟨rfl, hb5⟩
       have hX5 := (hb5.block _ (Array.getElem?_eq_some_iff.1 HX.out).1).trans HX.out
       have hN5 : NumsAt w5 g r1 := HN.out.block (hb5.block _ HN.out.lt)
       have z2 : w5.cell? ⟨w.heap.size, 2, none⟩ = some (.slice (some ⟨g, 0, none⟩) len cap) := cCc hX5 2
       have z3 := HYC.out w5 hN5
       have z4 := hN5.frozen x.1
       refine hK _ _ ?_
       clear hK K hX5
       refine wpAnyIn_take (i := 13) (v := ?_) rfl rfl (by kernel_rfl) (by kernel_rfl) (by kernel_rfl) (fun _ _ _ h => h) ⟨Or.inl ⟨by rfl, ?_⟩, fun _ => rfl⟩ ?_
       rotate_left
       ·intro w; go_simp; first | done | with_reducible rfl | rw [if_neg (by omega)]
       refine wpAnyIn_ready (rs := [14]) (by kernel_rfl) (by simp) ?_
       refine AllReadyIn.cons rfl (fun K hK => ?_) ?_
       ·go_simp
        refine hK _ _ ?_
        clear hK K
        refine wpAnyIn_done (by kernel_rfl) ?_ _
        exact fin { tmps := #[], defers := [] } w5 hb5 hN5
       exact AllReadyIn.nil
      exact AllReadyIn.nil
     exact AllReadyIn.nil
    refine AllReadyIn.cons rfl (fun K hK => ?_) ?_
    ·go_simp
     refine hK _ _ ?_
     clear hK K
     refine wpAnyIn_ready (rs := [2, 12]) (by kernel_rfl) (by simp) ?_
     refine AllReadyIn.cons rfl (fun K hK => ?_) ?_
     ·go_simp
      refine hK _ _ ?_
      clear hK K
      refine wpAnyIn_ready (rs := [12]) (by kernel_rfl) (by simp) ?_
      refine AllReadyIn.cons rfl (fun K hK => ?_) ?_
      ·go_simp
       refine ⟨trivial, (callsIn_wide.2 HF.out).mono ?_⟩
       rintro e w5 ⟨rfl, hb5⟩
       have hX5 := (hb5.block _ (Array.getElem?_eq_some_iff.1 HX.out).1).trans HX.out
       have hN5 : NumsAt w5 g r1 := HN.out.block (hb5.block _ HN.out.lt)
       have z2 : w5.cell? ⟨w.heap.size, 2, none⟩ = some (.slice (some ⟨g, 0, none⟩) len cap) := cCc hX5 2
       have z3 := HYC.out w5 hN5
       have z4 := hN5.frozen x.1
       refine hK _ _ ?_
       clear hK K hX5
       refine wpAnyIn_take (i := 13) (v := ?_) rfl rfl (by kernel_rfl) (by kernel_rfl) (by kernel_rfl) (fun _ _ _ h => h) ⟨Or.inl ⟨by rfl, ?_⟩, fun _ => rfl⟩ ?_
       rotate_left
       ·intro w; go_simp; first | done | with_reducible rfl | rw [if_neg (by omega)]
       refine wpAnyIn_ready (rs := [14]) (by kernel_rfl) (by simp) ?_
       refine AllReadyIn.cons rfl (fun K hK => ?_) ?_
       ·go_simp
        refine hK _ _ ?_
        clear hK K
        refine wpAnyIn_done (by kernel_rfl) ?_ _
        exact fin { tmps := #[], defers := [] } w5 hb5 hN5
       exact AllReadyIn.nil
      exact AllReadyIn.nil
     refine AllReadyIn.cons rfl (fun K hK => ?_) ?_
     ·go_simp
      refine ⟨trivial, (callsIn_wide.2 HF.out).mono ?_⟩
      rintro e w5 ⟨rfl, hb5⟩
      have hX5 := (hb5.block _ (Array.getElem?_eq_some_iff.1 HX.out).1).trans HX.out
      have hN5 : NumsAt w5 g r1 := HN.out.block (hb5.block _ HN.out.lt)
      have z2 : w5.cell? ⟨w.heap.size, 2, none⟩ = some (.slice (some ⟨g, 0, none⟩) len cap) := cCc hX5 2
      have z3 := HYC.out w5 hN5
      have z4 := hN5.frozen x.1
      refine hK _ _ ?_
      clear hK K hX5
      refine wpAnyIn_ready (rs := [2]) (by kernel_rfl) (by simp) ?_
      refine AllReadyIn.cons rfl (fun K hK => ?_) ?_
      ·go_simp
       refine hK _ _ ?_
       clear hK K
       refine wpAnyIn_take (i := 13) (v := ?_) rfl rfl (by kernel_rfl) (by kernel_rfl) (by kernel_rfl) (fun _ _ _ h => h) ⟨Or.inl ⟨by rfl, ?_⟩, fun _ => rfl⟩ ?_
       rotate_left
       ·intro w; go_simp; first | done | with_reducible rfl | rw [if_neg (by omega)]
       refine wpAnyIn_ready (rs := [14]) (by kernel_rfl) (by simp) ?_
       refine AllReadyIn.cons rfl (fun K hK => ?_) ?_
       ·go_simp
        refine hK _ _ ?_
        clear hK K
        refine wpAnyIn_done (by kernel_rfl) ?_ _
        exact fin { tmps := #[], defers := [] } w5 hb5 hN5
       exact AllReadyIn.nil
      exact AllReadyIn.nil
     exact AllReadyIn.nil
    exact AllReadyIn.nil
   refine AllReadyIn.cons rfl (fun K hK => ?_) ?_
   ·go_simp
    refine hK _ _ ?_
    clear hK K
    refine wpAnyIn_ready (rs := [2, 4]) (by kernel_rfl) (by simp) ?_
    refine AllReadyIn.cons rfl (fun K hK => ?_) ?_
    ·go_simp
     refine hK _ _ ?_
     clear hK K
     refine wpAnyIn_ready (rs := [4]) (by kernel_rfl) (by simp) ?_
     refine AllReadyIn.cons rfl (fun K hK => ?_) ?_
     ·go_simp
      refine hK _ _ ?_
      clear hK K
      refine wpAnyIn_ready (rs := [12]) (by kernel_rfl) (by simp) ?_
      refine AllReadyIn.cons rfl (fun K hK => ?_) ?_
      ·go_simp
       refine ⟨trivial, (callsIn_wide.2 HF.out).mono ?_⟩
       rintro e w5 ⟨rfl, hb5⟩
       have hX5 := (hb5.block _ (Array.getElem?_eq_some_iff.1 HX.out).1).trans HX.out
       have hN5 : NumsAt w5 g r1 := HN.out.block (hb5.block _ HN.out.lt)
       have z2 : w5.cell? ⟨w.heap.size, 2, none⟩ = some (.slice (some ⟨g, 0, none⟩) len cap) := cCc hX5 2
       have z3 := HYC.out w5 hN5
       have z4 := hN5.frozen x.1
       refine hK _ _ ?_
       clear hK K hX5
       refine wpAnyIn_take (i := 13) (v := ?_) rfl rfl (by kernel_rfl) (by kernel_rfl) (by kernel_rfl) (fun _ _ _ h => h) ⟨Or.inl ⟨by rfl, ?_⟩, fun _ => rfl⟩ ?_
       rotate_left
       ·intro w; go_simp; first | done | with_reducible rfl | rw [if_neg (by omega)]
       refine wpAnyIn_ready (rs := [14]) (by kernel_rfl) (by simp) ?_
       refine AllReadyIn.cons rfl (fun K hK => ?_) ?_
       ·go_simp
        refine hK _ _ ?_
        clear hK K
        refine wpAnyIn_done (by kernel_rfl) ?_ _
        exact fin { tmps := #[], defers := [] } w5 hb5 hN5
       exact AllReadyIn.nil
      exact AllReadyIn.nil
     exact AllReadyIn.nil
    refine AllReadyIn.cons rfl (fun K hK => ?_) ?_
    ·go_simp
     refine hK _ _ ?_
     clear hK K
     refine wpAnyIn_ready (rs := [2, 12]) (by kernel_rfl) (by simp) ?_
     refine AllReadyIn.cons rfl (fun K hK => ?_) ?_
     ·go_simp
      refine hK _ _ ?_
      clear hK K
      refine wpAnyIn_ready (rs := [12]) (by kernel_rfl) (by simp) ?_
      refine AllReadyIn.cons rfl (fun K hK => ?_) ?_
      ·go_simp
       refine ⟨trivial, (callsIn_wide.2 HF.out).mono ?_⟩
       rintro e w5 ⟨rfl, hb5⟩
       have hX5 := (hb5.block _ (Array.getElem?_eq_some_iff.1 HX.out).1).trans HX.out
       have hN5 : NumsAt w5 g r1 := HN.out.block (hb5.block _ HN.out.lt)
       have z2 : w5.cell? ⟨w.heap.size, 2, none⟩ = some (.slice (some ⟨g, 0, none⟩) len cap) := cCc hX5 2
       have z3 := HYC.out w5 hN5
       have z4 := hN5.frozen x.1
       refine hK _ _ ?_
       clear hK K hX5
       refine wpAnyIn_take (i := 13) (v := ?_) rfl rfl (by kernel_rfl) (by kernel_rfl) (by kernel_rfl) (fun _ _ _ h => h) ⟨Or.inl ⟨by rfl, ?_⟩, fun _ => rfl⟩ ?_
       rotate_left
       ·intro w; go_simp; first | done | with_reducible rfl | rw [if_neg (by omega)]
       refine wpAnyIn_ready (rs := [14]) (by kernel_rfl) (by simp) ?_
       refine AllReadyIn.cons rfl (fun K hK => ?_) ?_
       ·go_simp
        refine hK _ _ ?_
        clear hK K
        refine wpAnyIn_done (by kernel_rfl) ?_ _
        exact fin { tmps := #[], defers := [] } w5 hb5 hN5
       exact AllReadyIn.nil
      exact AllReadyIn.nil
     refine AllReadyIn.cons rfl (fun K hK => ?_) ?_
     ·go_simp
      refine ⟨trivial, (callsIn_wide.2 HF.out).mono ?_⟩
      rintro e w5 ⟨rfl, hb5⟩
      have hX5 := (hb5.block _ (Array.getElem?_eq_some_iff.1 HX.out).1).trans HX.out
      have hN5 : NumsAt w5 g r1 := HN.out.block (hb5.block _ HN.out.lt)
      have z2 : w5.cell? ⟨w.heap.size, 2, none⟩ = some (.slice (some ⟨g, 0, none⟩) len cap) := cCc hX5 2
      have z3 := HYC.out w5 hN5
      have z4 := hN5.frozen x.1
      refine hK _ _ ?_
      clear hK K hX5
      refine wpAnyIn_ready (rs := [2]) (by kernel_rfl) (by simp) ?_
      refine AllReadyIn.cons rfl (fun K hK => ?_) ?_
      ·go_simp
       refine hK _ _ ?_
       clear hK K
       refine wpAnyIn_take (i := 13) (v := ?_) rfl rfl (by kernel_rfl) (by kernel_rfl) (by kernel_rfl) (fun _ _ _ h => h) ⟨Or.inl ⟨by rfl, ?_⟩, fun _ => rfl⟩ ?_
       rotate_left
       ·intro w; go_simp; first | done | with_reducible rfl | rw [if_neg (by omega)]
       refine wpAnyIn_ready (rs := [14]) (by kernel_rfl) (by simp) ?_
       refine AllReadyIn.cons rfl (fun K hK => ?_) ?_
       ·go_simp
        refine hK _ _ ?_
        clear hK K
        refine wpAnyIn_done (by kernel_rfl) ?_ _
        exact fin { tmps := #[], defers := [] } w5 hb5 hN5
       exact AllReadyIn.nil
      exact AllReadyIn.nil
     exact AllReadyIn.nil
    exact AllReadyIn.nil
   exact AllReadyIn.nil
  exact AllReadyIn.nil
 case fin =>
  rintro D W hD ⟨hN, hX, hT, hG⟩ hK
  have hne : some g ≠ some D := fun e => by cases e; omega
  refine marks_ret1 (v := .tuple #[]) hK (results_none rfl _ _ _) ⟨rfl, ?_, ?_⟩
  ·exact hN.block ((grownBy_putObj' _ D _).block _ hN.lt hne)
  ·exact hG.andThen (grownBy_putObj' _ D _) (fun j e => by cases e; exact .inl (by omega))
end Go.Proofs.YtcbbenncdainfaaGreatDoor

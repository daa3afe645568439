/- Package label: Text. Package label over slices by their elements: Right, Text. -/
import Derived.Test.YthbhmnakmhambaaGreatDoorZL3
import Derived.Test.YthbhmnakmhambaaGreatDoorZT6
namespace Go.Proofs.YthbhmnakmhambaaGreatDoor
open Go Go.RowKit Go.Shelf
attribute [local go_sem] Oper.semAt_some
attribute [-go_sem] Builtin.append_
theorem und_strs : Tryz.prog.underlying 127 = some (.slice 9) := by kernel_rfl
theorem info_str : (Tryz.prog.info? 9).map (fun i => (i.zero, i.size, i.bytes)) = some (some (.string ⟨#[]⟩), 1, 16) := by kernel_rfl
def encSt (s : ByteArray) : List Value := [.string s]
theorem appKeepsL {W w1 : World} {B base e size n : Nat} {v : Value} {xs : List Value} (hown : W.ownsRow base e size v n xs) (hz : W.heap.size ≤ w1.heap.size) (h6 : ∀ k, k < W.heap.size → some k ≠ v.ownBlock → w1.heap[k]? = W.heap[k]?) : KeepsFrom B W w1 :=
 ⟨hz, fun k o _ hk ho => by
  refine (h6 k (Array.getElem?_eq_some_iff.1 hk).1 (fun e => ?_)).trans hk
  rcases hown.2 with ⟨rfl, _⟩ | ⟨g, cap, cur, rfl, _, hg, _⟩
  ·cases e
  ·have : k = g := by cases e; rfl
   subst this
   rw [hg] at hk; cases hk; cases ho⟩
theorem join_len (sep : List UInt8) (M : Nat) (xs : List (List UInt8)) (h : ∀ x ∈ xs, x.length ≤ M) : (Lib.join xs sep).length ≤ xs.length * (M + sep.length) := by
 have ht : ∀ r : List (List UInt8), (∀ x ∈ r, x.length ≤ M) → (Lib.joinTail sep r).length ≤ r.length * (M + sep.length) := by
  intro r
  induction r with
  | nil => intro _; simp [Lib.joinTail]
  | cons x r ih =>
   intro hr
   have h1 := ih (fun y hy => hr y (List.mem_cons_of_mem _ hy))
   have h2 := hr x (List.mem_cons_self ..)
   simp only [Lib.joinTail, List.map_cons, List.flatten_cons, List.length_append, List.length_cons, Nat.add_mul] at h1 ⊢
   omega
 cases xs with
 | nil => simp [Lib.join_nil]
 | cons x r =>
  have h1 := ht r (fun y hy => h y (List.mem_cons_of_mem _ hy))
  have h2 := h x (List.mem_cons_self ..)
  rw [Lib.join_cons, List.length_append, List.length_cons, Nat.add_mul]
  omega
theorem labPart_len (u : LabK) : (labPart u.1).data.toList.length ≤ 30064770967 := by
 have h1 := u.2.1
 have h2 := u.2.2
 have h3 := quotedB_len (rl u.1.value 0)
 have h4 := rl_len u.1.value 0
 have e : (labPart u.1).size = u.1.name.size + 1 + (quotedB (rl u.1.value 0)).length := by
  simp [labPart, ByteArray.size_append]
  rfl
 rw [← Lib.size_eq, e]
 omega
def textPre (pre : List LabK) : List ByteArray := (pre.map (·.1)).map labPart
theorem textPre_len (pre : List LabK) : (textPre pre).length = pre.length := by simp [textPre]
def TextI (n N : Nat) (w : World) (pre : List LabK) (W : World) : Prop :=
 ∃ v, Boxed W n 127 v ∧ W.ownsRow N 9 1 v pre.length ((textPre pre).flatMap encSt) ∧ Below w.heap.size w W
theorem textI_own {n N : Nat} {w : World} (hn : w.heap.size ≤ n) (hN : n < N) : OwnFrom N (TextI n N w) := fun s X Y row hs hg hr => by
 obtain ⟨v, h1, h2, h3⟩ := hs
 refine ⟨v, ownBox N n _ (fun _ : Unit => v) () X Y row h1 hg hr, h2.kept hg ?_, ownFrom_below (Nat.le_refl _) (by omega) () X Y row h3 hg hr⟩
 rcases h2.2 with ⟨rfl, _⟩ | ⟨g, cap, cur, rfl, hgb, hgg, _⟩
 ·exact .inl rfl
 ·refine .inr (fun e => ?_)
  have e' : row = some g := by rw [← e]; rfl
  obtain ⟨_, o, ho, hc⟩ := hr g e'
  rw [hgg] at ho; cases ho; cases hc
set_option maxRecDepth 100000 in
set_option maxHeartbeats 1000000 in
theorem label_Text_right (a0 : Option Addr) (cap : Nat) (ls : List LabK) (w : World) (hL : Labs w.heap.size w (.slice a0 ls.length cap) (ls.map (·.1))) (hG : GW w) (h3 : ls.length < 4294967281) (hR : labRight (ls.map (·.1)) = true) :
  Calls Tryz.prog 35 #[.slice a0 ls.length cap] w fun e w' => e = .returned (.tuple #[.string (labText (ls.map (·.1))), .int .i64 0]) ∧ Below w.heap.size w w' := by
 refine calls_marks Tryz.func35 rfl ?_
 simp only [Tryz.ntmps35, List.size_toArray, List.length_cons, List.length_nil, Nat.reduceAdd, Nat.reduceSub, Array.replicate_succ, Array.replicate_zero, List.push_toArray, List.append_toArray, List.nil_append, List.cons_append]
 have hG1 := hG
 go_wp2_with (first | (go_at_call 69; refine (label_Right_any a0 cap ls _ hL hG h3).mono ?_; rw [hR]; rintro e w1 ⟨rfl, hb1⟩) | (go_at_call 70; refine (each_any _ _ _ _).mono ?_; rintro e w' ⟨rfl, rfl⟩))
 have bR := Boxed.new w1 127 (.slice none 0 0)
 have bN := Boxed.new (w1.alloc (.cells #[.slice none 0 0] 127)) 40 (.slice a0 ls.length cap)
 have hB0 : Below w.heap.size w ((w1.alloc (.cells #[.slice none 0 0] 127)).alloc (.cells #[.slice a0 ls.length cap] 40)) := (hb1.alloc hb1.size _).alloc (by have := hb1.size; simp; omega) _
 simp only [World.size_alloc] at bN
 have bR0 := bR.alloc (.cells #[.slice a0 ls.length cap] 40)
 have hsz : ((w1.alloc (.cells #[.slice none 0 0] 127)).alloc (.cells #[.slice a0 ls.length cap] 40)).heap.size = w1.heap.size + 2 := by simp
 generalize ((w1.alloc (.cells #[.slice none 0 0] 127)).alloc (.cells #[.slice a0 ls.length cap] 40)) = W0 at bR0 bN hB0 hsz ⊢
 clear bR
 have hw1 := hb1.size
 refine wp_range_box 70 (fun x : LabK => #[.string x.1.name, .string x.1.value]) 5 (gf := 126) (lb := #[.pointer (some ⟨w1.heap.size + 1, 0, none⟩)]) rfl (enters_of Tryz.func126 (by kernel_rfl) rfl)
  (values_lab (w1.heap.size + 1) w.heap.size _ ls h3 W0 (by omega) (by omega) bN.cell (SlAt.below hB0 hL)) (by omega) (Below.refl _ _) (fun _ => rfl)
  (TextI w1.heap.size W0.heap.size w) (fun _ _ _ => False) (textI_own (by omega) (by omega)) (fun c => fun _ _ _ _ h => h.elim)
  ⟨_, bR0, World.ownsRow_nil _ _ _ _, hB0⟩ ?assign ?body ?done ?stop
 case assign =>
  rintro l pre x W K ⟨v, k0, k1, k2⟩ hs hK
  simp only [List.zip_toArray, List.zip_cons_cons, List.zip_nil_right, List.size_toArray, List.foldl_toArray', List.foldl_cons, List.foldl_nil, List.setIfInBounds_toArray, List.set_cons_succ, List.set_cons_zero] at hK ⊢
  gi_wp2
  exact ⟨v, k0.alloc _, k1.alloc _, k2.alloc k2.size _⟩
 case body =>
  rintro l pre x W Bx ⟨v, k0, k1, hB⟩ hBx hBl hx hlt
  have c0 := cCc hx 0
  have c1 := cCc hx 1
  simp at c0 c1
  obtain ⟨va, vc, rfl⟩ := owns_formL k1
  have c3 := k0.cell
  have c4 := k0.frozen
  simp only [List.zip_toArray, List.zip_cons_cons, List.zip_nil_right, List.size_toArray, List.foldl_toArray', List.foldl_cons, List.foldl_nil, List.setIfInBounds_toArray, List.set_cons_succ, List.set_cons_zero]
  have hmx : Tryz.prog.follows .mixedOrders = true := by kernel_rfl
  have hq := quoted_any x.1.value W.drew (by have := x.2.2; omega)
  have hbx : w1.heap.size < W.heap.size := k0.lt
  have hlen : pre.length < 4294967281 := by omega
  have hn1 : x.1.name.size < 4294967281 := x.2.1
  have hq1 : (quotedB (rl x.1.value 0)).length ≤ 5 * 4294967281 := by have h1 := quotedB_len (rl x.1.value 0); have h2 := rl_len x.1.value 0; have h3 := x.2.2; omega
  clear hx
  have fin : ∀ (w2 w4 : World) (g cap' : Nat) (hb2 : Below W.drew.heap.size W.drew w2) (hown4 : w4.ownsRow W0.heap.size 9 1 (.slice (some ⟨g, 0, none⟩) (pre.length + 1) cap') (pre.length + 1) ((textPre pre).flatMap encSt ++ [.string (x.1.name ++ (⟨#[61]⟩ : ByteArray) ++ (⟨(quotedB (rl x.1.value 0)).toArray⟩ : ByteArray))])) (hB4 : Below w.heap.size W w4) (hz4 : w2.heap.size < w4.heap.size) (hbl4 : ∀ k, k < W0.heap.size → w4.heap[k]? = w2.heap[k]?) (hoth4 : ∀ k, k < w2.heap.size → some k ≠ (Value.slice va pre.length vc).ownBlock → w4.heap[k]? = w2.heap[k]?),
    KeepsFrom W0.heap.size W (w4.setCell ⟨w1.heap.size, 0, none⟩ (.slice (some ⟨g, 0, none⟩) (pre.length + 1) cap')) ∧ Below w.heap.size W (w4.setCell ⟨w1.heap.size, 0, none⟩ (.slice (some ⟨g, 0, none⟩) (pre.length + 1) cap')) ∧ TextI w1.heap.size W0.heap.size w (pre ++ [x]) (w4.setCell ⟨w1.heap.size, 0, none⟩ (.slice (some ⟨g, 0, none⟩) (pre.length + 1) cap')) := by
   intro w2 w4 g cap' hb2 hown4 hB4 hz4 hbl4 hoth4
   have d2 : Boxed w4 w1.heap.size 127 _ := (hbl4 _ (by omega)).trans (bBoxed hb2 hbx k0)
   have hkd : KeepsFrom W0.heap.size W W.drew := (KeepsOthers.drew _).from _
   refine ⟨((hkd.trans (bKeeps hb2 (Nat.le_refl _))).trans (appKeepsL (owns_of_blocks (w' := w2) k1 (fun j _ hj => hb2.block j hj)) (by omega) hoth4)).trans ((KeepsOthers.setCell _ _ _).from _), hB4.setCell (p := ⟨w1.heap.size, 0, none⟩) hw1 _, _, d2.set _, ?_, (hB.trans hB4).setCell (p := ⟨w1.heap.size, 0, none⟩) hw1 _⟩
   have hq := ownsRow_setCell_below hown4 (a := ⟨w1.heap.size, 0, none⟩) (by show w1.heap.size < _; omega) (.slice (some ⟨g, 0, none⟩) (pre.length + 1) cap')
   simpa [textPre, encSt, labPart] using hq
  gi_wp2_with fail
  refine wpIn_region_round (F := Fence.wide) rfl hmx rfl ?_
  refine wpAnyIn_take (i := 1) (v := ?_) rfl rfl (by kernel_rfl) (by kernel_rfl) (by kernel_rfl) (fun _ _ _ h => h) ⟨Or.inl ⟨by rfl, ?_⟩, fun _ => rfl⟩ ?_
  rotate_left
  ·intro w; go_simp; with_reducible rfl
  refine wpAnyIn_take (i := 4) (v := ?_) rfl rfl (by kernel_rfl) (by kernel_rfl) (by kernel_rfl) (fun _ _ _ h => h) ⟨Or.inl ⟨by rfl, ?_⟩, fun _ => rfl⟩ ?_
  rotate_left
  ·intro w; go_simp; with_reducible rfl
  refine wpAnyIn_ready (rs := [0, 2, 5]) (by kernel_rfl) (by simp) ?_
  refine AllReadyIn.cons rfl (fun K hK => ?_) ?_
  ·go_simp
   refine hK _ _ ?_
   clear hK K
   refine wpAnyIn_ready (rs := [2, 5]) (by kernel_rfl) (by simp) ?_
   refine AllReadyIn.cons rfl (fun K hK => ?_) ?_
   ·go_simp
    refine hK _ _ ?_
    clear hK K
    refine wpAnyIn_take (i := 3) (v := ?_) rfl rfl (by kernel_rfl) (by kernel_rfl) (by kernel_rfl) (fun _ _ _ h => h) ⟨Or.inl ⟨by rfl, ?_⟩, fun _ => rfl⟩ ?_
    rotate_left
    ·intro w; go_simp; rw [if_neg (by omega)]
    refine wpAnyIn_ready (rs := [5]) (by kernel_rfl) (by simp) ?_
    refine AllReadyIn.cons rfl (fun K hK => ?_) ?_
    ·go_simp
     refine hK _ _ ?_
     clear hK K
     refine wpAnyIn_ready (rs := [6]) (by kernel_rfl) (by simp) ?_
     refine AllReadyIn.cons rfl (fun K hK => ?_) ?_
     ·go_simp
      refine ⟨trivial, (callsIn_wide.2 hq).mono ?_⟩
      rintro e w2 ⟨rfl, hb2⟩
      obtain ⟨g, cap', w4, hap, hown4, hB4, hz4, hbl4, hoth4⟩ := append_one Tryz.prog 127 und_strs info_str rfl (by decide) (owns_of_blocks (w' := w2) k1 (fun j _ hj => hb2.block j hj)) ((Below.refl w.heap.size W).drew.trans (hb2.mono hB.size)) (by omega) (by have := hb2.size; have : W.drew.heap.size = W.heap.size := rfl; omega) [.string (x.1.name ++ (⟨#[61]⟩ : ByteArray) ++ (⟨(quotedB (rl x.1.value 0)).toArray⟩ : ByteArray))] rfl (by simp [Value.oneCell']) hlen (by decide)
      have hz2 : W.heap.size ≤ w2.heap.size := hb2.size
      have hw2 : w1.heap.size < w2.heap.size := Nat.lt_of_lt_of_le hbx hz2
      have hx2 : Bx < w2.heap.size := Nat.lt_of_lt_of_le hBl hz2
      have d0 := (hb2.cell (p := ⟨Bx, 0, none⟩) hBl).trans c0
      have d1 := (hb2.cell (p := ⟨w1.heap.size, 0, none⟩) hbx).trans c3
      have d2 : Boxed w4 w1.heap.size 127 _ := (hbl4 _ (by omega)).trans (bBoxed hb2 hbx k0)
      have d3 := d2.cell
      have d4 := d2.frozen
      refine hK _ _ ?_
      clear hK K hq
      refine wpAnyIn_take (i := 7) (v := ?_) rfl rfl (by kernel_rfl) (by kernel_rfl) (by kernel_rfl) (fun _ _ _ h => h) ⟨Or.inl ⟨by rfl, ?_⟩, fun _ => rfl⟩ ?_
      rotate_left
      ·intro w; go_simp; rw [if_neg (by omega)]
      refine wpAnyIn_ready (rs := [8]) (by kernel_rfl) (by simp) ?_
      refine AllReadyIn.cons rfl (fun K hK => ?_) ?_
      ·go_simp
       refine hK _ _ ?_
       clear hK K
       refine wpAnyIn_ready (rs := [9]) (by kernel_rfl) (by simp) ?_
       refine AllReadyIn.cons rfl (fun K hK => ?_) ?_
       ·go_simp
        refine hK _ _ ?_
        clear hK K
        refine wpAnyIn_ready (rs := [10]) (by kernel_rfl) (by simp) ?_
        refine AllReadyIn.cons rfl (fun K hK => ?_) ?_
        ·go_simp
         refine hK _ _ ?_
         clear hK K
         refine wpAnyIn_done (by kernel_rfl) ?_ _
         exact fin w2 w4 g cap' hb2 hown4 hB4 hz4 hbl4 hoth4
        exact AllReadyIn.nil
       exact AllReadyIn.nil
      exact AllReadyIn.nil
     exact AllReadyIn.nil
    exact AllReadyIn.nil
   refine AllReadyIn.cons rfl (fun K hK => ?_) ?_
   ·go_simp
    refine hK _ _ ?_
    clear hK K
    refine wpAnyIn_ready (rs := [2, 6]) (by kernel_rfl) (by simp) ?_
    refine AllReadyIn.cons rfl (fun K hK => ?_) ?_
    ·go_simp
     refine hK _ _ ?_
     clear hK K
     refine wpAnyIn_take (i := 3) (v := ?_) rfl rfl (by kernel_rfl) (by kernel_rfl) (by kernel_rfl) (fun _ _ _ h => h) ⟨Or.inl ⟨by rfl, ?_⟩, fun _ => rfl⟩ ?_
     rotate_left
     ·intro w; go_simp; rw [if_neg (by omega)]
     refine wpAnyIn_ready (rs := [6]) (by kernel_rfl) (by simp) ?_
     refine AllReadyIn.cons rfl (fun K hK => ?_) ?_
     ·go_simp
      refine ⟨trivial, (callsIn_wide.2 hq).mono ?_⟩
      rintro e w2 ⟨rfl, hb2⟩
      obtain ⟨g, cap', w4, hap, hown4, hB4, hz4, hbl4, hoth4⟩ := append_one Tryz.prog 127 und_strs info_str rfl (by decide) (owns_of_blocks (w' := w2) k1 (fun j _ hj => hb2.block j hj)) ((Below.refl w.heap.size W).drew.trans (hb2.mono hB.size)) (by omega) (by have := hb2.size; have : W.drew.heap.size = W.heap.size := rfl; omega) [.string (x.1.name ++ (⟨#[61]⟩ : ByteArray) ++ (⟨(quotedB (rl x.1.value 0)).toArray⟩ : ByteArray))] rfl (by simp [Value.oneCell']) hlen (by decide)
      have hz2 : W.heap.size ≤ w2.heap.size := hb2.size
      have hw2 : w1.heap.size < w2.heap.size := Nat.lt_of_lt_of_le hbx hz2
      have hx2 : Bx < w2.heap.size := Nat.lt_of_lt_of_le hBl hz2
      have d0 := (hb2.cell (p := ⟨Bx, 0, none⟩) hBl).trans c0
      have d1 := (hb2.cell (p := ⟨w1.heap.size, 0, none⟩) hbx).trans c3
      have d2 : Boxed w4 w1.heap.size 127 _ := (hbl4 _ (by omega)).trans (bBoxed hb2 hbx k0)
      have d3 := d2.cell
      have d4 := d2.frozen
      refine hK _ _ ?_
      clear hK K hq
      refine wpAnyIn_take (i := 7) (v := ?_) rfl rfl (by kernel_rfl) (by kernel_rfl) (by kernel_rfl) (fun _ _ _ h => h) ⟨Or.inl ⟨by rfl, ?_⟩, fun _ => rfl⟩ ?_
      rotate_left
      ·intro w; go_simp; rw [if_neg (by omega)]
      refine wpAnyIn_ready (rs := [8]) (by kernel_rfl) (by simp) ?_
      refine AllReadyIn.cons rfl (fun K hK => ?_) ?_
      ·go_simp
       refine hK _ _ ?_
       clear hK K
       refine wpAnyIn_ready (rs := [9]) (by kernel_rfl) (by simp) ?_
       refine AllReadyIn.cons rfl (fun K hK => ?_) ?_
       ·go_simp
        refine hK _ _ ?_
        clear hK K
        refine wpAnyIn_ready (rs := [10]) (by kernel_rfl) (by simp) ?_
        refine AllReadyIn.cons rfl (fun K hK => ?_) ?_
        ·go_simp
         refine hK _ _ ?_
         clear hK K
         refine wpAnyIn_done (by kernel_rfl) ?_ _
         exact fin w2 w4 g cap' hb2 hown4 hB4 hz4 hbl4 hoth4
        exact AllReadyIn.nil
       exact AllReadyIn.nil
      exact AllReadyIn.nil
     exact AllReadyIn.nil
    refine AllReadyIn.cons rfl (fun K hK => ?_) ?_
    ·go_simp
     refine ⟨trivial, (callsIn_wide.2 hq).mono ?_⟩
     rintro e w2 ⟨rfl, hb2⟩
     obtain ⟨g, cap', w4, hap, hown4, hB4, hz4, hbl4, hoth4⟩ := append_one Tryz.prog 127 und_strs info_str rfl (by decide) (owns_of_blocks (w' := w2) k1 (fun j _ hj => hb2.block j hj)) ((Below.refl w.heap.size W).drew.trans (hb2.mono hB.size)) (by omega) (by have := hb2.size; have : W.drew.heap.size = W.heap.size := rfl; omega) [.string (x.1.name ++ (⟨#[61]⟩ : ByteArray) ++ (⟨(quotedB (rl x.1.value 0)).toArray⟩ : ByteArray))] rfl (by simp [Value.oneCell']) hlen (by decide)
     have hz2 : W.heap.size ≤ w2.heap.size := hb2.size
     have hw2 : w1.heap.size < w2.heap.size := Nat.lt_of_lt_of_le hbx hz2
     have hx2 : Bx < w2.heap.size := Nat.lt_of_lt_of_le hBl hz2
     have d0 := (hb2.cell (p := ⟨Bx, 0, none⟩) hBl).trans c0
     have d1 := (hb2.cell (p := ⟨w1.heap.size, 0, none⟩) hbx).trans c3
     have d2 : Boxed w4 w1.heap.size 127 _ := (hbl4 _ (by omega)).trans (bBoxed hb2 hbx k0)
     have d3 := d2.cell
     have d4 := d2.frozen
     refine hK _ _ ?_
     clear hK K hq
     refine wpAnyIn_ready (rs := [2]) (by kernel_rfl) (by simp) ?_
     refine AllReadyIn.cons rfl (fun K hK => ?_) ?_
     ·go_simp
      refine hK _ _ ?_
      clear hK K
      refine wpAnyIn_take (i := 3) (v := ?_) rfl rfl (by kernel_rfl) (by kernel_rfl) (by kernel_rfl) (fun _ _ _ h => h) ⟨Or.inl ⟨by rfl, ?_⟩, fun _ => rfl⟩ ?_
      rotate_left
      ·intro w; go_simp; rw [if_neg (by omega)]
      refine wpAnyIn_take (i := 7) (v := ?_) rfl rfl (by kernel_rfl) (by kernel_rfl) (by kernel_rfl) (fun _ _ _ h => h) ⟨Or.inl ⟨by rfl, ?_⟩, fun _ => rfl⟩ ?_
      rotate_left
      ·intro w; go_simp; rw [if_neg (by omega)]
      refine wpAnyIn_ready (rs := [8]) (by kernel_rfl) (by simp) ?_
      refine AllReadyIn.cons rfl (fun K hK => ?_) ?_
      ·go_simp
       refine hK _ _ ?_
       clear hK K
       refine wpAnyIn_ready (rs := [9]) (by kernel_rfl) (by simp) ?_
       refine AllReadyIn.cons rfl (fun K hK => ?_) ?_
       ·go_simp
        refine hK _ _ ?_
        clear hK K
        refine wpAnyIn_ready (rs := [10]) (by kernel_rfl) (by simp) ?_
        refine AllReadyIn.cons rfl (fun K hK => ?_) ?_
        ·go_simp
         refine hK _ _ ?_
         clear hK K
         refine wpAnyIn_done (by kernel_rfl) ?_ _
         exact fin w2 w4 g cap' hb2 hown4 hB4 hz4 hbl4 hoth4
        exact AllReadyIn.nil
       exact AllReadyIn.nil
      exact AllReadyIn.nil
     exact AllReadyIn.nil
    exact AllReadyIn.nil
   exact AllReadyIn.nil
  refine AllReadyIn.cons rfl (fun K hK => ?_) ?_
  ·go_simp
   refine hK _ _ ?_
   clear hK K
   refine wpAnyIn_take (i := 3) (v := ?_) rfl rfl (by kernel_rfl) (by kernel_rfl) (by kernel_rfl) (fun _ _ _ h => h) ⟨Or.inl ⟨by rfl, ?_⟩, fun _ => rfl⟩ ?_
   rotate_left
   ·intro w; go_simp; rw [if_neg (by omega)]
   refine wpAnyIn_ready (rs := [0, 5]) (by kernel_rfl) (by simp) ?_
   refine AllReadyIn.cons rfl (fun K hK => ?_) ?_
   ·go_simp
    refine hK _ _ ?_
    clear hK K
    refine wpAnyIn_ready (rs := [5]) (by kernel_rfl) (by simp) ?_
    refine AllReadyIn.cons rfl (fun K hK => ?_) ?_
    ·go_simp
     refine hK _ _ ?_
     clear hK K
     refine wpAnyIn_ready (rs := [6]) (by kernel_rfl) (by simp) ?_
     refine AllReadyIn.cons rfl (fun K hK => ?_) ?_
     ·go_simp
      refine ⟨trivial, (callsIn_wide.2 hq).mono ?_⟩
      rintro e w2 ⟨rfl, hb2⟩
      obtain ⟨g, cap', w4, hap, hown4, hB4, hz4, hbl4, hoth4⟩ := append_one Tryz.prog 127 und_strs info_str rfl (by decide) (owns_of_blocks (w' := w2) k1 (fun j _ hj => hb2.block j hj)) ((Below.refl w.heap.size W).drew.trans (hb2.mono hB.size)) (by omega) (by have := hb2.size; have : W.drew.heap.size = W.heap.size := rfl; omega) [.string (x.1.name ++ (⟨#[61]⟩ : ByteArray) ++ (⟨(quotedB (rl x.1.value 0)).toArray⟩ : ByteArray))] rfl (by simp [Value.oneCell']) hlen (by decide)
      have hz2 : W.heap.size ≤ w2.heap.size := hb2.size
      have hw2 : w1.heap.size < w2.heap.size := Nat.lt_of_lt_of_le hbx hz2
      have hx2 : Bx < w2.heap.size := Nat.lt_of_lt_of_le hBl hz2
      have d0 := (hb2.cell (p := ⟨Bx, 0, none⟩) hBl).trans c0
      have d1 := (hb2.cell (p := ⟨w1.heap.size, 0, none⟩) hbx).trans c3
      have d2 : Boxed w4 w1.heap.size 127 _ := (hbl4 _ (by omega)).trans (bBoxed hb2 hbx k0)
      have d3 := d2.cell
      have d4 := d2.frozen
      refine hK _ _ ?_
      clear hK K hq
      refine wpAnyIn_take (i := 7) (v := ?_) rfl rfl (by kernel_rfl) (by kernel_rfl) (by kernel_rfl) (fun _ _ _ h => h) ⟨Or.inl ⟨by rfl, ?_⟩, fun _ => rfl⟩ ?_
      rotate_left
      ·intro w; go_simp; rw [if_neg (by omega)]
      refine wpAnyIn_ready (rs := [8]) (by kernel_rfl) (by simp) ?_
      refine AllReadyIn.cons rfl (fun K hK => ?_) ?_
      ·go_simp
       refine hK _ _ ?_
       clear hK K
       refine wpAnyIn_ready (rs := [9]) (by kernel_rfl) (by simp) ?_
       refine AllReadyIn.cons rfl (fun K hK => ?_) ?_
       ·go_simp
        refine hK _ _ ?_
        clear hK K
        refine wpAnyIn_ready (rs := [10]) (by kernel_rfl) (by simp) ?_
        refine AllReadyIn.cons rfl (fun K hK => ?_) ?_
        ·go_simp
         refine hK _ _ ?_
         clear hK K
         refine wpAnyIn_done (by kernel_rfl) ?_ _
         exact fin w2 w4 g cap' hb2 hown4 hB4 hz4 hbl4 hoth4
        exact AllReadyIn.nil
       exact AllReadyIn.nil
      exact AllReadyIn.nil
     exact AllReadyIn.nil
    exact AllReadyIn.nil
   refine AllReadyIn.cons rfl (fun K hK => ?_) ?_
   ·go_simp
    refine hK _ _ ?_
    clear hK K
    refine wpAnyIn_ready (rs := [0, 6]) (by kernel_rfl) (by simp) ?_
    refine AllReadyIn.cons rfl (fun K hK => ?_) ?_
    ·go_simp
     refine hK _ _ ?_
     clear hK K
     refine wpAnyIn_ready (rs := [6]) (by kernel_rfl) (by simp) ?_
     refine AllReadyIn.cons rfl (fun K hK => ?_) ?_
     ·go_simp
      refine ⟨trivial, (callsIn_wide.2 hq).mono ?_⟩
      rintro e w2 ⟨rfl, hb2⟩
      obtain ⟨g, cap', w4, hap, hown4, hB4, hz4, hbl4, hoth4⟩ := append_one Tryz.prog 127 und_strs info_str rfl (by decide) (owns_of_blocks (w' := w2) k1 (fun j _ hj => hb2.block j hj)) ((Below.refl w.heap.size W).drew.trans (hb2.mono hB.size)) (by omega) (by have := hb2.size; have : W.drew.heap.size = W.heap.size := rfl; omega) [.string (x.1.name ++ (⟨#[61]⟩ : ByteArray) ++ (⟨(quotedB (rl x.1.value 0)).toArray⟩ : ByteArray))] rfl (by simp [Value.oneCell']) hlen (by decide)
      have hz2 : W.heap.size ≤ w2.heap.size := hb2.size
      have hw2 : w1.heap.size < w2.heap.size := Nat.lt_of_lt_of_le hbx hz2
      have hx2 : Bx < w2.heap.size := Nat.lt_of_lt_of_le hBl hz2
      have d0 := (hb2.cell (p := ⟨Bx, 0, none⟩) hBl).trans c0
      have d1 := (hb2.cell (p := ⟨w1.heap.size, 0, none⟩) hbx).trans c3
      have d2 : Boxed w4 w1.heap.size 127 _ := (hbl4 _ (by omega)).trans (bBoxed hb2 hbx k0)
      have d3 := d2.cell
      have d4 := d2.frozen
      refine hK _ _ ?_
      clear hK K hq
      refine wpAnyIn_take (i := 7) (v := ?_) rfl rfl (by kernel_rfl) (by kernel_rfl) (by kernel_rfl) (fun _ _ _ h => h) ⟨Or.inl ⟨by rfl, ?_⟩, fun _ => rfl⟩ ?_
      rotate_left
      ·intro w; go_simp; rw [if_neg (by omega)]
      refine wpAnyIn_ready (rs := [8]) (by kernel_rfl) (by simp) ?_
      refine AllReadyIn.cons rfl (fun K hK => ?_) ?_
      ·go_simp
       refine hK _ _ ?_
       clear hK K
       refine wpAnyIn_ready (rs := [9]) (by kernel_rfl) (by simp) ?_
       refine AllReadyIn.cons rfl (fun K hK => ?_) ?_
       ·go_simp
        refine hK _ _ ?_
        clear hK K
        refine wpAnyIn_ready (rs := [10]) (by kernel_rfl) (by simp) ?_
        refine AllReadyIn.cons rfl (fun K hK => ?_) ?_
        ·go_simp
         refine hK _ _ ?_
         clear hK K
         refine wpAnyIn_done (by kernel_rfl) ?_ _
         exact fin w2 w4 g cap' hb2 hown4 hB4 hz4 hbl4 hoth4
        exact AllReadyIn.nil
       exact AllReadyIn.nil
      exact AllReadyIn.nil
     exact AllReadyIn.nil
    refine AllReadyIn.cons rfl (fun K hK => ?_) ?_
    ·go_simp
     refine ⟨trivial, (callsIn_wide.2 hq).mono ?_⟩
     rintro e w2 ⟨rfl, hb2⟩
     obtain ⟨g, cap', w4, hap, hown4, hB4, hz4, hbl4, hoth4⟩ := append_one Tryz.prog 127 und_strs info_str rfl (by decide) (owns_of_blocks (w' := w2) k1 (fun j _ hj => hb2.block j hj)) ((Below.refl w.heap.size W).drew.trans (hb2.mono hB.size)) (by omega) (by have := hb2.size; have : W.drew.heap.size = W.heap.size := rfl; omega) [.string (x.1.name ++ (⟨#[61]⟩ : ByteArray) ++ (⟨(quotedB (rl x.1.value 0)).toArray⟩ : ByteArray))] rfl (by simp [Value.oneCell']) hlen (by decide)
     have hz2 : W.heap.size ≤ w2.heap.size := hb2.size
     have hw2 : w1.heap.size < w2.heap.size := Nat.lt_of_lt_of_le hbx hz2
     have hx2 : Bx < w2.heap.size := Nat.lt_of_lt_of_le hBl hz2
     have d0 := (hb2.cell (p := ⟨Bx, 0, none⟩) hBl).trans c0
     have d1 := (hb2.cell (p := ⟨w1.heap.size, 0, none⟩) hbx).trans c3
     have d2 : Boxed w4 w1.heap.size 127 _ := (hbl4 _ (by omega)).trans (bBoxed hb2 hbx k0)
     have d3 := d2.cell
     have d4 := d2.frozen
     refine hK _ _ ?_
     clear hK K hq
     refine wpAnyIn_take (i := 7) (v := ?_) rfl rfl (by kernel_rfl) (by kernel_rfl) (by kernel_rfl) (fun _ _ _ h => h) ⟨Or.inl ⟨by rfl, ?_⟩, fun _ => rfl⟩ ?_
     rotate_left
     ·intro w; go_simp; rw [if_neg (by omega)]
     refine wpAnyIn_ready (rs := [0, 8]) (by kernel_rfl) (by simp) ?_
     refine AllReadyIn.cons rfl (fun K hK => ?_) ?_
     ·go_simp
      refine hK _ _ ?_
      clear hK K
      refine wpAnyIn_ready (rs := [8]) (by kernel_rfl) (by simp) ?_
      refine AllReadyIn.cons rfl (fun K hK => ?_) ?_
      ·go_simp
       refine hK _ _ ?_
       clear hK K
       refine wpAnyIn_ready (rs := [9]) (by kernel_rfl) (by simp) ?_
       refine AllReadyIn.cons rfl (fun K hK => ?_) ?_
       ·go_simp
        refine hK _ _ ?_
        clear hK K
        refine wpAnyIn_ready (rs := [10]) (by kernel_rfl) (by simp) ?_
        refine AllReadyIn.cons rfl (fun K hK => ?_) ?_
        ·go_simp
         refine hK _ _ ?_
         clear hK K
         refine wpAnyIn_done (by kernel_rfl) ?_ _
         exact fin w2 w4 g cap' hb2 hown4 hB4 hz4 hbl4 hoth4
        exact AllReadyIn.nil
       exact AllReadyIn.nil
      exact AllReadyIn.nil
     refine AllReadyIn.cons rfl (fun K hK => ?_) ?_
     ·go_simp
      refine hK _ _ ?_
      clear hK K
      refine wpAnyIn_ready (rs := [0]) (by kernel_rfl) (by simp) ?_
      refine AllReadyIn.cons rfl (fun K hK => ?_) ?_
      ·go_simp
       refine hK _ _ ?_
       clear hK K
       refine wpAnyIn_ready (rs := [9]) (by kernel_rfl) (by simp) ?_
       refine AllReadyIn.cons rfl (fun K hK => ?_) ?_
       ·go_simp
        refine hK _ _ ?_
        clear hK K
        refine wpAnyIn_ready (rs := [10]) (by kernel_rfl) (by simp) ?_
        refine AllReadyIn.cons rfl (fun K hK => ?_) ?_
        ·go_simp
         refine hK _ _ ?_
         clear hK K
         refine wpAnyIn_done (by kernel_rfl) ?_ _
         exact fin w2 w4 g cap' hb2 hown4 hB4 hz4 hbl4 hoth4
        exact AllReadyIn.nil
       exact AllReadyIn.nil
      exact AllReadyIn.nil
     exact AllReadyIn.nil
    exact AllReadyIn.nil
   exact AllReadyIn.nil
  refine AllReadyIn.cons rfl (fun K hK => ?_) ?_
  ·go_simp
   refine hK _ _ ?_
   clear hK K
   refine wpAnyIn_ready (rs := [0, 2, 6]) (by kernel_rfl) (by simp) ?_
   refine AllReadyIn.cons rfl (fun K hK => ?_) ?_
   ·go_simp
    refine hK _ _ ?_
    clear hK K
    refine wpAnyIn_ready (rs := [2, 6]) (by kernel_rfl) (by simp) ?_
    refine AllReadyIn.cons rfl (fun K hK => ?_) ?_
    ·go_simp
     refine hK _ _ ?_
     clear hK K
     refine wpAnyIn_take (i := 3) (v := ?_) rfl rfl (by kernel_rfl) (by kernel_rfl) (by kernel_rfl) (fun _ _ _ h => h) ⟨Or.inl ⟨by rfl, ?_⟩, fun _ => rfl⟩ ?_
     rotate_left
     ·intro w; go_simp; rw [if_neg (by omega)]
     refine wpAnyIn_ready (rs := [6]) (by kernel_rfl) (by simp) ?_
     refine AllReadyIn.cons rfl (fun K hK => ?_) ?_
     ·go_simp
      refine ⟨trivial, (callsIn_wide.2 hq).mono ?_⟩
      rintro e w2 ⟨rfl, hb2⟩
      obtain ⟨g, cap', w4, hap, hown4, hB4, hz4, hbl4, hoth4⟩ := append_one Tryz.prog 127 und_strs info_str rfl (by decide) (owns_of_blocks (w' := w2) k1 (fun j _ hj => hb2.block j hj)) ((Below.refl w.heap.size W).drew.trans (hb2.mono hB.size)) (by omega) (by have := hb2.size; have : W.drew.heap.size = W.heap.size := rfl; omega) [.string (x.1.name ++ (⟨#[61]⟩ : ByteArray) ++ (⟨(quotedB (rl x.1.value 0)).toArray⟩ : ByteArray))] rfl (by simp [Value.oneCell']) hlen (by decide)
      have hz2 : W.heap.size ≤ w2.heap.size := hb2.size
      have hw2 : w1.heap.size < w2.heap.size := Nat.lt_of_lt_of_le hbx hz2
      have hx2 : Bx < w2.heap.size := Nat.lt_of_lt_of_le hBl hz2
      have d0 := (hb2.cell (p := ⟨Bx, 0, none⟩) hBl).trans c0
      have d1 := (hb2.cell (p := ⟨w1.heap.size, 0, none⟩) hbx).trans c3
      have d2 : Boxed w4 w1.heap.size 127 _ := (hbl4 _ (by omega)).trans (bBoxed hb2 hbx k0)
      have d3 := d2.cell
      have d4 := d2.frozen
      refine hK _ _ ?_
      clear hK K hq
      refine wpAnyIn_take (i := 7) (v := ?_) rfl rfl (by kernel_rfl) (by kernel_rfl) (by kernel_rfl) (fun _ _ _ h => h) ⟨Or.inl ⟨by rfl, ?_⟩, fun _ => rfl⟩ ?_
      rotate_left
      ·intro w; go_simp; rw [if_neg (by omega)]
      refine wpAnyIn_ready (rs := [8]) (by kernel_rfl) (by simp) ?_
      refine AllReadyIn.cons rfl (fun K hK => ?_) ?_
      ·go_simp
       refine hK _ _ ?_
       clear hK K
       refine wpAnyIn_ready (rs := [9]) (by kernel_rfl) (by simp) ?_
       refine AllReadyIn.cons rfl (fun K hK => ?_) ?_
       ·go_simp
        refine hK _ _ ?_
        clear hK K
        refine wpAnyIn_ready (rs := [10]) (by kernel_rfl) (by simp) ?_
        refine AllReadyIn.cons rfl (fun K hK => ?_) ?_
        ·go_simp
         refine hK _ _ ?_
         clear hK K
         refine wpAnyIn_done (by kernel_rfl) ?_ _
         exact fin w2 w4 g cap' hb2 hown4 hB4 hz4 hbl4 hoth4
        exact AllReadyIn.nil
       exact AllReadyIn.nil
      exact AllReadyIn.nil
     exact AllReadyIn.nil
    refine AllReadyIn.cons rfl (fun K hK => ?_) ?_
    ·go_simp
     refine ⟨trivial, (callsIn_wide.2 hq).mono ?_⟩
     rintro e w2 ⟨rfl, hb2⟩
     obtain ⟨g, cap', w4, hap, hown4, hB4, hz4, hbl4, hoth4⟩ := append_one Tryz.prog 127 und_strs info_str rfl (by decide) (owns_of_blocks (w' := w2) k1 (fun j _ hj => hb2.block j hj)) ((Below.refl w.heap.size W).drew.trans (hb2.mono hB.size)) (by omega) (by have := hb2.size; have : W.drew.heap.size = W.heap.size := rfl; omega) [.string (x.1.name ++ (⟨#[61]⟩ : ByteArray) ++ (⟨(quotedB (rl x.1.value 0)).toArray⟩ : ByteArray))] rfl (by simp [Value.oneCell']) hlen (by decide)
     have hz2 : W.heap.size ≤ w2.heap.size := hb2.size
     have hw2 : w1.heap.size < w2.heap.size := Nat.lt_of_lt_of_le hbx hz2
     have hx2 : Bx < w2.heap.size := Nat.lt_of_lt_of_le hBl hz2
     have d0 := (hb2.cell (p := ⟨Bx, 0, none⟩) hBl).trans c0
     have d1 := (hb2.cell (p := ⟨w1.heap.size, 0, none⟩) hbx).trans c3
     have d2 : Boxed w4 w1.heap.size 127 _ := (hbl4 _ (by omega)).trans (bBoxed hb2 hbx k0)
     have d3 := d2.cell
     have d4 := d2.frozen
     refine hK _ _ ?_
     clear hK K hq
     refine wpAnyIn_ready (rs := [2]) (by kernel_rfl) (by simp) ?_
     refine AllReadyIn.cons rfl (fun K hK => ?_) ?_
     ·go_simp
      refine hK _ _ ?_
      clear hK K
      refine wpAnyIn_take (i := 3) (v := ?_) rfl rfl (by kernel_rfl) (by kernel_rfl) (by kernel_rfl) (fun _ _ _ h => h) ⟨Or.inl ⟨by rfl, ?_⟩, fun _ => rfl⟩ ?_
      rotate_left
      ·intro w; go_simp; rw [if_neg (by omega)]
      refine wpAnyIn_take (i := 7) (v := ?_) rfl rfl (by kernel_rfl) (by kernel_rfl) (by kernel_rfl) (fun _ _ _ h => h) ⟨Or.inl ⟨by rfl, ?_⟩, fun _ => rfl⟩ ?_
      rotate_left
      ·intro w; go_simp; rw [if_neg (by omega)]
      refine wpAnyIn_ready (rs := [8]) (by kernel_rfl) (by simp) ?_
      refine AllReadyIn.cons rfl (fun K hK => ?_) ?_
      ·go_simp
       refine hK _ _ ?_
       clear hK K
       refine wpAnyIn_ready (rs := [9]) (by kernel_rfl) (by simp) ?_
       refine AllReadyIn.cons rfl (fun K hK => ?_) ?_
       ·go_simp
        refine hK _ _ ?_
        clear hK K
        refine wpAnyIn_ready (rs := [10]) (by kernel_rfl) (by simp) ?_
        refine AllReadyIn.cons rfl (fun K hK => ?_) ?_
        ·go_simp
         refine hK _ _ ?_
         clear hK K
         refine wpAnyIn_done (by kernel_rfl) ?_ _
         exact fin w2 w4 g cap' hb2 hown4 hB4 hz4 hbl4 hoth4
        exact AllReadyIn.nil
       exact AllReadyIn.nil
      exact AllReadyIn.nil
     exact AllReadyIn.nil
    exact AllReadyIn.nil
   refine AllReadyIn.cons rfl (fun K hK => ?_) ?_
   ·go_simp
    refine hK _ _ ?_
    clear hK K
    refine wpAnyIn_take (i := 3) (v := ?_) rfl rfl (by kernel_rfl) (by kernel_rfl) (by kernel_rfl) (fun _ _ _ h => h) ⟨Or.inl ⟨by rfl, ?_⟩, fun _ => rfl⟩ ?_
    rotate_left
    ·intro w; go_simp; rw [if_neg (by omega)]
    refine wpAnyIn_ready (rs := [0, 6]) (by kernel_rfl) (by simp) ?_
    refine AllReadyIn.cons rfl (fun K hK => ?_) ?_
    ·go_simp
     refine hK _ _ ?_
     clear hK K
     refine wpAnyIn_ready (rs := [6]) (by kernel_rfl) (by simp) ?_
     refine AllReadyIn.cons rfl (fun K hK => ?_) ?_
     ·go_simp
      refine ⟨trivial, (callsIn_wide.2 hq).mono ?_⟩
      rintro e w2 ⟨rfl, hb2⟩
      obtain ⟨g, cap', w4, hap, hown4, hB4, hz4, hbl4, hoth4⟩ := append_one Tryz.prog 127 und_strs info_str rfl (by decide) (owns_of_blocks (w' := w2) k1 (fun j _ hj => hb2.block j hj)) ((Below.refl w.heap.size W).drew.trans (hb2.mono hB.size)) (by omega) (by have := hb2.size; have : W.drew.heap.size = W.heap.size := rfl; omega) [.string (x.1.name ++ (⟨#[61]⟩ : ByteArray) ++ (⟨(quotedB (rl x.1.value 0)).toArray⟩ : ByteArray))] rfl (by simp [Value.oneCell']) hlen (by decide)
      have hz2 : W.heap.size ≤ w2.heap.size := hb2.size
      have hw2 : w1.heap.size < w2.heap.size := Nat.lt_of_lt_of_le hbx hz2
      have hx2 : Bx < w2.heap.size := Nat.lt_of_lt_of_le hBl hz2
      have d0 := (hb2.cell (p := ⟨Bx, 0, none⟩) hBl).trans c0
      have d1 := (hb2.cell (p := ⟨w1.heap.size, 0, none⟩) hbx).trans c3
      have d2 : Boxed w4 w1.heap.size 127 _ := (hbl4 _ (by omega)).trans (bBoxed hb2 hbx k0)
      have d3 := d2.cell
      have d4 := d2.frozen
      refine hK _ _ ?_
      clear hK K hq
      refine wpAnyIn_take (i := 7) (v := ?_) rfl rfl (by kernel_rfl) (by kernel_rfl) (by kernel_rfl) (fun _ _ _ h => h) ⟨Or.inl ⟨by rfl, ?_⟩, fun _ => rfl⟩ ?_
      rotate_left
      ·intro w; go_simp; rw [if_neg (by omega)]
      refine wpAnyIn_ready (rs := [8]) (by kernel_rfl) (by simp) ?_
      refine AllReadyIn.cons rfl (fun K hK => ?_) ?_
      ·go_simp
       refine hK _ _ ?_
       clear hK K
       refine wpAnyIn_ready (rs := [9]) (by kernel_rfl) (by simp) ?_
       refine AllReadyIn.cons rfl (fun K hK => ?_) ?_
       ·go_simp
        refine hK _ _ ?_
        clear hK K
        refine wpAnyIn_ready (rs := [10]) (by kernel_rfl) (by simp) ?_
        refine AllReadyIn.cons rfl (fun K hK => ?_) ?_
        ·go_simp
         refine hK _ _ ?_
         clear hK K
         refine wpAnyIn_done (by kernel_rfl) ?_ _
         exact fin w2 w4 g cap' hb2 hown4 hB4 hz4 hbl4 hoth4
        exact AllReadyIn.nil
       exact AllReadyIn.nil
      exact AllReadyIn.nil
     exact AllReadyIn.nil
    refine AllReadyIn.cons rfl (fun K hK => ?_) ?_
    ·go_simp
     refine ⟨trivial, (callsIn_wide.2 hq).mono ?_⟩
     rintro e w2 ⟨rfl, hb2⟩
     obtain ⟨g, cap', w4, hap, hown4, hB4, hz4, hbl4, hoth4⟩ := append_one Tryz.prog 127 und_strs info_str rfl (by decide) (owns_of_blocks (w' := w2) k1 (fun j _ hj => hb2.block j hj)) ((Below.refl w.heap.size W).drew.trans (hb2.mono hB.size)) (by omega) (by have := hb2.size; have : W.drew.heap.size = W.heap.size := rfl; omega) [.string (x.1.name ++ (⟨#[61]⟩ : ByteArray) ++ (⟨(quotedB (rl x.1.value 0)).toArray⟩ : ByteArray))] rfl (by simp [Value.oneCell']) hlen (by decide)
     have hz2 : W.heap.size ≤ w2.heap.size := hb2.size
     have hw2 : w1.heap.size < w2.heap.size := Nat.lt_of_lt_of_le hbx hz2
     have hx2 : Bx < w2.heap.size := Nat.lt_of_lt_of_le hBl hz2
     have d0 := (hb2.cell (p := ⟨Bx, 0, none⟩) hBl).trans c0
     have d1 := (hb2.cell (p := ⟨w1.heap.size, 0, none⟩) hbx).trans c3
     have d2 : Boxed w4 w1.heap.size 127 _ := (hbl4 _ (by omega)).trans (bBoxed hb2 hbx k0)
     have d3 := d2.cell
     have d4 := d2.frozen
     refine hK _ _ ?_
     clear hK K hq
     refine wpAnyIn_take (i := 7) (v := ?_) rfl rfl (by kernel_rfl) (by kernel_rfl) (by kernel_rfl) (fun _ _ _ h => h) ⟨Or.inl ⟨by rfl, ?_⟩, fun _ => rfl⟩ ?_
     rotate_left
     ·intro w; go_simp; rw [if_neg (by omega)]
     refine wpAnyIn_ready (rs := [0, 8]) (by kernel_rfl) (by simp) ?_
     refine AllReadyIn.cons rfl (fun K hK => ?_) ?_
     ·go_simp
      refine hK _ _ ?_
      clear hK K
      refine wpAnyIn_ready (rs := [8]) (by kernel_rfl) (by simp) ?_
      refine AllReadyIn.cons rfl (fun K hK => ?_) ?_
      ·go_simp
       refine hK _ _ ?_
       clear hK K
       refine wpAnyIn_ready (rs := [9]) (by kernel_rfl) (by simp) ?_
       refine AllReadyIn.cons rfl (fun K hK => ?_) ?_
       ·go_simp
        refine hK _ _ ?_
        clear hK K
        refine wpAnyIn_ready (rs := [10]) (by kernel_rfl) (by simp) ?_
        refine AllReadyIn.cons rfl (fun K hK => ?_) ?_
        ·go_simp
         refine hK _ _ ?_
         clear hK K
         refine wpAnyIn_done (by kernel_rfl) ?_ _
         exact fin w2 w4 g cap' hb2 hown4 hB4 hz4 hbl4 hoth4
        exact AllReadyIn.nil
       exact AllReadyIn.nil
      exact AllReadyIn.nil
     refine AllReadyIn.cons rfl (fun K hK => ?_) ?_
     ·go_simp
      refine hK _ _ ?_
      clear hK K
      refine wpAnyIn_ready (rs := [0]) (by kernel_rfl) (by simp) ?_
      refine AllReadyIn.cons rfl (fun K hK => ?_) ?_
      ·go_simp
       refine hK _ _ ?_
       clear hK K
       refine wpAnyIn_ready (rs := [9]) (by kernel_rfl) (by simp) ?_
       refine AllReadyIn.cons rfl (fun K hK => ?_) ?_
       ·go_simp
        refine hK _ _ ?_
        clear hK K
        refine wpAnyIn_ready (rs := [10]) (by kernel_rfl) (by simp) ?_
        refine AllReadyIn.cons rfl (fun K hK => ?_) ?_
        ·go_simp
         refine hK _ _ ?_
         clear hK K
         refine wpAnyIn_done (by kernel_rfl) ?_ _
         exact fin w2 w4 g cap' hb2 hown4 hB4 hz4 hbl4 hoth4
        exact AllReadyIn.nil
       exact AllReadyIn.nil
      exact AllReadyIn.nil
     exact AllReadyIn.nil
    exact AllReadyIn.nil
   refine AllReadyIn.cons rfl (fun K hK => ?_) ?_
   ·go_simp
    refine ⟨trivial, (callsIn_wide.2 hq).mono ?_⟩
    rintro e w2 ⟨rfl, hb2⟩
    obtain ⟨g, cap', w4, hap, hown4, hB4, hz4, hbl4, hoth4⟩ := append_one Tryz.prog 127 und_strs info_str rfl (by decide) (owns_of_blocks (w' := w2) k1 (fun j _ hj => hb2.block j hj)) ((Below.refl w.heap.size W).drew.trans (hb2.mono hB.size)) (by omega) (by have := hb2.size; have : W.drew.heap.size = W.heap.size := rfl; omega) [.string (x.1.name ++ (⟨#[61]⟩ : ByteArray) ++ (⟨(quotedB (rl x.1.value 0)).toArray⟩ : ByteArray))] rfl (by simp [Value.oneCell']) hlen (by decide)
    have hz2 : W.heap.size ≤ w2.heap.size := hb2.size
    have hw2 : w1.heap.size < w2.heap.size := Nat.lt_of_lt_of_le hbx hz2
    have hx2 : Bx < w2.heap.size := Nat.lt_of_lt_of_le hBl hz2
    have d0 := (hb2.cell (p := ⟨Bx, 0, none⟩) hBl).trans c0
    have d1 := (hb2.cell (p := ⟨w1.heap.size, 0, none⟩) hbx).trans c3
    have d2 : Boxed w4 w1.heap.size 127 _ := (hbl4 _ (by omega)).trans (bBoxed hb2 hbx k0)
    have d3 := d2.cell
    have d4 := d2.frozen
    refine hK _ _ ?_
    clear hK K hq
    refine wpAnyIn_ready (rs := [0, 2]) (by kernel_rfl) (by simp) ?_
    refine AllReadyIn.cons rfl (fun K hK => ?_) ?_
    ·go_simp
     refine hK _ _ ?_
     clear hK K
     refine wpAnyIn_ready (rs := [2]) (by kernel_rfl) (by simp) ?_
     refine AllReadyIn.cons rfl (fun K hK => ?_) ?_
     ·go_simp
      refine hK _ _ ?_
      clear hK K
      refine wpAnyIn_take (i := 3) (v := ?_) rfl rfl (by kernel_rfl) (by kernel_rfl) (by kernel_rfl) (fun _ _ _ h => h) ⟨Or.inl ⟨by rfl, ?_⟩, fun _ => rfl⟩ ?_
      rotate_left
      ·intro w; go_simp; rw [if_neg (by omega)]
      refine wpAnyIn_take (i := 7) (v := ?_) rfl rfl (by kernel_rfl) (by kernel_rfl) (by kernel_rfl) (fun _ _ _ h => h) ⟨Or.inl ⟨by rfl, ?_⟩, fun _ => rfl⟩ ?_
      rotate_left
      ·intro w; go_simp; rw [if_neg (by omega)]
      refine wpAnyIn_ready (rs := [8]) (by kernel_rfl) (by simp) ?_
      refine AllReadyIn.cons rfl (fun K hK => ?_) ?_
      ·go_simp
       refine hK _ _ ?_
       clear hK K
       refine wpAnyIn_ready (rs := [9]) (by kernel_rfl) (by simp) ?_
       refine AllReadyIn.cons rfl (fun K hK => ?_) ?_
       ·go_simp
        refine hK _ _ ?_
        clear hK K
        refine wpAnyIn_ready (rs := [10]) (by kernel_rfl) (by simp) ?_
        refine AllReadyIn.cons rfl (fun K hK => ?_) ?_
        ·go_simp
         refine hK _ _ ?_
         clear hK K
         refine wpAnyIn_done (by kernel_rfl) ?_ _
         exact fin w2 w4 g cap' hb2 hown4 hB4 hz4 hbl4 hoth4
        exact AllReadyIn.nil
       exact AllReadyIn.nil
      exact AllReadyIn.nil
     exact AllReadyIn.nil
    refine AllReadyIn.cons rfl (fun K hK => ?_) ?_
    ·go_simp
     refine hK _ _ ?_
     clear hK K
     refine wpAnyIn_take (i := 3) (v := ?_) rfl rfl (by kernel_rfl) (by kernel_rfl) (by kernel_rfl) (fun _ _ _ h => h) ⟨Or.inl ⟨by rfl, ?_⟩, fun _ => rfl⟩ ?_
     rotate_left
     ·intro w; go_simp; rw [if_neg (by omega)]
     refine wpAnyIn_take (i := 7) (v := ?_) rfl rfl (by kernel_rfl) (by kernel_rfl) (by kernel_rfl) (fun _ _ _ h => h) ⟨Or.inl ⟨by rfl, ?_⟩, fun _ => rfl⟩ ?_
     rotate_left
     ·intro w; go_simp; rw [if_neg (by omega)]
     refine wpAnyIn_ready (rs := [0, 8]) (by kernel_rfl) (by simp) ?_
     refine AllReadyIn.cons rfl (fun K hK => ?_) ?_
     ·go_simp
      refine hK _ _ ?_
      clear hK K
      refine wpAnyIn_ready (rs := [8]) (by kernel_rfl) (by simp) ?_
      refine AllReadyIn.cons rfl (fun K hK => ?_) ?_
      ·go_simp
       refine hK _ _ ?_
       clear hK K
       refine wpAnyIn_ready (rs := [9]) (by kernel_rfl) (by simp) ?_
       refine AllReadyIn.cons rfl (fun K hK => ?_) ?_
       ·go_simp
        refine hK _ _ ?_
        clear hK K
        refine wpAnyIn_ready (rs := [10]) (by kernel_rfl) (by simp) ?_
        refine AllReadyIn.cons rfl (fun K hK => ?_) ?_
        ·go_simp
         refine hK _ _ ?_
         clear hK K
         refine wpAnyIn_done (by kernel_rfl) ?_ _
         exact fin w2 w4 g cap' hb2 hown4 hB4 hz4 hbl4 hoth4
        exact AllReadyIn.nil
       exact AllReadyIn.nil
      exact AllReadyIn.nil
     refine AllReadyIn.cons rfl (fun K hK => ?_) ?_
     ·go_simp
      refine hK _ _ ?_
      clear hK K
      refine wpAnyIn_ready (rs := [0]) (by kernel_rfl) (by simp) ?_
      refine AllReadyIn.cons rfl (fun K hK => ?_) ?_
      ·go_simp
       refine hK _ _ ?_
       clear hK K
       refine wpAnyIn_ready (rs := [9]) (by kernel_rfl) (by simp) ?_
       refine AllReadyIn.cons rfl (fun K hK => ?_) ?_
       ·go_simp
        refine hK _ _ ?_
        clear hK K
        refine wpAnyIn_ready (rs := [10]) (by kernel_rfl) (by simp) ?_
        refine AllReadyIn.cons rfl (fun K hK => ?_) ?_
        ·go_simp
         refine hK _ _ ?_
         clear hK K
         refine wpAnyIn_done (by kernel_rfl) ?_ _
         exact fin w2 w4 g cap' hb2 hown4 hB4 hz4 hbl4 hoth4
        exact AllReadyIn.nil
       exact AllReadyIn.nil
      exact AllReadyIn.nil
     exact AllReadyIn.nil
    exact AllReadyIn.nil
   exact AllReadyIn.nil
  exact AllReadyIn.nil
 case done =>
  rintro D W hD ⟨v, k0, k1, hB⟩ hK
  have z0 := k0.cell
  have hln := textPre_len ls
  obtain ⟨va, vc, rfl, hsl, -⟩ := slC_of_owns (enc := encSt) (l := textPre ls) (fun _ => rfl) (by rw [hln]; exact k1)
  rw [hln] at hsl z0
  have hl0 : 0 < ls.length := by
   rcases Nat.eq_zero_or_pos ls.length with h | h
   ·rw [labRight, List.length_map, h] at hR; simp at hR
   ·exact h
  have hl6 : ls.length ≤ 6 := by
   rw [labRight, List.length_map] at hR
   simp at hR; omega
  obtain ⟨y, b, off, -, rfl, hbb, -⟩ := hsl.1.at hl0
  have hjc : ∀ (j : Nat) z, (textPre ls)[j]? = some z → W.cell? ⟨b, off + j, none⟩ = some (.string z) := fun j z hz => by
   obtain ⟨b', off', e, -, hc⟩ := hsl.1.2 j z hz
   injection e with e1
   injection e1 with e1 e2
   subst e1; subst e2
   have := hc 0 Nat.one_pos
   rwa [Nat.mul_one, Nat.add_zero] at this
  have hjl := join_len [44] 30064770967 ((textPre ls).map (·.data.toList)) (by
   intro z hz
   simp only [textPre, List.map_map, List.mem_map, Function.comp] at hz
   obtain ⟨u, -, rfl⟩ := hz
   exact labPart_len u)
  have hj := Tryz.strings_Join b off vc (textPre ls) ⟨#[44]⟩ W hjc hbb (by rw [hln]; omega) (by rw [hln]; exact hsl.2.1) (by
   refine Nat.le_trans hjl ?_
   rw [List.length_map, hln]
   exact Nat.le_trans (Nat.mul_le_mul_right (30064770967 + ([44] : List UInt8).length) hl6) (by decide))
  rw [hln] at hj
  have HK := Lib.hid hK
  have HD : Hid (W0.heap.size ≤ D ∧ D < W.heap.size) := ⟨hD, (Array.getElem?_eq_some_iff.1 hK).1⟩
  have hz := hB.size
  clear hjl hjc hl0 hl6 hln k1 k0 hsl hR hL hG hG1 hD hK hsz
  go_wp2_with (go_at_call 72; refine hj.mono ?_; rintro e w3 ⟨rfl, hb3⟩)
  have hK3 := (hb3.block D HD.out.2).trans HK.out
  have hDs : w.heap.size ≤ D := by have := HD.out.1; have := hB0.size; omega
  refine marks_ret1 hK3 (results_tmp2 rfl _ _ _) ⟨rfl, bPutD (hB.trans (hb3.mono hz)) hDs hK3⟩
 case stop =>
  rintro D c pre W hD hp h
  exact h.elim
set_option maxHeartbeats 1000000 in
theorem label_Text_wrong (a0 : Option Addr) (cap : Nat) (ls : List LabK) (w : World) (hL : Labs w.heap.size w (.slice a0 ls.length cap) (ls.map (·.1))) (hG : GW w) (h3 : ls.length < 4294967281) (hR : labRight (ls.map (·.1)) = false) :
  Calls Tryz.prog 35 #[.slice a0 ls.length cap] w fun e w' => e = .returned (.tuple #[.string ⟨#[]⟩, .int .i64 40]) ∧ Below w.heap.size w w' := by
 refine calls_marks Tryz.func35 rfl ?_
 simp only [Tryz.ntmps35, List.size_toArray, List.length_cons, List.length_nil, Nat.reduceAdd, Nat.reduceSub, Array.replicate_succ, Array.replicate_zero, List.push_toArray, List.append_toArray, List.nil_append, List.cons_append]
 go_wp2_with (go_at_call 69; refine (label_Right_any a0 cap ls _ hL hG h3).mono ?_; rw [hR]; rintro e w1 ⟨rfl, hb1⟩)
 exact marks_ret0 (results_tmp2 rfl _ _ _) rfl ⟨rfl, hb1⟩
end Go.Proofs.YthbhmnakmhambaaGreatDoor
namespace Go.Proofs.YthbhmnakmhambaaGreatDoor
open Go Go.RowKit Go.Shelf
def textE (l : List Lab) : Int := if labRight l then 0 else 40
set_option maxHeartbeats 1000000 in
theorem label_Text_nil (a0 : Option Addr) (cap : Nat) (w : World) :
  Calls Tryz.prog 35 #[.slice a0 0 cap] w fun e w' => e = .returned (.tuple #[.string ⟨#[]⟩, .int .i64 40]) ∧ Below w.heap.size w w' := by
 refine calls_marks Tryz.func35 rfl ?_
 simp only [Tryz.ntmps35, List.size_toArray, List.length_cons, List.length_nil, Nat.reduceAdd, Nat.reduceSub, Array.replicate_succ, Array.replicate_zero, List.push_toArray, List.append_toArray, List.nil_append, List.cons_append]
 go_wp2_with (go_at_call 69; refine (label_Right_nil a0 cap _).mono ?_; rintro e w1 ⟨rfl, rfl⟩)
 exact marks_ret0 (results_tmp2 rfl _ _ _) rfl ⟨rfl, Below.refl _ _⟩
theorem label_Text_E (a : Option Addr) (len cap : Nat) (l : List Lab) (w : World) (h : SlE Lab.enc 2 w.heap.size w a len l) (ho : LabsOk l) (hG : GW w) (hm : len < 4294967281) :
  Calls Tryz.prog 35 #[.slice a len cap] w fun e w' => e = .returned (.tuple #[.string (textS l), .int .i64 (textE l)]) ∧ Below w.heap.size w w' := by
 rcases Nat.eq_zero_or_pos len with h0 | h0
 ·subst h0
  obtain rfl : l = [] := List.eq_nil_of_length_eq_zero h.1.symm
  exact label_Text_nil a cap w
 ·have hat := h.to_at (cap := cap) labEnc_len h0
  obtain ⟨ls, rfl⟩ := labK_of l ho
  have hl := h.1
  rw [List.length_map] at hl
  subst hl
  cases hR : labRight (ls.map (·.1)) with
  | true => rw [textS, textE, if_pos hR, if_pos hR]; exact label_Text_right a cap ls w hat hG hm hR
  | false => rw [textS, textE, hR]; exact label_Text_wrong a cap ls w hat hG hm hR
end Go.Proofs.YthbhmnakmhambaaGreatDoor

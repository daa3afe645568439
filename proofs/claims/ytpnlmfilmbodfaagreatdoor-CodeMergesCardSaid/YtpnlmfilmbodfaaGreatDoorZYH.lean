/- Package code: the reader's sketch: printed by wip/tools/gen_yh.py. -/
import Derived.Test.YtpnlmfilmbodfaaGreatDoorZYG
namespace Go.Proofs.YtpnlmfilmbodfaaGreatDoor
open Go Go.RowKit Go.Shelf
theorem und_rds : Tryz.prog.underlying 215 = some (.map 3 143) := by kernel_rfl
def rdsMap (b : Nat) : Array MapEntry := #[{ key := .int .i64 1, val := .func (.func 153) #[.pointer (some ⟨b, 0, none⟩)] #[], born := 0 }, { key := .int .i64 2, val := .func (.func 154) #[.pointer (some ⟨b, 0, none⟩)] #[], born := 1 }, { key := .int .i64 3, val := .func (.func 155) #[.pointer (some ⟨b, 0, none⟩)] #[], born := 2 }]
theorem sk_keep {b : Nat} {V w2 : World} {r : List UInt8} {kind : Int} (hX : V.heap[b]? = some (.cells (rdCells ⟨r.toArray⟩ kind 0 nilS 0 ⟨#[]⟩ 0 0 nilS 0 nilS) 142 (0, 0))) (hk : KeepB b V w2) : w2.cell? ⟨b, 2, none⟩ = some (.int .i64 0) ∧ w2.frozen? ⟨b, 2, none⟩ = false := by
  rcases hk with hk | ⟨s', hk⟩
  · exact ⟨cCc (hk.trans hX) 2, cFz (hk.trans hX) 2⟩
  · exact ⟨cCc (hk.trans (heap_set hX)) 2, cFz (hk.trans (heap_set hX)) 2⟩
set_option maxRecDepth 100000 in
set_option maxHeartbeats 4000000 in
theorem rsketch_1 (b : Nat) (s : ByteArray) (r : List UInt8) (fm ff cm cc : Addr) (w : World) (hX : w.heap[b]? = some (.cells (rdCells s 0 0 nilS 0 ⟨#[]⟩ 0 0 nilS 0 nilS) 142 (0, 0))) (hl : s.size < 4294967281) (hE : ∀ w', Below b w w' → GE fm ff cm cc w') (hbG : 8 ≤ b) (hg : getN s.data.toList = .got 1 r) :
    Calls Tryz.prog 104 #[.pointer (some ⟨b, 0, none⟩)] w (RdPost b cm cc w (skDec s.data.toList)) := by
  have hblt : b < w.heap.size := (Array.getElem?_eq_some_iff.1 hX).1
  have hN := rnumber_any b _ _ s fm ff cm cc w hX rfl hl (hE w (Below.refl _ _))
  unfold skDec
  rw [hg] at hN ⊢
  unfold NumPost at hN
  simp only at hN ⊢
  rw [if_neg (by omega), show bottomB 1 = 4 from rfl]
  have hrl : r.length < 4294967281 := by
    have := (getN_got hg).2
    have h2 : s.data.toList.length = s.size := Array.length_toList
    omega
  have HW1 : Hid (∀ w1, Below w.heap.size (w.setCell ⟨b, 0, none⟩ (.string ⟨r.toArray⟩)) w1 → ∃ V1, w1.setCell ⟨b, 1, none⟩ (.int .i64 1) = V1 ∧ Below b w V1 ∧ w1.cell? ⟨b, 1, none⟩ = some (.int .i64 0) ∧ w1.frozen? ⟨b, 1, none⟩ = false ∧ w.heap.size ≤ V1.heap.size ∧ V1.heap[b]? = some (.cells (rdCells ⟨r.toArray⟩ 1 0 nilS 0 ⟨#[]⟩ 0 0 nilS 0 nilS) 142 (0, 0))) := fun w1 hb => by
    have h1 : w1.heap[b]? = some (.cells (rdCells ⟨r.toArray⟩ 0 0 nilS 0 ⟨#[]⟩ 0 0 nilS 0 nilS) 142 (0, 0)) := (hb.block _ hblt).trans (heap_set hX)
    exact ⟨_, rfl, (((Below.refl b w).setCell (p := ⟨b, 0, none⟩) (Nat.le_refl _) _).trans (hb.mono (by omega))).setCell (p := ⟨b, 1, none⟩) (Nat.le_refl _) _, cCc h1 1, cFz h1 1, by have := hb.size; simp at this ⊢; exact this, heap_set h1⟩
  have HC : Hid (∀ W, W.heap[b]? = some (.cells (rdCells ⟨r.toArray⟩ 1 0 nilS 0 ⟨#[]⟩ 0 0 nilS 0 nilS) 142 (0, 0)) → Below b w W → Calls Tryz.prog 152 #[.pointer (some ⟨b, 0, none⟩), .int .i64 4] W fun e w' => NumPost b cm cc .i64 W (cntG 4 r) e w' ∧ KeepB b W w') := fun W h1 h2 =>
    rcount_keep b _ _ ⟨r.toArray⟩ 4 fm ff cm cc W h1 rfl (by rw [size_list]; exact hrl) (hE W h2) (by omega) (by omega) hbG
  have HE := Lib.hid hE
  clear hX hE hg
  cases hc : cntG 4 r with
  | more =>
    rw [hc] at HC
    unfold NumPost at HC
    simp only at HC ⊢
    clear hc
    go_enter Tryz.func104, Tryz.ntmps104
    go_wp2_with (go_at_call 151; refine hN.mono ?_; rintro e w1 ⟨rfl, hb1⟩; obtain ⟨V1, hV1, hB1, c1, f1, hz1, hX1⟩ := HW1.out w1 hb1)
    have e1 : V1.drew.cell? ⟨b, 1, none⟩ = some (.int .i64 1) := cCc hX1 1
    have hC1 := HC.out V1.drew hX1 hB1.drew
    have HX1 := Lib.hid hX1
    have HZ := Lib.hid (fun w2 (hk : KeepB b V1.drew w2) => sk_keep (V := V1.drew) hX1 hk)
    clear hX1 c1 f1 hV1 hN HC
    refine wp_region_any (by kernel_rfl) ?_
    change wpAny _ _ _ _ _ _ _ (World.drew _)
    refine wpAny_take (i := 0) (v := ?_) rfl (by kernel_rfl) (by kernel_rfl) (by kernel_rfl) (fun _ _ _ h => h) (Or.inl ⟨by rfl, ?_⟩) ?_
    rotate_left
    · intro w; go_simp; with_reducible rfl
    refine wpAny_take (i := 1) (v := ?_) rfl (by kernel_rfl) (by kernel_rfl) (by kernel_rfl) (fun _ _ _ h => h) (Or.inl ⟨by rfl, ?_⟩) ?_
    rotate_left
    · intro w; go_simp; with_reducible rfl
    refine wpAny_take (i := 2) (v := ?_) rfl (by kernel_rfl) (by kernel_rfl) (by kernel_rfl) (fun _ _ _ h => h) (Or.inl ⟨by rfl, ?_⟩) ?_
    rotate_left
    · intro w; go_simp; with_reducible rfl
    refine wpAny_take (i := 3) (v := ?_) rfl (by kernel_rfl) (by kernel_rfl) (by kernel_rfl) (fun _ _ _ h => h) (Or.inl ⟨by rfl, ?_⟩) ?_
    rotate_left
    · intro w; go_simp; with_reducible rfl
    refine wpAny_take (i := 4) (v := ?_) rfl (by kernel_rfl) (by kernel_rfl) (by kernel_rfl) (fun _ _ _ h => h) (Or.inl ⟨by rfl, ?_⟩) ?_
    rotate_left
    · intro w; go_simp; with_reducible rfl
    refine wpAny_take (i := 5) (v := ?_) rfl (by kernel_rfl) (by kernel_rfl) (by kernel_rfl) (fun _ _ _ h => h) (Or.inl ⟨by rfl, ?_⟩) ?_
    rotate_left
    · intro w; go_simp; with_reducible rfl
    refine wpAny_take (i := 6) (v := ?_) rfl (by kernel_rfl) (by kernel_rfl) (by kernel_rfl) (fun _ _ _ h => h) (Or.inl ⟨by rfl, ?_⟩) ?_
    rotate_left
    · intro w; go_simp; with_reducible rfl
    refine wpAny_take (i := 7) (v := ?_) rfl (by kernel_rfl) (by kernel_rfl) (by kernel_rfl) (fun _ _ _ h => h) (Or.inl ⟨by rfl, ?_⟩) ?_
    rotate_left
    · intro w; go_simp; with_reducible rfl
    refine wpAny_ready (rs := [8]) (by kernel_rfl) (by simp) ?_
    refine AllReady.cons rfl (fun K hK => ?_) ?_
    · go_simp
      refine hK _ _ ?_
      clear hK K
      refine wpAny_ready (rs := [9]) (by kernel_rfl) (by simp) ?_
      refine AllReady.cons rfl (fun K hK => ?_) ?_
      · go_simp
        refine (Bottom_any 1 _).mono ?_
        rintro e w5 ⟨rfl, rfl⟩
        refine hK _ _ ?_
        clear hK K
        refine wpAny_ready (rs := [10]) (by kernel_rfl) (by simp) ?_
        refine AllReady.cons rfl (fun K hK => ?_) ?_
        · go_simp
          refine hC1.mono ?_
          rintro e w2 ⟨⟨rfl, hb2⟩, hk2⟩
          obtain ⟨z2, y2⟩ := HZ.out w2 hk2
          refine hK _ _ ?_
          clear hK K
          refine wpAny_take (i := 11) (v := ?_) rfl (by kernel_rfl) (by kernel_rfl) (by kernel_rfl) (fun _ _ _ h => h) (Or.inl ⟨by rfl, ?_⟩) ?_
          rotate_left
          · intro w; go_simp; with_reducible rfl
          refine wpAny_take (i := 12) (v := ?_) rfl (by kernel_rfl) (by kernel_rfl) (by kernel_rfl) (fun _ _ _ h => h) (Or.inl ⟨by rfl, ?_⟩) ?_
          rotate_left
          · intro w; go_simp; with_reducible rfl
          refine wpAny_take (i := 13) (v := ?_) rfl (by kernel_rfl) (by kernel_rfl) (by kernel_rfl) (fun _ _ _ h => h) (Or.inl ⟨by rfl, ?_⟩) ?_
          rotate_left
          · intro w; go_simp; with_reducible rfl
          refine wpAny_take (i := 14) (v := ?_) rfl (by kernel_rfl) (by kernel_rfl) (by kernel_rfl) (fun _ _ _ h => h) (Or.inl ⟨by rfl, ?_⟩) ?_
          rotate_left
          · intro w; go_simp; with_reducible rfl
          refine wpAny_take (i := 15) (v := ?_) rfl (by kernel_rfl) (by kernel_rfl) (by kernel_rfl) (fun _ _ _ h => h) (Or.inl ⟨by rfl, ?_⟩) ?_
          rotate_left
          · intro w; go_simp; with_reducible rfl
          refine wpAny_take (i := 16) (v := ?_) rfl (by kernel_rfl) (by kernel_rfl) (by kernel_rfl) (fun _ _ _ h => h) (Or.inl ⟨by rfl, ?_⟩) ?_
          rotate_left
          · intro w; go_simp; with_reducible rfl
          refine wpAny_ready (rs := [17]) (by kernel_rfl) (by simp) ?_
          refine AllReady.cons rfl (fun K hK => ?_) ?_
          · go_simp
            refine hK _ _ ?_
            clear hK K
            refine wpAny_ready (rs := [18]) (by kernel_rfl) (by simp) ?_
            refine AllReady.cons rfl (fun K hK => ?_) ?_
            · go_simp
              refine hK _ _ ?_
              clear hK K
              refine wpAny_done (by kernel_rfl) ?_ _
              go_wp2_with fail
              go_ret
              unfold RdPost
              exact ⟨hB1.drew.trans (hb2.setCell (p := ⟨b, 2, none⟩) (Nat.le_refl _) _), rfl⟩
            exact AllReady.nil
          exact AllReady.nil
        exact AllReady.nil
      exact AllReady.nil
    exact AllReady.nil
  | bad =>
    rw [hc] at HC
    unfold NumPost at HC
    simp only at HC ⊢
    clear hc
    go_enter Tryz.func104, Tryz.ntmps104
    go_wp2_with (go_at_call 151; refine hN.mono ?_; rintro e w1 ⟨rfl, hb1⟩; obtain ⟨V1, hV1, hB1, c1, f1, hz1, hX1⟩ := HW1.out w1 hb1)
    have e1 : V1.drew.cell? ⟨b, 1, none⟩ = some (.int .i64 1) := cCc hX1 1
    have hC1 := HC.out V1.drew hX1 hB1.drew
    have HX1 := Lib.hid hX1
    have HZ := Lib.hid (fun w2 (hk : KeepB b V1.drew w2) => sk_keep (V := V1.drew) hX1 hk)
    clear hX1 c1 f1 hV1 hN HC
    refine wp_region_any (by kernel_rfl) ?_
    change wpAny _ _ _ _ _ _ _ (World.drew _)
    refine wpAny_take (i := 0) (v := ?_) rfl (by kernel_rfl) (by kernel_rfl) (by kernel_rfl) (fun _ _ _ h => h) (Or.inl ⟨by rfl, ?_⟩) ?_
    rotate_left
    · intro w; go_simp; with_reducible rfl
    refine wpAny_take (i := 1) (v := ?_) rfl (by kernel_rfl) (by kernel_rfl) (by kernel_rfl) (fun _ _ _ h => h) (Or.inl ⟨by rfl, ?_⟩) ?_
    rotate_left
    · intro w; go_simp; with_reducible rfl
    refine wpAny_take (i := 2) (v := ?_) rfl (by kernel_rfl) (by kernel_rfl) (by kernel_rfl) (fun _ _ _ h => h) (Or.inl ⟨by rfl, ?_⟩) ?_
    rotate_left
    · intro w; go_simp; with_reducible rfl
    refine wpAny_take (i := 3) (v := ?_) rfl (by kernel_rfl) (by kernel_rfl) (by kernel_rfl) (fun _ _ _ h => h) (Or.inl ⟨by rfl, ?_⟩) ?_
    rotate_left
    · intro w; go_simp; with_reducible rfl
    refine wpAny_take (i := 4) (v := ?_) rfl (by kernel_rfl) (by kernel_rfl) (by kernel_rfl) (fun _ _ _ h => h) (Or.inl ⟨by rfl, ?_⟩) ?_
    rotate_left
    · intro w; go_simp; with_reducible rfl
    refine wpAny_take (i := 5) (v := ?_) rfl (by kernel_rfl) (by kernel_rfl) (by kernel_rfl) (fun _ _ _ h => h) (Or.inl ⟨by rfl, ?_⟩) ?_
    rotate_left
    · intro w; go_simp; with_reducible rfl
    refine wpAny_take (i := 6) (v := ?_) rfl (by kernel_rfl) (by kernel_rfl) (by kernel_rfl) (fun _ _ _ h => h) (Or.inl ⟨by rfl, ?_⟩) ?_
    rotate_left
    · intro w; go_simp; with_reducible rfl
    refine wpAny_take (i := 7) (v := ?_) rfl (by kernel_rfl) (by kernel_rfl) (by kernel_rfl) (fun _ _ _ h => h) (Or.inl ⟨by rfl, ?_⟩) ?_
    rotate_left
    · intro w; go_simp; with_reducible rfl
    refine wpAny_ready (rs := [8]) (by kernel_rfl) (by simp) ?_
    refine AllReady.cons rfl (fun K hK => ?_) ?_
    · go_simp
      refine hK _ _ ?_
      clear hK K
      refine wpAny_ready (rs := [9]) (by kernel_rfl) (by simp) ?_
      refine AllReady.cons rfl (fun K hK => ?_) ?_
      · go_simp
        refine (Bottom_any 1 _).mono ?_
        rintro e w5 ⟨rfl, rfl⟩
        refine hK _ _ ?_
        clear hK K
        refine wpAny_ready (rs := [10]) (by kernel_rfl) (by simp) ?_
        refine AllReady.cons rfl (fun K hK => ?_) ?_
        · go_simp
          refine hC1.mono ?_
          rintro e w2 ⟨⟨rfl, hb2⟩, hk2⟩
          obtain ⟨z2, y2⟩ := HZ.out w2 hk2
          refine hK _ _ ?_
          clear hK K
          refine wpAny_take (i := 11) (v := ?_) rfl (by kernel_rfl) (by kernel_rfl) (by kernel_rfl) (fun _ _ _ h => h) (Or.inl ⟨by rfl, ?_⟩) ?_
          rotate_left
          · intro w; go_simp; with_reducible rfl
          refine wpAny_take (i := 12) (v := ?_) rfl (by kernel_rfl) (by kernel_rfl) (by kernel_rfl) (fun _ _ _ h => h) (Or.inl ⟨by rfl, ?_⟩) ?_
          rotate_left
          · intro w; go_simp; with_reducible rfl
          refine wpAny_take (i := 13) (v := ?_) rfl (by kernel_rfl) (by kernel_rfl) (by kernel_rfl) (fun _ _ _ h => h) (Or.inl ⟨by rfl, ?_⟩) ?_
          rotate_left
          · intro w; go_simp; with_reducible rfl
          refine wpAny_take (i := 14) (v := ?_) rfl (by kernel_rfl) (by kernel_rfl) (by kernel_rfl) (fun _ _ _ h => h) (Or.inl ⟨by rfl, ?_⟩) ?_
          rotate_left
          · intro w; go_simp; with_reducible rfl
          refine wpAny_take (i := 15) (v := ?_) rfl (by kernel_rfl) (by kernel_rfl) (by kernel_rfl) (fun _ _ _ h => h) (Or.inl ⟨by rfl, ?_⟩) ?_
          rotate_left
          · intro w; go_simp; with_reducible rfl
          refine wpAny_take (i := 16) (v := ?_) rfl (by kernel_rfl) (by kernel_rfl) (by kernel_rfl) (fun _ _ _ h => h) (Or.inl ⟨by rfl, ?_⟩) ?_
          rotate_left
          · intro w; go_simp; with_reducible rfl
          refine wpAny_ready (rs := [17]) (by kernel_rfl) (by simp) ?_
          refine AllReady.cons rfl (fun K hK => ?_) ?_
          · go_simp
            refine hK _ _ ?_
            clear hK K
            refine wpAny_ready (rs := [18]) (by kernel_rfl) (by simp) ?_
            refine AllReady.cons rfl (fun K hK => ?_) ?_
            · go_simp
              refine hK _ _ ?_
              clear hK K
              refine wpAny_done (by kernel_rfl) ?_ _
              go_wp2_with fail
              go_ret
              unfold RdPost
              exact ⟨hB1.drew.trans (hb2.setCell (p := ⟨b, 2, none⟩) (Nat.le_refl _) _), rfl⟩
            exact AllReady.nil
          exact AllReady.nil
        exact AllReady.nil
      exact AllReady.nil
    exact AllReady.nil
  | got level r2 =>
    rw [hc] at HC
    unfold NumPost at HC
    simp only at HC ⊢
    obtain ⟨hv0, hv1, hr2⟩ := cntG_got hc
    have HR2 : Hid (r2.length < 4294967281) := Nat.lt_trans hr2 hrl
    clear hc hr2
    go_enter Tryz.func104, Tryz.ntmps104
    go_wp2_with (go_at_call 151; refine hN.mono ?_; rintro e w1 ⟨rfl, hb1⟩; obtain ⟨V1, hV1, hB1, c1, f1, hz1, hX1⟩ := HW1.out w1 hb1)
    have e1 : V1.drew.cell? ⟨b, 1, none⟩ = some (.int .i64 1) := cCc hX1 1
    have hC1 := HC.out V1.drew hX1 hB1.drew
    have HX1 := Lib.hid hX1
    have HZ := Lib.hid (fun w2 (hk : KeepB b V1.drew w2) => sk_keep (V := V1.drew) hX1 hk)
    clear hX1 c1 f1 hV1 hN HC
    refine wp_region_any (by kernel_rfl) ?_
    change wpAny _ _ _ _ _ _ _ (World.drew _)
    refine wpAny_take (i := 0) (v := ?_) rfl (by kernel_rfl) (by kernel_rfl) (by kernel_rfl) (fun _ _ _ h => h) (Or.inl ⟨by rfl, ?_⟩) ?_
    rotate_left
    · intro w; go_simp; with_reducible rfl
    refine wpAny_take (i := 1) (v := ?_) rfl (by kernel_rfl) (by kernel_rfl) (by kernel_rfl) (fun _ _ _ h => h) (Or.inl ⟨by rfl, ?_⟩) ?_
    rotate_left
    · intro w; go_simp; with_reducible rfl
    refine wpAny_take (i := 2) (v := ?_) rfl (by kernel_rfl) (by kernel_rfl) (by kernel_rfl) (fun _ _ _ h => h) (Or.inl ⟨by rfl, ?_⟩) ?_
    rotate_left
    · intro w; go_simp; with_reducible rfl
    refine wpAny_take (i := 3) (v := ?_) rfl (by kernel_rfl) (by kernel_rfl) (by kernel_rfl) (fun _ _ _ h => h) (Or.inl ⟨by rfl, ?_⟩) ?_
    rotate_left
    · intro w; go_simp; with_reducible rfl
    refine wpAny_take (i := 4) (v := ?_) rfl (by kernel_rfl) (by kernel_rfl) (by kernel_rfl) (fun _ _ _ h => h) (Or.inl ⟨by rfl, ?_⟩) ?_
    rotate_left
    · intro w; go_simp; with_reducible rfl
    refine wpAny_take (i := 5) (v := ?_) rfl (by kernel_rfl) (by kernel_rfl) (by kernel_rfl) (fun _ _ _ h => h) (Or.inl ⟨by rfl, ?_⟩) ?_
    rotate_left
    · intro w; go_simp; with_reducible rfl
    refine wpAny_take (i := 6) (v := ?_) rfl (by kernel_rfl) (by kernel_rfl) (by kernel_rfl) (fun _ _ _ h => h) (Or.inl ⟨by rfl, ?_⟩) ?_
    rotate_left
    · intro w; go_simp; with_reducible rfl
    refine wpAny_take (i := 7) (v := ?_) rfl (by kernel_rfl) (by kernel_rfl) (by kernel_rfl) (fun _ _ _ h => h) (Or.inl ⟨by rfl, ?_⟩) ?_
    rotate_left
    · intro w; go_simp; with_reducible rfl
    refine wpAny_ready (rs := [8]) (by kernel_rfl) (by simp) ?_
    refine AllReady.cons rfl (fun K hK => ?_) ?_
    · go_simp
      refine hK _ _ ?_
      clear hK K
      refine wpAny_ready (rs := [9]) (by kernel_rfl) (by simp) ?_
      refine AllReady.cons rfl (fun K hK => ?_) ?_
      · go_simp
        refine (Bottom_any 1 _).mono ?_
        rintro e w5 ⟨rfl, rfl⟩
        refine hK _ _ ?_
        clear hK K
        refine wpAny_ready (rs := [10]) (by kernel_rfl) (by simp) ?_
        refine AllReady.cons rfl (fun K hK => ?_) ?_
        · go_simp
          refine hC1.mono ?_
          rintro e w2 ⟨⟨rfl, hb2⟩, hk2⟩
          obtain ⟨z2, y2⟩ := HZ.out w2 hk2
          refine hK _ _ ?_
          clear hK K
          refine wpAny_take (i := 11) (v := ?_) rfl (by kernel_rfl) (by kernel_rfl) (by kernel_rfl) (fun _ _ _ h => h) (Or.inl ⟨by rfl, ?_⟩) ?_
          rotate_left
          · intro w; go_simp; with_reducible rfl
          refine wpAny_take (i := 12) (v := ?_) rfl (by kernel_rfl) (by kernel_rfl) (by kernel_rfl) (fun _ _ _ h => h) (Or.inl ⟨by rfl, ?_⟩) ?_
          rotate_left
          · intro w; go_simp; with_reducible rfl
          refine wpAny_take (i := 13) (v := ?_) rfl (by kernel_rfl) (by kernel_rfl) (by kernel_rfl) (fun _ _ _ h => h) (Or.inl ⟨by rfl, ?_⟩) ?_
          rotate_left
          · intro w; go_simp; with_reducible rfl
          refine wpAny_take (i := 14) (v := ?_) rfl (by kernel_rfl) (by kernel_rfl) (by kernel_rfl) (fun _ _ _ h => h) (Or.inl ⟨by rfl, ?_⟩) ?_
          rotate_left
          · intro w; go_simp; with_reducible rfl
          refine wpAny_take (i := 15) (v := ?_) rfl (by kernel_rfl) (by kernel_rfl) (by kernel_rfl) (fun _ _ _ h => h) (Or.inl ⟨by rfl, ?_⟩) ?_
          rotate_left
          · intro w; go_simp; with_reducible rfl
          refine wpAny_take (i := 16) (v := ?_) rfl (by kernel_rfl) (by kernel_rfl) (by kernel_rfl) (fun _ _ _ h => h) (Or.inl ⟨by rfl, ?_⟩) ?_
          rotate_left
          · intro w; go_simp; with_reducible rfl
          refine wpAny_ready (rs := [17]) (by kernel_rfl) (by simp) ?_
          refine AllReady.cons rfl (fun K hK => ?_) ?_
          · go_simp
            refine hK _ _ ?_
            clear hK K
            refine wpAny_ready (rs := [18]) (by kernel_rfl) (by simp) ?_
            refine AllReady.cons rfl (fun K hK => ?_) ?_
            · go_simp
              refine hK _ _ ?_
              clear hK K
              refine wpAny_done (by kernel_rfl) ?_ _
              obtain ⟨V2, hV2⟩ : ∃ V2, w2.setCell ⟨b, 2, none⟩ (.int .i64 level) = V2 := ⟨_, rfl⟩
              rw [hV2]
              have hbz : b < V1.drew.heap.size := (Array.getElem?_eq_some_iff.1 HX1.out).1
              have hX2 : V2.heap[b]? = some (.cells (rdCells ⟨r2.toArray⟩ 1 level nilS 0 ⟨#[]⟩ 0 0 nilS 0 nilS) 142 (0, 0)) := by rw [← hV2]; exact heap_set ((hb2.block _ hbz).trans (heap_set (w := V1.drew) HX1.out))
              have hB2 : Below b w V2 := by rw [← hV2]; exact (hB1.drew.trans (((Below.refl b V1.drew).setCell (p := ⟨b, 0, none⟩) (Nat.le_refl _) _).trans (hb2.mono (by omega)))).setCell (p := ⟨b, 2, none⟩) (Nat.le_refl _) _
              have hbz2 : b < V2.heap.size := (Array.getElem?_eq_some_iff.1 hX2).1
              have hmm := @run_makeMap Tryz.prog
              have u1 := mapUpd_alloc (P := Tryz.prog) V2 (clock := 0) (es := #[]) (n := 1) (.func (.func 153) #[.pointer (some ⟨b, 0, none⟩)] #[]) und_rds Tryz.underlying3 rfl
              have u2 := mapUpd_alloc (P := Tryz.prog) V2 (clock := 1) (es := #[{ key := .int .i64 1, val := .func (.func 153) #[.pointer (some ⟨b, 0, none⟩)] #[], born := 0 }]) (n := 2) (.func (.func 154) #[.pointer (some ⟨b, 0, none⟩)] #[]) und_rds Tryz.underlying3 rfl
              have u3 := mapUpd_alloc (P := Tryz.prog) V2 (clock := 2) (es := #[{ key := .int .i64 1, val := .func (.func 153) #[.pointer (some ⟨b, 0, none⟩)] #[], born := 0 }, { key := .int .i64 2, val := .func (.func 154) #[.pointer (some ⟨b, 0, none⟩)] #[], born := 1 }]) (n := 3) (.func (.func 155) #[.pointer (some ⟨b, 0, none⟩)] #[]) und_rds Tryz.underlying3 rfl
              simp only [List.push_toArray, List.nil_append, List.cons_append, Nat.zero_add, Nat.reduceAdd] at u1 u2 u3
              obtain ⟨M, hM⟩ : ∃ M, V2.alloc (.map (rdsMap b) 3) = M := ⟨_, rfl⟩
              have hMa : M.heap[V2.heap.size]? = some (.map (rdsMap b) 3) := by rw [← hM]; exact World.alloc_heap_new _ _
              have hXM : M.heap[b]? = some (.cells (rdCells ⟨r2.toArray⟩ 1 level nilS 0 ⟨#[]⟩ 0 0 nilS 0 nilS) 142 (0, 0)) := by rw [← hM]; exact (Below.heap_alloc _ _ _ hbz2).trans hX2
              have hBM : Below b w M := by rw [← hM]; exact hB2.alloc (by omega) _
              have m1 : M.cell? ⟨b, 1, none⟩ = some (.int .i64 1) := cCc hXM 1
              have hlk := (look_int (P := Tryz.prog) (i := 0) und_rds Tryz.underlying3 (n := 1) hMa rfl).2
              have hR := rdistinct_any b ⟨r2.toArray⟩ level fm ff cm cc M hXM (by rw [size_list]; exact HR2.out) (fun w' hb => HE.out w' (hBM.trans hb)) hbG hv0 hv1
              have hR2 := hR.mono (fun e w' h => And.intro h.ret h)
              unfold rdsMap at hM
              clear hX2 hXM hMa hR HX1 HZ hC1 HE z2 y2 hb2 hk2 hV2 e1 HW1
              go_wp2_with (go_at_call 153; refine hR2.mono ?_; rintro e w7 ⟨⟨v, rfl⟩, hp⟩)
              go_ret
              exact hp.from hBM
            exact AllReady.nil
          exact AllReady.nil
        exact AllReady.nil
      exact AllReady.nil
    exact AllReady.nil
set_option maxRecDepth 100000 in
set_option maxHeartbeats 4000000 in
theorem rsketch_2 (b : Nat) (s : ByteArray) (r : List UInt8) (fm ff cm cc : Addr) (w : World) (hX : w.heap[b]? = some (.cells (rdCells s 0 0 nilS 0 ⟨#[]⟩ 0 0 nilS 0 nilS) 142 (0, 0))) (hl : s.size < 4294967281) (hE : ∀ w', Below b w w' → GE fm ff cm cc w') (hbG : 8 ≤ b) (hg : getN s.data.toList = .got 2 r) :
    Calls Tryz.prog 104 #[.pointer (some ⟨b, 0, none⟩)] w (RdPost b cm cc w (skDec s.data.toList)) := by
  have hblt : b < w.heap.size := (Array.getElem?_eq_some_iff.1 hX).1
  have hN := rnumber_any b _ _ s fm ff cm cc w hX rfl hl (hE w (Below.refl _ _))
  unfold skDec
  rw [hg] at hN ⊢
  unfold NumPost at hN
  simp only at hN ⊢
  rw [if_neg (by omega), show bottomB 2 = 3 from rfl]
  have hrl : r.length < 4294967281 := by
    have := (getN_got hg).2
    have h2 : s.data.toList.length = s.size := Array.length_toList
    omega
  have HW1 : Hid (∀ w1, Below w.heap.size (w.setCell ⟨b, 0, none⟩ (.string ⟨r.toArray⟩)) w1 → ∃ V1, w1.setCell ⟨b, 1, none⟩ (.int .i64 2) = V1 ∧ Below b w V1 ∧ w1.cell? ⟨b, 1, none⟩ = some (.int .i64 0) ∧ w1.frozen? ⟨b, 1, none⟩ = false ∧ w.heap.size ≤ V1.heap.size ∧ V1.heap[b]? = some (.cells (rdCells ⟨r.toArray⟩ 2 0 nilS 0 ⟨#[]⟩ 0 0 nilS 0 nilS) 142 (0, 0))) := fun w1 hb => by
    have h1 : w1.heap[b]? = some (.cells (rdCells ⟨r.toArray⟩ 0 0 nilS 0 ⟨#[]⟩ 0 0 nilS 0 nilS) 142 (0, 0)) := (hb.block _ hblt).trans (heap_set hX)
    exact ⟨_, rfl, (((Below.refl b w).setCell (p := ⟨b, 0, none⟩) (Nat.le_refl _) _).trans (hb.mono (by omega))).setCell (p := ⟨b, 1, none⟩) (Nat.le_refl _) _, cCc h1 1, cFz h1 1, by have := hb.size; simp at this ⊢; exact this, heap_set h1⟩
  have HC : Hid (∀ W, W.heap[b]? = some (.cells (rdCells ⟨r.toArray⟩ 2 0 nilS 0 ⟨#[]⟩ 0 0 nilS 0 nilS) 142 (0, 0)) → Below b w W → Calls Tryz.prog 152 #[.pointer (some ⟨b, 0, none⟩), .int .i64 3] W fun e w' => NumPost b cm cc .i64 W (cntG 3 r) e w' ∧ KeepB b W w') := fun W h1 h2 =>
    rcount_keep b _ _ ⟨r.toArray⟩ 3 fm ff cm cc W h1 rfl (by rw [size_list]; exact hrl) (hE W h2) (by omega) (by omega) hbG
  have HE := Lib.hid hE
  clear hX hE hg
  cases hc : cntG 3 r with
  | more =>
    rw [hc] at HC
    unfold NumPost at HC
    simp only at HC ⊢
    clear hc
    go_enter Tryz.func104, Tryz.ntmps104
    go_wp2_with (go_at_call 151; refine hN.mono ?_; rintro e w1 ⟨rfl, hb1⟩; obtain ⟨V1, hV1, hB1, c1, f1, hz1, hX1⟩ := HW1.out w1 hb1)
    have e1 : V1.drew.cell? ⟨b, 1, none⟩ = some (.int .i64 2) := cCc hX1 1
    have hC1 := HC.out V1.drew hX1 hB1.drew
    have HX1 := Lib.hid hX1
    have HZ := Lib.hid (fun w2 (hk : KeepB b V1.drew w2) => sk_keep (V := V1.drew) hX1 hk)
    clear hX1 c1 f1 hV1 hN HC
    refine wp_region_any (by kernel_rfl) ?_
    change wpAny _ _ _ _ _ _ _ (World.drew _)
    refine wpAny_take (i := 0) (v := ?_) rfl (by kernel_rfl) (by kernel_rfl) (by kernel_rfl) (fun _ _ _ h => h) (Or.inl ⟨by rfl, ?_⟩) ?_
    rotate_left
    · intro w; go_simp; with_reducible rfl
    refine wpAny_take (i := 1) (v := ?_) rfl (by kernel_rfl) (by kernel_rfl) (by kernel_rfl) (fun _ _ _ h => h) (Or.inl ⟨by rfl, ?_⟩) ?_
    rotate_left
    · intro w; go_simp; with_reducible rfl
    refine wpAny_take (i := 2) (v := ?_) rfl (by kernel_rfl) (by kernel_rfl) (by kernel_rfl) (fun _ _ _ h => h) (Or.inl ⟨by rfl, ?_⟩) ?_
    rotate_left
    · intro w; go_simp; with_reducible rfl
    refine wpAny_take (i := 3) (v := ?_) rfl (by kernel_rfl) (by kernel_rfl) (by kernel_rfl) (fun _ _ _ h => h) (Or.inl ⟨by rfl, ?_⟩) ?_
    rotate_left
    · intro w; go_simp; with_reducible rfl
    refine wpAny_take (i := 4) (v := ?_) rfl (by kernel_rfl) (by kernel_rfl) (by kernel_rfl) (fun _ _ _ h => h) (Or.inl ⟨by rfl, ?_⟩) ?_
    rotate_left
    · intro w; go_simp; with_reducible rfl
    refine wpAny_take (i := 5) (v := ?_) rfl (by kernel_rfl) (by kernel_rfl) (by kernel_rfl) (fun _ _ _ h => h) (Or.inl ⟨by rfl, ?_⟩) ?_
    rotate_left
    · intro w; go_simp; with_reducible rfl
    refine wpAny_take (i := 6) (v := ?_) rfl (by kernel_rfl) (by kernel_rfl) (by kernel_rfl) (fun _ _ _ h => h) (Or.inl ⟨by rfl, ?_⟩) ?_
    rotate_left
    · intro w; go_simp; with_reducible rfl
    refine wpAny_take (i := 7) (v := ?_) rfl (by kernel_rfl) (by kernel_rfl) (by kernel_rfl) (fun _ _ _ h => h) (Or.inl ⟨by rfl, ?_⟩) ?_
    rotate_left
    · intro w; go_simp; with_reducible rfl
    refine wpAny_ready (rs := [8]) (by kernel_rfl) (by simp) ?_
    refine AllReady.cons rfl (fun K hK => ?_) ?_
    · go_simp
      refine hK _ _ ?_
      clear hK K
      refine wpAny_ready (rs := [9]) (by kernel_rfl) (by simp) ?_
      refine AllReady.cons rfl (fun K hK => ?_) ?_
      · go_simp
        refine (Bottom_any 2 _).mono ?_
        rintro e w5 ⟨rfl, rfl⟩
        refine hK _ _ ?_
        clear hK K
        refine wpAny_ready (rs := [10]) (by kernel_rfl) (by simp) ?_
        refine AllReady.cons rfl (fun K hK => ?_) ?_
        · go_simp
          refine hC1.mono ?_
          rintro e w2 ⟨⟨rfl, hb2⟩, hk2⟩
          obtain ⟨z2, y2⟩ := HZ.out w2 hk2
          refine hK _ _ ?_
          clear hK K
          refine wpAny_take (i := 11) (v := ?_) rfl (by kernel_rfl) (by kernel_rfl) (by kernel_rfl) (fun _ _ _ h => h) (Or.inl ⟨by rfl, ?_⟩) ?_
          rotate_left
          · intro w; go_simp; with_reducible rfl
          refine wpAny_take (i := 12) (v := ?_) rfl (by kernel_rfl) (by kernel_rfl) (by kernel_rfl) (fun _ _ _ h => h) (Or.inl ⟨by rfl, ?_⟩) ?_
          rotate_left
          · intro w; go_simp; with_reducible rfl
          refine wpAny_take (i := 13) (v := ?_) rfl (by kernel_rfl) (by kernel_rfl) (by kernel_rfl) (fun _ _ _ h => h) (Or.inl ⟨by rfl, ?_⟩) ?_
          rotate_left
          · intro w; go_simp; with_reducible rfl
          refine wpAny_take (i := 14) (v := ?_) rfl (by kernel_rfl) (by kernel_rfl) (by kernel_rfl) (fun _ _ _ h => h) (Or.inl ⟨by rfl, ?_⟩) ?_
          rotate_left
          · intro w; go_simp; with_reducible rfl
          refine wpAny_take (i := 15) (v := ?_) rfl (by kernel_rfl) (by kernel_rfl) (by kernel_rfl) (fun _ _ _ h => h) (Or.inl ⟨by rfl, ?_⟩) ?_
          rotate_left
          · intro w; go_simp; with_reducible rfl
          refine wpAny_take (i := 16) (v := ?_) rfl (by kernel_rfl) (by kernel_rfl) (by kernel_rfl) (fun _ _ _ h => h) (Or.inl ⟨by rfl, ?_⟩) ?_
          rotate_left
          · intro w; go_simp; with_reducible rfl
          refine wpAny_ready (rs := [17]) (by kernel_rfl) (by simp) ?_
          refine AllReady.cons rfl (fun K hK => ?_) ?_
          · go_simp
            refine hK _ _ ?_
            clear hK K
            refine wpAny_ready (rs := [18]) (by kernel_rfl) (by simp) ?_
            refine AllReady.cons rfl (fun K hK => ?_) ?_
            · go_simp
              refine hK _ _ ?_
              clear hK K
              refine wpAny_done (by kernel_rfl) ?_ _
              go_wp2_with fail
              go_ret
              unfold RdPost
              exact ⟨hB1.drew.trans (hb2.setCell (p := ⟨b, 2, none⟩) (Nat.le_refl _) _), rfl⟩
            exact AllReady.nil
          exact AllReady.nil
        exact AllReady.nil
      exact AllReady.nil
    exact AllReady.nil
  | bad =>
    rw [hc] at HC
    unfold NumPost at HC
    simp only at HC ⊢
    clear hc
    go_enter Tryz.func104, Tryz.ntmps104
    go_wp2_with (go_at_call 151; refine hN.mono ?_; rintro e w1 ⟨rfl, hb1⟩; obtain ⟨V1, hV1, hB1, c1, f1, hz1, hX1⟩ := HW1.out w1 hb1)
    have e1 : V1.drew.cell? ⟨b, 1, none⟩ = some (.int .i64 2) := cCc hX1 1
    have hC1 := HC.out V1.drew hX1 hB1.drew
    have HX1 := Lib.hid hX1
    have HZ := Lib.hid (fun w2 (hk : KeepB b V1.drew w2) => sk_keep (V := V1.drew) hX1 hk)
    clear hX1 c1 f1 hV1 hN HC
    refine wp_region_any (by kernel_rfl) ?_
    change wpAny _ _ _ _ _ _ _ (World.drew _)
    refine wpAny_take (i := 0) (v := ?_) rfl (by kernel_rfl) (by kernel_rfl) (by kernel_rfl) (fun _ _ _ h => h) (Or.inl ⟨by rfl, ?_⟩) ?_
    rotate_left
    · intro w; go_simp; with_reducible rfl
    refine wpAny_take (i := 1) (v := ?_) rfl (by kernel_rfl) (by kernel_rfl) (by kernel_rfl) (fun _ _ _ h => h) (Or.inl ⟨by rfl, ?_⟩) ?_
    rotate_left
    · intro w; go_simp; with_reducible rfl
    refine wpAny_take (i := 2) (v := ?_) rfl (by kernel_rfl) (by kernel_rfl) (by kernel_rfl) (fun _ _ _ h => h) (Or.inl ⟨by rfl, ?_⟩) ?_
    rotate_left
    · intro w; go_simp; with_reducible rfl
    refine wpAny_take (i := 3) (v := ?_) rfl (by kernel_rfl) (by kernel_rfl) (by kernel_rfl) (fun _ _ _ h => h) (Or.inl ⟨by rfl, ?_⟩) ?_
    rotate_left
    · intro w; go_simp; with_reducible rfl
    refine wpAny_take (i := 4) (v := ?_) rfl (by kernel_rfl) (by kernel_rfl) (by kernel_rfl) (fun _ _ _ h => h) (Or.inl ⟨by rfl, ?_⟩) ?_
    rotate_left
    · intro w; go_simp; with_reducible rfl
    refine wpAny_take (i := 5) (v := ?_) rfl (by kernel_rfl) (by kernel_rfl) (by kernel_rfl) (fun _ _ _ h => h) (Or.inl ⟨by rfl, ?_⟩) ?_
    rotate_left
    · intro w; go_simp; with_reducible rfl
    refine wpAny_take (i := 6) (v := ?_) rfl (by kernel_rfl) (by kernel_rfl) (by kernel_rfl) (fun _ _ _ h => h) (Or.inl ⟨by rfl, ?_⟩) ?_
    rotate_left
    · intro w; go_simp; with_reducible rfl
    refine wpAny_take (i := 7) (v := ?_) rfl (by kernel_rfl) (by kernel_rfl) (by kernel_rfl) (fun _ _ _ h => h) (Or.inl ⟨by rfl, ?_⟩) ?_
    rotate_left
    · intro w; go_simp; with_reducible rfl
    refine wpAny_ready (rs := [8]) (by kernel_rfl) (by simp) ?_
    refine AllReady.cons rfl (fun K hK => ?_) ?_
    · go_simp
      refine hK _ _ ?_
      clear hK K
      refine wpAny_ready (rs := [9]) (by kernel_rfl) (by simp) ?_
      refine AllReady.cons rfl (fun K hK => ?_) ?_
      · go_simp
        refine (Bottom_any 2 _).mono ?_
        rintro e w5 ⟨rfl, rfl⟩
        refine hK _ _ ?_
        clear hK K
        refine wpAny_ready (rs := [10]) (by kernel_rfl) (by simp) ?_
        refine AllReady.cons rfl (fun K hK => ?_) ?_
        · go_simp
          refine hC1.mono ?_
          rintro e w2 ⟨⟨rfl, hb2⟩, hk2⟩
          obtain ⟨z2, y2⟩ := HZ.out w2 hk2
          refine hK _ _ ?_
          clear hK K
          refine wpAny_take (i := 11) (v := ?_) rfl (by kernel_rfl) (by kernel_rfl) (by kernel_rfl) (fun _ _ _ h => h) (Or.inl ⟨by rfl, ?_⟩) ?_
          rotate_left
          · intro w; go_simp; with_reducible rfl
          refine wpAny_take (i := 12) (v := ?_) rfl (by kernel_rfl) (by kernel_rfl) (by kernel_rfl) (fun _ _ _ h => h) (Or.inl ⟨by rfl, ?_⟩) ?_
          rotate_left
          · intro w; go_simp; with_reducible rfl
          refine wpAny_take (i := 13) (v := ?_) rfl (by kernel_rfl) (by kernel_rfl) (by kernel_rfl) (fun _ _ _ h => h) (Or.inl ⟨by rfl, ?_⟩) ?_
          rotate_left
          · intro w; go_simp; with_reducible rfl
          refine wpAny_take (i := 14) (v := ?_) rfl (by kernel_rfl) (by kernel_rfl) (by kernel_rfl) (fun _ _ _ h => h) (Or.inl ⟨by rfl, ?_⟩) ?_
          rotate_left
          · intro w; go_simp; with_reducible rfl
          refine wpAny_take (i := 15) (v := ?_) rfl (by kernel_rfl) (by kernel_rfl) (by kernel_rfl) (fun _ _ _ h => h) (Or.inl ⟨by rfl, ?_⟩) ?_
          rotate_left
          · intro w; go_simp; with_reducible rfl
          refine wpAny_take (i := 16) (v := ?_) rfl (by kernel_rfl) (by kernel_rfl) (by kernel_rfl) (fun _ _ _ h => h) (Or.inl ⟨by rfl, ?_⟩) ?_
          rotate_left
          · intro w; go_simp; with_reducible rfl
          refine wpAny_ready (rs := [17]) (by kernel_rfl) (by simp) ?_
          refine AllReady.cons rfl (fun K hK => ?_) ?_
          · go_simp
            refine hK _ _ ?_
            clear hK K
            refine wpAny_ready (rs := [18]) (by kernel_rfl) (by simp) ?_
            refine AllReady.cons rfl (fun K hK => ?_) ?_
            · go_simp
              refine hK _ _ ?_
              clear hK K
              refine wpAny_done (by kernel_rfl) ?_ _
              go_wp2_with fail
              go_ret
              unfold RdPost
              exact ⟨hB1.drew.trans (hb2.setCell (p := ⟨b, 2, none⟩) (Nat.le_refl _) _), rfl⟩
            exact AllReady.nil
          exact AllReady.nil
        exact AllReady.nil
      exact AllReady.nil
    exact AllReady.nil
  | got level r2 =>
    rw [hc] at HC
    unfold NumPost at HC
    simp only at HC ⊢
    obtain ⟨hv0, hv1, hr2⟩ := cntG_got hc
    have HR2 : Hid (r2.length < 4294967281) := Nat.lt_trans hr2 hrl
    clear hc hr2
    go_enter Tryz.func104, Tryz.ntmps104
    go_wp2_with (go_at_call 151; refine hN.mono ?_; rintro e w1 ⟨rfl, hb1⟩; obtain ⟨V1, hV1, hB1, c1, f1, hz1, hX1⟩ := HW1.out w1 hb1)
    have e1 : V1.drew.cell? ⟨b, 1, none⟩ = some (.int .i64 2) := cCc hX1 1
    have hC1 := HC.out V1.drew hX1 hB1.drew
    have HX1 := Lib.hid hX1
    have HZ := Lib.hid (fun w2 (hk : KeepB b V1.drew w2) => sk_keep (V := V1.drew) hX1 hk)
    clear hX1 c1 f1 hV1 hN HC
    refine wp_region_any (by kernel_rfl) ?_
    change wpAny _ _ _ _ _ _ _ (World.drew _)
    refine wpAny_take (i := 0) (v := ?_) rfl (by kernel_rfl) (by kernel_rfl) (by kernel_rfl) (fun _ _ _ h => h) (Or.inl ⟨by rfl, ?_⟩) ?_
    rotate_left
    · intro w; go_simp; with_reducible rfl
    refine wpAny_take (i := 1) (v := ?_) rfl (by kernel_rfl) (by kernel_rfl) (by kernel_rfl) (fun _ _ _ h => h) (Or.inl ⟨by rfl, ?_⟩) ?_
    rotate_left
    · intro w; go_simp; with_reducible rfl
    refine wpAny_take (i := 2) (v := ?_) rfl (by kernel_rfl) (by kernel_rfl) (by kernel_rfl) (fun _ _ _ h => h) (Or.inl ⟨by rfl, ?_⟩) ?_
    rotate_left
    · intro w; go_simp; with_reducible rfl
    refine wpAny_take (i := 3) (v := ?_) rfl (by kernel_rfl) (by kernel_rfl) (by kernel_rfl) (fun _ _ _ h => h) (Or.inl ⟨by rfl, ?_⟩) ?_
    rotate_left
    · intro w; go_simp; with_reducible rfl
    refine wpAny_take (i := 4) (v := ?_) rfl (by kernel_rfl) (by kernel_rfl) (by kernel_rfl) (fun _ _ _ h => h) (Or.inl ⟨by rfl, ?_⟩) ?_
    rotate_left
    · intro w; go_simp; with_reducible rfl
    refine wpAny_take (i := 5) (v := ?_) rfl (by kernel_rfl) (by kernel_rfl) (by kernel_rfl) (fun _ _ _ h => h) (Or.inl ⟨by rfl, ?_⟩) ?_
    rotate_left
    · intro w; go_simp; with_reducible rfl
    refine wpAny_take (i := 6) (v := ?_) rfl (by kernel_rfl) (by kernel_rfl) (by kernel_rfl) (fun _ _ _ h => h) (Or.inl ⟨by rfl, ?_⟩) ?_
    rotate_left
    · intro w; go_simp; with_reducible rfl
    refine wpAny_take (i := 7) (v := ?_) rfl (by kernel_rfl) (by kernel_rfl) (by kernel_rfl) (fun _ _ _ h => h) (Or.inl ⟨by rfl, ?_⟩) ?_
    rotate_left
    · intro w; go_simp; with_reducible rfl
    refine wpAny_ready (rs := [8]) (by kernel_rfl) (by simp) ?_
    refine AllReady.cons rfl (fun K hK => ?_) ?_
    · go_simp
      refine hK _ _ ?_
      clear hK K
      refine wpAny_ready (rs := [9]) (by kernel_rfl) (by simp) ?_
      refine AllReady.cons rfl (fun K hK => ?_) ?_
      · go_simp
        refine (Bottom_any 2 _).mono ?_
        rintro e w5 ⟨rfl, rfl⟩
        refine hK _ _ ?_
        clear hK K
        refine wpAny_ready (rs := [10]) (by kernel_rfl) (by simp) ?_
        refine AllReady.cons rfl (fun K hK => ?_) ?_
        · go_simp
          refine hC1.mono ?_
          rintro e w2 ⟨⟨rfl, hb2⟩, hk2⟩
          obtain ⟨z2, y2⟩ := HZ.out w2 hk2
          refine hK _ _ ?_
          clear hK K
          refine wpAny_take (i := 11) (v := ?_) rfl (by kernel_rfl) (by kernel_rfl) (by kernel_rfl) (fun _ _ _ h => h) (Or.inl ⟨by rfl, ?_⟩) ?_
          rotate_left
          · intro w; go_simp; with_reducible rfl
          refine wpAny_take (i := 12) (v := ?_) rfl (by kernel_rfl) (by kernel_rfl) (by kernel_rfl) (fun _ _ _ h => h) (Or.inl ⟨by rfl, ?_⟩) ?_
          rotate_left
          · intro w; go_simp; with_reducible rfl
          refine wpAny_take (i := 13) (v := ?_) rfl (by kernel_rfl) (by kernel_rfl) (by kernel_rfl) (fun _ _ _ h => h) (Or.inl ⟨by rfl, ?_⟩) ?_
          rotate_left
          · intro w; go_simp; with_reducible rfl
          refine wpAny_take (i := 14) (v := ?_) rfl (by kernel_rfl) (by kernel_rfl) (by kernel_rfl) (fun _ _ _ h => h) (Or.inl ⟨by rfl, ?_⟩) ?_
          rotate_left
          · intro w; go_simp; with_reducible rfl
          refine wpAny_take (i := 15) (v := ?_) rfl (by kernel_rfl) (by kernel_rfl) (by kernel_rfl) (fun _ _ _ h => h) (Or.inl ⟨by rfl, ?_⟩) ?_
          rotate_left
          · intro w; go_simp; with_reducible rfl
          refine wpAny_take (i := 16) (v := ?_) rfl (by kernel_rfl) (by kernel_rfl) (by kernel_rfl) (fun _ _ _ h => h) (Or.inl ⟨by rfl, ?_⟩) ?_
          rotate_left
          · intro w; go_simp; with_reducible rfl
          refine wpAny_ready (rs := [17]) (by kernel_rfl) (by simp) ?_
          refine AllReady.cons rfl (fun K hK => ?_) ?_
          · go_simp
            refine hK _ _ ?_
            clear hK K
            refine wpAny_ready (rs := [18]) (by kernel_rfl) (by simp) ?_
            refine AllReady.cons rfl (fun K hK => ?_) ?_
            · go_simp
              refine hK _ _ ?_
              clear hK K
              refine wpAny_done (by kernel_rfl) ?_ _
              obtain ⟨V2, hV2⟩ : ∃ V2, w2.setCell ⟨b, 2, none⟩ (.int .i64 level) = V2 := ⟨_, rfl⟩
              rw [hV2]
              have hbz : b < V1.drew.heap.size := (Array.getElem?_eq_some_iff.1 HX1.out).1
              have hX2 : V2.heap[b]? = some (.cells (rdCells ⟨r2.toArray⟩ 2 level nilS 0 ⟨#[]⟩ 0 0 nilS 0 nilS) 142 (0, 0)) := by rw [← hV2]; exact heap_set ((hb2.block _ hbz).trans (heap_set (w := V1.drew) HX1.out))
              have hB2 : Below b w V2 := by rw [← hV2]; exact (hB1.drew.trans (((Below.refl b V1.drew).setCell (p := ⟨b, 0, none⟩) (Nat.le_refl _) _).trans (hb2.mono (by omega)))).setCell (p := ⟨b, 2, none⟩) (Nat.le_refl _) _
              have hbz2 : b < V2.heap.size := (Array.getElem?_eq_some_iff.1 hX2).1
              have hmm := @run_makeMap Tryz.prog
              have u1 := mapUpd_alloc (P := Tryz.prog) V2 (clock := 0) (es := #[]) (n := 1) (.func (.func 153) #[.pointer (some ⟨b, 0, none⟩)] #[]) und_rds Tryz.underlying3 rfl
              have u2 := mapUpd_alloc (P := Tryz.prog) V2 (clock := 1) (es := #[{ key := .int .i64 1, val := .func (.func 153) #[.pointer (some ⟨b, 0, none⟩)] #[], born := 0 }]) (n := 2) (.func (.func 154) #[.pointer (some ⟨b, 0, none⟩)] #[]) und_rds Tryz.underlying3 rfl
              have u3 := mapUpd_alloc (P := Tryz.prog) V2 (clock := 2) (es := #[{ key := .int .i64 1, val := .func (.func 153) #[.pointer (some ⟨b, 0, none⟩)] #[], born := 0 }, { key := .int .i64 2, val := .func (.func 154) #[.pointer (some ⟨b, 0, none⟩)] #[], born := 1 }]) (n := 3) (.func (.func 155) #[.pointer (some ⟨b, 0, none⟩)] #[]) und_rds Tryz.underlying3 rfl
              simp only [List.push_toArray, List.nil_append, List.cons_append, Nat.zero_add, Nat.reduceAdd] at u1 u2 u3
              obtain ⟨M, hM⟩ : ∃ M, V2.alloc (.map (rdsMap b) 3) = M := ⟨_, rfl⟩
              have hMa : M.heap[V2.heap.size]? = some (.map (rdsMap b) 3) := by rw [← hM]; exact World.alloc_heap_new _ _
              have hXM : M.heap[b]? = some (.cells (rdCells ⟨r2.toArray⟩ 2 level nilS 0 ⟨#[]⟩ 0 0 nilS 0 nilS) 142 (0, 0)) := by rw [← hM]; exact (Below.heap_alloc _ _ _ hbz2).trans hX2
              have hBM : Below b w M := by rw [← hM]; exact hB2.alloc (by omega) _
              have m1 : M.cell? ⟨b, 1, none⟩ = some (.int .i64 2) := cCc hXM 1
              have hlk := (look_int (P := Tryz.prog) (i := 1) und_rds Tryz.underlying3 (n := 2) hMa rfl).2
              have hR := rcounters_any b ⟨r2.toArray⟩ level fm ff cm cc M hXM (by rw [size_list]; exact HR2.out) (fun w' hb => HE.out w' (hBM.trans hb)) hv0 hv1
              have hR2 := hR.mono (fun e w' h => And.intro h.ret h)
              unfold rdsMap at hM
              clear hX2 hXM hMa hR HX1 HZ hC1 HE z2 y2 hb2 hk2 hV2 e1 HW1
              go_wp2_with (go_at_call 154; refine hR2.mono ?_; rintro e w7 ⟨⟨v, rfl⟩, hp⟩)
              go_ret
              exact hp.from hBM
            exact AllReady.nil
          exact AllReady.nil
        exact AllReady.nil
      exact AllReady.nil
    exact AllReady.nil
set_option maxRecDepth 100000 in
set_option maxHeartbeats 4000000 in
theorem rsketch_3 (b : Nat) (s : ByteArray) (r : List UInt8) (fm ff cm cc : Addr) (w : World) (hX : w.heap[b]? = some (.cells (rdCells s 0 0 nilS 0 ⟨#[]⟩ 0 0 nilS 0 nilS) 142 (0, 0))) (hl : s.size < 4294967281) (hE : ∀ w', Below b w w' → GE fm ff cm cc w') (hbG : 8 ≤ b) (hg : getN s.data.toList = .got 3 r) :
    Calls Tryz.prog 104 #[.pointer (some ⟨b, 0, none⟩)] w (RdPost b cm cc w (skDec s.data.toList)) := by
  have hblt : b < w.heap.size := (Array.getElem?_eq_some_iff.1 hX).1
  have hN := rnumber_any b _ _ s fm ff cm cc w hX rfl hl (hE w (Below.refl _ _))
  unfold skDec
  rw [hg] at hN ⊢
  unfold NumPost at hN
  simp only at hN ⊢
  rw [if_neg (by omega), show bottomB 3 = 3 from rfl]
  have hrl : r.length < 4294967281 := by
    have := (getN_got hg).2
    have h2 : s.data.toList.length = s.size := Array.length_toList
    omega
  have HW1 : Hid (∀ w1, Below w.heap.size (w.setCell ⟨b, 0, none⟩ (.string ⟨r.toArray⟩)) w1 → ∃ V1, w1.setCell ⟨b, 1, none⟩ (.int .i64 3) = V1 ∧ Below b w V1 ∧ w1.cell? ⟨b, 1, none⟩ = some (.int .i64 0) ∧ w1.frozen? ⟨b, 1, none⟩ = false ∧ w.heap.size ≤ V1.heap.size ∧ V1.heap[b]? = some (.cells (rdCells ⟨r.toArray⟩ 3 0 nilS 0 ⟨#[]⟩ 0 0 nilS 0 nilS) 142 (0, 0))) := fun w1 hb => by
    have h1 : w1.heap[b]? = some (.cells (rdCells ⟨r.toArray⟩ 0 0 nilS 0 ⟨#[]⟩ 0 0 nilS 0 nilS) 142 (0, 0)) := (hb.block _ hblt).trans (heap_set hX)
    exact ⟨_, rfl, (((Below.refl b w).setCell (p := ⟨b, 0, none⟩) (Nat.le_refl _) _).trans (hb.mono (by omega))).setCell (p := ⟨b, 1, none⟩) (Nat.le_refl _) _, cCc h1 1, cFz h1 1, by have := hb.size; simp at this ⊢; exact this, heap_set h1⟩
  have HC : Hid (∀ W, W.heap[b]? = some (.cells (rdCells ⟨r.toArray⟩ 3 0 nilS 0 ⟨#[]⟩ 0 0 nilS 0 nilS) 142 (0, 0)) → Below b w W → Calls Tryz.prog 152 #[.pointer (some ⟨b, 0, none⟩), .int .i64 3] W fun e w' => NumPost b cm cc .i64 W (cntG 3 r) e w' ∧ KeepB b W w') := fun W h1 h2 =>
    rcount_keep b _ _ ⟨r.toArray⟩ 3 fm ff cm cc W h1 rfl (by rw [size_list]; exact hrl) (hE W h2) (by omega) (by omega) hbG
  have HE := Lib.hid hE
  clear hX hE hg
  cases hc : cntG 3 r with
  | more =>
    rw [hc] at HC
    unfold NumPost at HC
    simp only at HC ⊢
    clear hc
    go_enter Tryz.func104, Tryz.ntmps104
    go_wp2_with (go_at_call 151; refine hN.mono ?_; rintro e w1 ⟨rfl, hb1⟩; obtain ⟨V1, hV1, hB1, c1, f1, hz1, hX1⟩ := HW1.out w1 hb1)
    have e1 : V1.drew.cell? ⟨b, 1, none⟩ = some (.int .i64 3) := cCc hX1 1
    have hC1 := HC.out V1.drew hX1 hB1.drew
    have HX1 := Lib.hid hX1
    have HZ := Lib.hid (fun w2 (hk : KeepB b V1.drew w2) => sk_keep (V := V1.drew) hX1 hk)
    clear hX1 c1 f1 hV1 hN HC
    refine wp_region_any (by kernel_rfl) ?_
    change wpAny _ _ _ _ _ _ _ (World.drew _)
    refine wpAny_take (i := 0) (v := ?_) rfl (by kernel_rfl) (by kernel_rfl) (by kernel_rfl) (fun _ _ _ h => h) (Or.inl ⟨by rfl, ?_⟩) ?_
    rotate_left
    · intro w; go_simp; with_reducible rfl
    refine wpAny_take (i := 1) (v := ?_) rfl (by kernel_rfl) (by kernel_rfl) (by kernel_rfl) (fun _ _ _ h => h) (Or.inl ⟨by rfl, ?_⟩) ?_
    rotate_left
    · intro w; go_simp; with_reducible rfl
    refine wpAny_take (i := 2) (v := ?_) rfl (by kernel_rfl) (by kernel_rfl) (by kernel_rfl) (fun _ _ _ h => h) (Or.inl ⟨by rfl, ?_⟩) ?_
    rotate_left
    · intro w; go_simp; with_reducible rfl
    refine wpAny_take (i := 3) (v := ?_) rfl (by kernel_rfl) (by kernel_rfl) (by kernel_rfl) (fun _ _ _ h => h) (Or.inl ⟨by rfl, ?_⟩) ?_
    rotate_left
    · intro w; go_simp; with_reducible rfl
    refine wpAny_take (i := 4) (v := ?_) rfl (by kernel_rfl) (by kernel_rfl) (by kernel_rfl) (fun _ _ _ h => h) (Or.inl ⟨by rfl, ?_⟩) ?_
    rotate_left
    · intro w; go_simp; with_reducible rfl
    refine wpAny_take (i := 5) (v := ?_) rfl (by kernel_rfl) (by kernel_rfl) (by kernel_rfl) (fun _ _ _ h => h) (Or.inl ⟨by rfl, ?_⟩) ?_
    rotate_left
    · intro w; go_simp; with_reducible rfl
    refine wpAny_take (i := 6) (v := ?_) rfl (by kernel_rfl) (by kernel_rfl) (by kernel_rfl) (fun _ _ _ h => h) (Or.inl ⟨by rfl, ?_⟩) ?_
    rotate_left
    · intro w; go_simp; with_reducible rfl
    refine wpAny_take (i := 7) (v := ?_) rfl (by kernel_rfl) (by kernel_rfl) (by kernel_rfl) (fun _ _ _ h => h) (Or.inl ⟨by rfl, ?_⟩) ?_
    rotate_left
    · intro w; go_simp; with_reducible rfl
    refine wpAny_ready (rs := [8]) (by kernel_rfl) (by simp) ?_
    refine AllReady.cons rfl (fun K hK => ?_) ?_
    · go_simp
      refine hK _ _ ?_
      clear hK K
      refine wpAny_ready (rs := [9]) (by kernel_rfl) (by simp) ?_
      refine AllReady.cons rfl (fun K hK => ?_) ?_
      · go_simp
        refine (Bottom_any 3 _).mono ?_
        rintro e w5 ⟨rfl, rfl⟩
        refine hK _ _ ?_
        clear hK K
        refine wpAny_ready (rs := [10]) (by kernel_rfl) (by simp) ?_
        refine AllReady.cons rfl (fun K hK => ?_) ?_
        · go_simp
          refine hC1.mono ?_
          rintro e w2 ⟨⟨rfl, hb2⟩, hk2⟩
          obtain ⟨z2, y2⟩ := HZ.out w2 hk2
          refine hK _ _ ?_
          clear hK K
          refine wpAny_take (i := 11) (v := ?_) rfl (by kernel_rfl) (by kernel_rfl) (by kernel_rfl) (fun _ _ _ h => h) (Or.inl ⟨by rfl, ?_⟩) ?_
          rotate_left
          · intro w; go_simp; with_reducible rfl
          refine wpAny_take (i := 12) (v := ?_) rfl (by kernel_rfl) (by kernel_rfl) (by kernel_rfl) (fun _ _ _ h => h) (Or.inl ⟨by rfl, ?_⟩) ?_
          rotate_left
          · intro w; go_simp; with_reducible rfl
          refine wpAny_take (i := 13) (v := ?_) rfl (by kernel_rfl) (by kernel_rfl) (by kernel_rfl) (fun _ _ _ h => h) (Or.inl ⟨by rfl, ?_⟩) ?_
          rotate_left
          · intro w; go_simp; with_reducible rfl
          refine wpAny_take (i := 14) (v := ?_) rfl (by kernel_rfl) (by kernel_rfl) (by kernel_rfl) (fun _ _ _ h => h) (Or.inl ⟨by rfl, ?_⟩) ?_
          rotate_left
          · intro w; go_simp; with_reducible rfl
          refine wpAny_take (i := 15) (v := ?_) rfl (by kernel_rfl) (by kernel_rfl) (by kernel_rfl) (fun _ _ _ h => h) (Or.inl ⟨by rfl, ?_⟩) ?_
          rotate_left
          · intro w; go_simp; with_reducible rfl
          refine wpAny_take (i := 16) (v := ?_) rfl (by kernel_rfl) (by kernel_rfl) (by kernel_rfl) (fun _ _ _ h => h) (Or.inl ⟨by rfl, ?_⟩) ?_
          rotate_left
          · intro w; go_simp; with_reducible rfl
          refine wpAny_ready (rs := [17]) (by kernel_rfl) (by simp) ?_
          refine AllReady.cons rfl (fun K hK => ?_) ?_
          · go_simp
            refine hK _ _ ?_
            clear hK K
            refine wpAny_ready (rs := [18]) (by kernel_rfl) (by simp) ?_
            refine AllReady.cons rfl (fun K hK => ?_) ?_
            · go_simp
              refine hK _ _ ?_
              clear hK K
              refine wpAny_done (by kernel_rfl) ?_ _
              go_wp2_with fail
              go_ret
              unfold RdPost
              exact ⟨hB1.drew.trans (hb2.setCell (p := ⟨b, 2, none⟩) (Nat.le_refl _) _), rfl⟩
            exact AllReady.nil
          exact AllReady.nil
        exact AllReady.nil
      exact AllReady.nil
    exact AllReady.nil
  | bad =>
    rw [hc] at HC
    unfold NumPost at HC
    simp only at HC ⊢
    clear hc
    go_enter Tryz.func104, Tryz.ntmps104
    go_wp2_with (go_at_call 151; refine hN.mono ?_; rintro e w1 ⟨rfl, hb1⟩; obtain ⟨V1, hV1, hB1, c1, f1, hz1, hX1⟩ := HW1.out w1 hb1)
    have e1 : V1.drew.cell? ⟨b, 1, none⟩ = some (.int .i64 3) := cCc hX1 1
    have hC1 := HC.out V1.drew hX1 hB1.drew
    have HX1 := Lib.hid hX1
    have HZ := Lib.hid (fun w2 (hk : KeepB b V1.drew w2) => sk_keep (V := V1.drew) hX1 hk)
    clear hX1 c1 f1 hV1 hN HC
    refine wp_region_any (by kernel_rfl) ?_
    change wpAny _ _ _ _ _ _ _ (World.drew _)
    refine wpAny_take (i := 0) (v := ?_) rfl (by kernel_rfl) (by kernel_rfl) (by kernel_rfl) (fun _ _ _ h => h) (Or.inl ⟨by rfl, ?_⟩) ?_
    rotate_left
    · intro w; go_simp; with_reducible rfl
    refine wpAny_take (i := 1) (v := ?_) rfl (by kernel_rfl) (by kernel_rfl) (by kernel_rfl) (fun _ _ _ h => h) (Or.inl ⟨by rfl, ?_⟩) ?_
    rotate_left
    · intro w; go_simp; with_reducible rfl
    refine wpAny_take (i := 2) (v := ?_) rfl (by kernel_rfl) (by kernel_rfl) (by kernel_rfl) (fun _ _ _ h => h) (Or.inl ⟨by rfl, ?_⟩) ?_
    rotate_left
    · intro w; go_simp; with_reducible rfl
    refine wpAny_take (i := 3) (v := ?_) rfl (by kernel_rfl) (by kernel_rfl) (by kernel_rfl) (fun _ _ _ h => h) (Or.inl ⟨by rfl, ?_⟩) ?_
    rotate_left
    · intro w; go_simp; with_reducible rfl
    refine wpAny_take (i := 4) (v := ?_) rfl (by kernel_rfl) (by kernel_rfl) (by kernel_rfl) (fun _ _ _ h => h) (Or.inl ⟨by rfl, ?_⟩) ?_
    rotate_left
    · intro w; go_simp; with_reducible rfl
    refine wpAny_take (i := 5) (v := ?_) rfl (by kernel_rfl) (by kernel_rfl) (by kernel_rfl) (fun _ _ _ h => h) (Or.inl ⟨by rfl, ?_⟩) ?_
    rotate_left
    · intro w; go_simp; with_reducible rfl
    refine wpAny_take (i := 6) (v := ?_) rfl (by kernel_rfl) (by kernel_rfl) (by kernel_rfl) (fun _ _ _ h => h) (Or.inl ⟨by rfl, ?_⟩) ?_
    rotate_left
    · intro w; go_simp; with_reducible rfl
    refine wpAny_take (i := 7) (v := ?_) rfl (by kernel_rfl) (by kernel_rfl) (by kernel_rfl) (fun _ _ _ h => h) (Or.inl ⟨by rfl, ?_⟩) ?_
    rotate_left
    · intro w; go_simp; with_reducible rfl
    refine wpAny_ready (rs := [8]) (by kernel_rfl) (by simp) ?_
    refine AllReady.cons rfl (fun K hK => ?_) ?_
    · go_simp
      refine hK _ _ ?_
      clear hK K
      refine wpAny_ready (rs := [9]) (by kernel_rfl) (by simp) ?_
      refine AllReady.cons rfl (fun K hK => ?_) ?_
      · go_simp
        refine (Bottom_any 3 _).mono ?_
        rintro e w5 ⟨rfl, rfl⟩
        refine hK _ _ ?_
        clear hK K
        refine wpAny_ready (rs := [10]) (by kernel_rfl) (by simp) ?_
        refine AllReady.cons rfl (fun K hK => ?_) ?_
        · go_simp
          refine hC1.mono ?_
          rintro e w2 ⟨⟨rfl, hb2⟩, hk2⟩
          obtain ⟨z2, y2⟩ := HZ.out w2 hk2
          refine hK _ _ ?_
          clear hK K
          refine wpAny_take (i := 11) (v := ?_) rfl (by kernel_rfl) (by kernel_rfl) (by kernel_rfl) (fun _ _ _ h => h) (Or.inl ⟨by rfl, ?_⟩) ?_
          rotate_left
          · intro w; go_simp; with_reducible rfl
          refine wpAny_take (i := 12) (v := ?_) rfl (by kernel_rfl) (by kernel_rfl) (by kernel_rfl) (fun _ _ _ h => h) (Or.inl ⟨by rfl, ?_⟩) ?_
          rotate_left
          · intro w; go_simp; with_reducible rfl
          refine wpAny_take (i := 13) (v := ?_) rfl (by kernel_rfl) (by kernel_rfl) (by kernel_rfl) (fun _ _ _ h => h) (Or.inl ⟨by rfl, ?_⟩) ?_
          rotate_left
          · intro w; go_simp; with_reducible rfl
          refine wpAny_take (i := 14) (v := ?_) rfl (by kernel_rfl) (by kernel_rfl) (by kernel_rfl) (fun _ _ _ h => h) (Or.inl ⟨by rfl, ?_⟩) ?_
          rotate_left
          · intro w; go_simp; with_reducible rfl
          refine wpAny_take (i := 15) (v := ?_) rfl (by kernel_rfl) (by kernel_rfl) (by kernel_rfl) (fun _ _ _ h => h) (Or.inl ⟨by rfl, ?_⟩) ?_
          rotate_left
          · intro w; go_simp; with_reducible rfl
          refine wpAny_take (i := 16) (v := ?_) rfl (by kernel_rfl) (by kernel_rfl) (by kernel_rfl) (fun _ _ _ h => h) (Or.inl ⟨by rfl, ?_⟩) ?_
          rotate_left
          · intro w; go_simp; with_reducible rfl
          refine wpAny_ready (rs := [17]) (by kernel_rfl) (by simp) ?_
          refine AllReady.cons rfl (fun K hK => ?_) ?_
          · go_simp
            refine hK _ _ ?_
            clear hK K
            refine wpAny_ready (rs := [18]) (by kernel_rfl) (by simp) ?_
            refine AllReady.cons rfl (fun K hK => ?_) ?_
            · go_simp
              refine hK _ _ ?_
              clear hK K
              refine wpAny_done (by kernel_rfl) ?_ _
              go_wp2_with fail
              go_ret
              unfold RdPost
              exact ⟨hB1.drew.trans (hb2.setCell (p := ⟨b, 2, none⟩) (Nat.le_refl _) _), rfl⟩
            exact AllReady.nil
          exact AllReady.nil
        exact AllReady.nil
      exact AllReady.nil
    exact AllReady.nil
  | got level r2 =>
    rw [hc] at HC
    unfold NumPost at HC
    simp only at HC ⊢
    obtain ⟨hv0, hv1, hr2⟩ := cntG_got hc
    have HR2 : Hid (r2.length < 4294967281) := Nat.lt_trans hr2 hrl
    clear hc hr2
    go_enter Tryz.func104, Tryz.ntmps104
    go_wp2_with (go_at_call 151; refine hN.mono ?_; rintro e w1 ⟨rfl, hb1⟩; obtain ⟨V1, hV1, hB1, c1, f1, hz1, hX1⟩ := HW1.out w1 hb1)
    have e1 : V1.drew.cell? ⟨b, 1, none⟩ = some (.int .i64 3) := cCc hX1 1
    have hC1 := HC.out V1.drew hX1 hB1.drew
    have HX1 := Lib.hid hX1
    have HZ := Lib.hid (fun w2 (hk : KeepB b V1.drew w2) => sk_keep (V := V1.drew) hX1 hk)
    clear hX1 c1 f1 hV1 hN HC
    refine wp_region_any (by kernel_rfl) ?_
    change wpAny _ _ _ _ _ _ _ (World.drew _)
    refine wpAny_take (i := 0) (v := ?_) rfl (by kernel_rfl) (by kernel_rfl) (by kernel_rfl) (fun _ _ _ h => h) (Or.inl ⟨by rfl, ?_⟩) ?_
    rotate_left
    · intro w; go_simp; with_reducible rfl
    refine wpAny_take (i := 1) (v := ?_) rfl (by kernel_rfl) (by kernel_rfl) (by kernel_rfl) (fun _ _ _ h => h) (Or.inl ⟨by rfl, ?_⟩) ?_
    rotate_left
    · intro w; go_simp; with_reducible rfl
    refine wpAny_take (i := 2) (v := ?_) rfl (by kernel_rfl) (by kernel_rfl) (by kernel_rfl) (fun _ _ _ h => h) (Or.inl ⟨by rfl, ?_⟩) ?_
    rotate_left
    · intro w; go_simp; with_reducible rfl
    refine wpAny_take (i := 3) (v := ?_) rfl (by kernel_rfl) (by kernel_rfl) (by kernel_rfl) (fun _ _ _ h => h) (Or.inl ⟨by rfl, ?_⟩) ?_
    rotate_left
    · intro w; go_simp; with_reducible rfl
    refine wpAny_take (i := 4) (v := ?_) rfl (by kernel_rfl) (by kernel_rfl) (by kernel_rfl) (fun _ _ _ h => h) (Or.inl ⟨by rfl, ?_⟩) ?_
    rotate_left
    · intro w; go_simp; with_reducible rfl
    refine wpAny_take (i := 5) (v := ?_) rfl (by kernel_rfl) (by kernel_rfl) (by kernel_rfl) (fun _ _ _ h => h) (Or.inl ⟨by rfl, ?_⟩) ?_
    rotate_left
    · intro w; go_simp; with_reducible rfl
    refine wpAny_take (i := 6) (v := ?_) rfl (by kernel_rfl) (by kernel_rfl) (by kernel_rfl) (fun _ _ _ h => h) (Or.inl ⟨by rfl, ?_⟩) ?_
    rotate_left
    · intro w; go_simp; with_reducible rfl
    refine wpAny_take (i := 7) (v := ?_) rfl (by kernel_rfl) (by kernel_rfl) (by kernel_rfl) (fun _ _ _ h => h) (Or.inl ⟨by rfl, ?_⟩) ?_
    rotate_left
    · intro w; go_simp; with_reducible rfl
    refine wpAny_ready (rs := [8]) (by kernel_rfl) (by simp) ?_
    refine AllReady.cons rfl (fun K hK => ?_) ?_
    · go_simp
      refine hK _ _ ?_
      clear hK K
      refine wpAny_ready (rs := [9]) (by kernel_rfl) (by simp) ?_
      refine AllReady.cons rfl (fun K hK => ?_) ?_
      · go_simp
        refine (Bottom_any 3 _).mono ?_
        rintro e w5 ⟨rfl, rfl⟩
        refine hK _ _ ?_
        clear hK K
        refine wpAny_ready (rs := [10]) (by kernel_rfl) (by simp) ?_
        refine AllReady.cons rfl (fun K hK => ?_) ?_
        · go_simp
          refine hC1.mono ?_
          rintro e w2 ⟨⟨rfl, hb2⟩, hk2⟩
          obtain ⟨z2, y2⟩ := HZ.out w2 hk2
          refine hK _ _ ?_
          clear hK K
          refine wpAny_take (i := 11) (v := ?_) rfl (by kernel_rfl) (by kernel_rfl) (by kernel_rfl) (fun _ _ _ h => h) (Or.inl ⟨by rfl, ?_⟩) ?_
          rotate_left
          · intro w; go_simp; with_reducible rfl
          refine wpAny_take (i := 12) (v := ?_) rfl (by kernel_rfl) (by kernel_rfl) (by kernel_rfl) (fun _ _ _ h => h) (Or.inl ⟨by rfl, ?_⟩) ?_
          rotate_left
          · intro w; go_simp; with_reducible rfl
          refine wpAny_take (i := 13) (v := ?_) rfl (by kernel_rfl) (by kernel_rfl) (by kernel_rfl) (fun _ _ _ h => h) (Or.inl ⟨by rfl, ?_⟩) ?_
          rotate_left
          · intro w; go_simp; with_reducible rfl
          refine wpAny_take (i := 14) (v := ?_) rfl (by kernel_rfl) (by kernel_rfl) (by kernel_rfl) (fun _ _ _ h => h) (Or.inl ⟨by rfl, ?_⟩) ?_
          rotate_left
          · intro w; go_simp; with_reducible rfl
          refine wpAny_take (i := 15) (v := ?_) rfl (by kernel_rfl) (by kernel_rfl) (by kernel_rfl) (fun _ _ _ h => h) (Or.inl ⟨by rfl, ?_⟩) ?_
          rotate_left
          · intro w; go_simp; with_reducible rfl
          refine wpAny_take (i := 16) (v := ?_) rfl (by kernel_rfl) (by kernel_rfl) (by kernel_rfl) (fun _ _ _ h => h) (Or.inl ⟨by rfl, ?_⟩) ?_
          rotate_left
          · intro w; go_simp; with_reducible rfl
          refine wpAny_ready (rs := [17]) (by kernel_rfl) (by simp) ?_
          refine AllReady.cons rfl (fun K hK => ?_) ?_
          · go_simp
            refine hK _ _ ?_
            clear hK K
            refine wpAny_ready (rs := [18]) (by kernel_rfl) (by simp) ?_
            refine AllReady.cons rfl (fun K hK => ?_) ?_
            · go_simp
              refine hK _ _ ?_
              clear hK K
              refine wpAny_done (by kernel_rfl) ?_ _
              obtain ⟨V2, hV2⟩ : ∃ V2, w2.setCell ⟨b, 2, none⟩ (.int .i64 level) = V2 := ⟨_, rfl⟩
              rw [hV2]
              have hbz : b < V1.drew.heap.size := (Array.getElem?_eq_some_iff.1 HX1.out).1
              have hX2 : V2.heap[b]? = some (.cells (rdCells ⟨r2.toArray⟩ 3 level nilS 0 ⟨#[]⟩ 0 0 nilS 0 nilS) 142 (0, 0)) := by rw [← hV2]; exact heap_set ((hb2.block _ hbz).trans (heap_set (w := V1.drew) HX1.out))
              have hB2 : Below b w V2 := by rw [← hV2]; exact (hB1.drew.trans (((Below.refl b V1.drew).setCell (p := ⟨b, 0, none⟩) (Nat.le_refl _) _).trans (hb2.mono (by omega)))).setCell (p := ⟨b, 2, none⟩) (Nat.le_refl _) _
              have hbz2 : b < V2.heap.size := (Array.getElem?_eq_some_iff.1 hX2).1
              have hmm := @run_makeMap Tryz.prog
              have u1 := mapUpd_alloc (P := Tryz.prog) V2 (clock := 0) (es := #[]) (n := 1) (.func (.func 153) #[.pointer (some ⟨b, 0, none⟩)] #[]) und_rds Tryz.underlying3 rfl
              have u2 := mapUpd_alloc (P := Tryz.prog) V2 (clock := 1) (es := #[{ key := .int .i64 1, val := .func (.func 153) #[.pointer (some ⟨b, 0, none⟩)] #[], born := 0 }]) (n := 2) (.func (.func 154) #[.pointer (some ⟨b, 0, none⟩)] #[]) und_rds Tryz.underlying3 rfl
              have u3 := mapUpd_alloc (P := Tryz.prog) V2 (clock := 2) (es := #[{ key := .int .i64 1, val := .func (.func 153) #[.pointer (some ⟨b, 0, none⟩)] #[], born := 0 }, { key := .int .i64 2, val := .func (.func 154) #[.pointer (some ⟨b, 0, none⟩)] #[], born := 1 }]) (n := 3) (.func (.func 155) #[.pointer (some ⟨b, 0, none⟩)] #[]) und_rds Tryz.underlying3 rfl
              simp only [List.push_toArray, List.nil_append, List.cons_append, Nat.zero_add, Nat.reduceAdd] at u1 u2 u3
              obtain ⟨M, hM⟩ : ∃ M, V2.alloc (.map (rdsMap b) 3) = M := ⟨_, rfl⟩
              have hMa : M.heap[V2.heap.size]? = some (.map (rdsMap b) 3) := by rw [← hM]; exact World.alloc_heap_new _ _
              have hXM : M.heap[b]? = some (.cells (rdCells ⟨r2.toArray⟩ 3 level nilS 0 ⟨#[]⟩ 0 0 nilS 0 nilS) 142 (0, 0)) := by rw [← hM]; exact (Below.heap_alloc _ _ _ hbz2).trans hX2
              have hBM : Below b w M := by rw [← hM]; exact hB2.alloc (by omega) _
              have m1 : M.cell? ⟨b, 1, none⟩ = some (.int .i64 3) := cCc hXM 1
              have hlk := (look_int (P := Tryz.prog) (i := 2) und_rds Tryz.underlying3 (n := 3) hMa rfl).2
              have hR := rbins_any b ⟨r2.toArray⟩ level fm ff cm cc M hXM (by rw [size_list]; exact HR2.out) (fun w' hb => HE.out w' (hBM.trans hb)) hbG hv0 hv1
              have hR2 := hR.mono (fun e w' h => And.intro h.ret h)
              unfold rdsMap at hM
              clear hX2 hXM hMa hR HX1 HZ hC1 HE z2 y2 hb2 hk2 hV2 e1 HW1
              go_wp2_with (go_at_call 155; refine hR2.mono ?_; rintro e w7 ⟨⟨v, rfl⟩, hp⟩)
              go_ret
              exact hp.from hBM
            exact AllReady.nil
          exact AllReady.nil
        exact AllReady.nil
      exact AllReady.nil
    exact AllReady.nil
set_option maxRecDepth 100000 in
set_option maxHeartbeats 4000000 in
theorem rsketch_any (b : Nat) (s : ByteArray) (fm ff cm cc : Addr) (w : World) (hX : w.heap[b]? = some (.cells (rdCells s 0 0 nilS 0 ⟨#[]⟩ 0 0 nilS 0 nilS) 142 (0, 0))) (hl : s.size < 4294967281) (hE : ∀ w', Below b w w' → GE fm ff cm cc w') (hbG : 8 ≤ b) :
    Calls Tryz.prog 104 #[.pointer (some ⟨b, 0, none⟩)] w (RdPost b cm cc w (skDec s.data.toList)) := by
  have hN := rnumber_any b _ _ s fm ff cm cc w hX rfl hl (hE w (Below.refl _ _))
  cases hg : getN s.data.toList with
  | more =>
    unfold skDec
    rw [hg] at hN ⊢
    unfold NumPost at hN
    simp only at hN ⊢
    clear hX hE hg
    go_enter Tryz.func104, Tryz.ntmps104
    go_wp2_with (go_at_call 151; refine hN.mono ?_; rintro e w1 ⟨rfl, hb1⟩)
    go_ret
    exact ⟨hb1, rfl⟩
  | bad =>
    unfold skDec
    rw [hg] at hN ⊢
    unfold NumPost at hN
    simp only at hN ⊢
    clear hX hE hg
    go_enter Tryz.func104, Tryz.ntmps104
    go_wp2_with (go_at_call 151; refine hN.mono ?_; rintro e w1 ⟨rfl, hb1⟩)
    go_ret
    exact ⟨hb1, rfl⟩
  | got kind r =>
    by_cases hk : kind < 1 ∨ 3 < kind
    · have hblt : b < w.heap.size := (Array.getElem?_eq_some_iff.1 hX).1
      obtain ⟨⟨hk0, hk9⟩, -⟩ := getN_got hg
      unfold skDec
      rw [hg] at hN ⊢
      unfold NumPost at hN
      simp only at hN ⊢
      rw [if_pos hk]
      have HB : Hid (∀ w1, Below w.heap.size (w.setCell ⟨b, 0, none⟩ (.string ⟨r.toArray⟩)) w1 → Below b w w1 ∧ w1.cell? ⟨1, 0, none⟩ = some (errV cc)) := fun w1 hb => by
        have h1 : Below b w w1 := ((Below.refl b w).setCell (p := ⟨b, 0, none⟩) (Nat.le_refl _) _).trans (hb.mono (by omega))
        exact ⟨h1, (hE w1 h1).ecc⟩
      clear hX hE hg
      by_cases hk1 : kind < 1
      · clear hk
        go_enter Tryz.func104, Tryz.ntmps104
        go_wp2_with (go_at_call 151; refine hN.mono ?_; rintro e w1 ⟨rfl, hb1⟩; obtain ⟨hB1, g1⟩ := HB.out w1 hb1)
        go_ret
        exact ⟨hB1, rfl⟩
      · have hk3 : 3 < kind := by omega
        have hd1 : decide (kind < 1) = false := by simp; omega
        clear hk
        go_enter Tryz.func104, Tryz.ntmps104
        go_wp2_with (go_at_call 151; refine hN.mono ?_; rintro e w1 ⟨rfl, hb1⟩; obtain ⟨hB1, g1⟩ := HB.out w1 hb1)
        go_ret
        exact ⟨hB1, rfl⟩
    · clear hN
      have h3 : kind = 1 ∨ kind = 2 ∨ kind = 3 := by omega
      rcases h3 with rfl | rfl | rfl
      · exact rsketch_1 b s r fm ff cm cc w hX hl hE hbG hg
      · exact rsketch_2 b s r fm ff cm cc w hX hl hE hbG hg
      · exact rsketch_3 b s r fm ff cm cc w hX hl hE hbG hg
end Go.Proofs.YtpnlmfilmbodfaaGreatDoor

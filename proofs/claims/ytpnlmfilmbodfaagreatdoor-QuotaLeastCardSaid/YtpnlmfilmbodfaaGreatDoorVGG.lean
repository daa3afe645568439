/- Package hist: put. Package hist: blank, begin. slices.Sorted(maps.Keys(..)) at the keys of a histogram's counts: the kit's contracts, laid at this program by hand. Package hist: done. Package hist: Add. -/
import Derived.Test.YtpnlmfilmbodfaaGreatDoorVGB
import Derived.Test.YtpnlmfilmbodfaaGreatDoorVCF
import Derived.Maps.OwnOps
import Derived.Maps.OwnSet
import Derived.Maps.RangeWalk
import Derived.Maps.Ext
import Derived.Test.YtpnlmfilmbodfaaGreatDoorVXA
import Derived.Shelf.SlIterI.Nil
import Derived.Shelf.SortM.Plain
import Derived.Shelf.SortM.SortNone
import Derived.Ground.GgzProg
import Derived.Ground.SlgmProg
namespace Go.Proofs.YtpnlmfilmbodfaaGreatDoor
open Go Go.RowKit Go.Shelf Go.Maps
theorem lawI : Keyed Tryz.prog 3 := int_keyed Tryz.underlying3
theorem und_counts : Tryz.prog.underlying 392 = some (.map 3 43) := by kernel_rfl
theorem zeroU (w : World) : (zeroValue 43).run Tryz.prog w = .ok (.int .u64 0) w := by kernel_rfl
def MapIs (W : World) (b K : Nat) (l : List (Int × Int)) : Prop := ∃ (nn : Nat) (D : DataW Unit), W.ownsMap Tryz.prog 3 (plainElem Tryz.prog 43) b nn D ∧ nn ≤ K ∧ ∀ p z, D.atKey (.int .i64 p) z = match binAt l p with
  | some x => .lit (.int .u64 x)
  | none => z
theorem MapIs.kept {W W' : World} {b K : Nat} {l : List (Int × Int)} {row : Option Nat} (h : MapIs W b K l) (hg : W.grownBy W' row) (hne : some b ≠ row) : MapIs W' b K l := by
  obtain ⟨nn, D, h1, h2⟩ := h
  exact ⟨nn, D, h1.kept hg hne, h2⟩
theorem MapIs.lt {W : World} {b K : Nat} {l : List (Int × Int)} (h : MapIs W b K l) : b < W.heap.size := by
  obtain ⟨nn, D, h1, h2⟩ := h
  exact h1.lt
theorem i64_wf {p : Int} (h : I64 p) : (Lit.int .i64 p).wf = true := WalkArith.wf_i64 h
theorem u64_wf {p : Int} (h : U64 p) : (Lit.int .u64 p).wf = true := by unfold U64 at h; simp [Lit.wf, IntKind.min, IntKind.max, IntKind.signed, IntKind.bits]; omega
def binGet (l : List (Int × Int)) (p : Int) : Int := (binAt l p).getD 0
theorem MapIs.look {W : World} {b K : Nat} {l : List (Int × Int)} (h : MapIs W b K l) {p : Int} (hp : I64 p) : (Instr.lookup 392 (.map (some b)) (.int .i64 p) false).run Tryz.prog W = .ok (.int .u64 (binGet l p)) W := by
  obtain ⟨nn, D, h1, h2, h3⟩ := h
  obtain ⟨c, hr, hc, -⟩ := h1.lookup_int (key := .int .i64 p) lawI und_counts Tryz.underlying43 (zeroU W) (keyOf_int_mk Tryz.underlying3 (i64_wf hp))
  rw [h3] at hc
  have e : c = binGet l p := by
    unfold binGet
    cases hb : binAt l p with
    | none => rw [hb] at hc; simpa using hc.symm
    | some x => rw [hb] at hc; simpa using hc.symm
  rw [← e]
  exact hr
theorem MapIs.update {W : World} {b K : Nat} {l : List (Int × Int)} (h : MapIs W b K l) {p n : Int} (hp : I64 p) (hn : U64 n) (hK : K ≤ 5000) (hu : BinUp l) (hbu : BinsU l) : ∃ w', (Instr.mapUpdate 392 (.map (some b)) (.int .i64 p) (.int .u64 (satI (binGet l p) n))).run Tryz.prog W = .ok () w' ∧ MapIs w' b (K + 1) (binPut l p n) ∧ W.grownBy w' (some b) := by
  obtain ⟨nn, D, h1, h2, h3⟩ := h
  have hv : U64 (satI (binGet l p) n) := by
    refine satI_u64 _ _ ?_ hn
    unfold binGet
    cases hb : binAt l p with
    | none => exact u64_0
    | some x => exact binAt_u64 hbu hb
  obtain ⟨w', hr, ho, hg⟩ := h1.update (key := .int .i64 p) lawI und_counts (by unfold maxLen; omega) (keyOf_int_mk Tryz.underlying3 (i64_wf hp)) (plainElem_int Tryz.underlying43 (u64_wf hv))
  refine ⟨w', hr, ⟨nn + 1, _, ho, by omega, fun q z => ?_⟩, hg⟩
  rw [binAt_put l p n q hu]
  by_cases hq : q = p
  · subst hq
    rw [if_pos rfl, atKey_put_same (k := .int .i64 q) (h1.tidy lawI).isMap trivial]
    unfold binUp binGet
    cases binAt l q with
    | none => simp only [Option.getD_none]; rw [satI_0 n hn]
    | some x => rfl
  · rw [if_neg hq, atKey_put_other (by simpa using hq)]
    exact h3 q z
set_option maxRecDepth 100000 in
set_option maxHeartbeats 2000000 in
theorem put_any (b K : Nat) (f : Int) (p n : Int) (l : List (Int × Int)) (w : World) (hm : MapIs w b K l) (hp : I64 p) (hn : U64 n) (hK : K ≤ 5000) (hu : BinUp l) (hb : BinsU l) :
    Calls Tryz.prog 345 #[.agg #[.map (some b), .int .i64 f], .int .i64 p, .int .u64 n] w fun e w' => e = .returned (.tuple #[]) ∧ MapIs w' b (K + 1) (binPut l p n) ∧ w.grownBy w' (some b) := by
  obtain ⟨W1, hW1, hX1, hB1, hs1⟩ := boxes1 w #[.map (some b), .int .i64 f] 394
  have hbl := hm.lt
  have hx : U64 (binGet l p) := by
    unfold binGet
    cases h : binAt l p with
    | none => exact u64_0
    | some x => exact binAt_u64 hb h
  have hM1 : MapIs W1.drew b K l := hm.kept (gb_drew (below_gb hB1 none)) (by simp)
  have hlk := hM1.look hp
  obtain ⟨W2, hW2, hX2, hB2, hs2⟩ := boxes1 W1.drew #[.int .u64 (binGet l p), .int .u64 n] 43
  have hM2 : MapIs W2 b K l := hM1.kept (below_gb hB2 none) (by simp)
  obtain ⟨W3, hup, hM3, hG3⟩ := hM2.update hp hn hK hu hb
  have HT := Lib.hid (htogether_any W1.drew.heap.size (binGet l p) n W2 (cCc hX2 0) (cCc hX2 1) hx hn)
  rw [show W1.drew.heap.size = w.heap.size + 1 from hs1] at HT
  have HW2 : Hid ((W1.alloc (.cells #[.int .u64 (binGet l p), .int .u64 n] 43)).drew = W2) := by rw [Hid, ← hW2]; rfl
  have hXd : W1.drew.heap[w.heap.size]? = some (.cells #[.map (some b), .int .i64 f] 394 (0, 0)) := hX1
  have hXe := known hB2 (Nat.le_refl _) hXd
  have y0 : W1.drew.cell? ⟨w.heap.size, 0, none⟩ = some (.map (some b)) := cCc hXd 0
  have z0 : W2.cell? ⟨w.heap.size, 0, none⟩ = some (.map (some b)) := cCc hXe 0
  have hG : w.grownBy W3 (some b) := ((gb_drew (below_gb hB1 (some b))).trans (below_gb hB2 (some b))).trans hG3
  have fin : Ending.returned (.tuple #[]) = Ending.returned (.tuple #[]) ∧ MapIs W3 b (K + 1) (binPut l p n) ∧ w.grownBy W3 (some b) := ⟨rfl, hM3, hG⟩
  generalize satI (binGet l p) n = s at hup HT
  generalize binGet l p = x at hlk HT HW2 hx
  clear hm hM1 hM2 hM3 hG3 hG hXd hXe hX1 hX2 hB1 hB2 hW2 hp hn hu hb hx
  go_enter Tryz.func345, Tryz.ntmps345
  go_wp2_with fail
  refine wp_region_any (by kernel_rfl) ?_
  change wpAny _ _ _ _ _ _ _ (World.drew _)
  refine wpAny_take (i := 0) (v := ?_) rfl (by kernel_rfl) (by kernel_rfl) (by kernel_rfl) (fun _ _ _ h => h) (Or.inl ⟨by rfl, ?_⟩) ?_
  rotate_left
  · intro w; go_simp; with_reducible rfl
  refine wpAny_take (i := 2) (v := ?_) rfl (by kernel_rfl) (by kernel_rfl) (by kernel_rfl) (fun _ _ _ h => h) (Or.inl ⟨by rfl, ?_⟩) ?_
  rotate_left
  · intro w; go_simp; with_reducible rfl
  refine wpAny_take (i := 3) (v := ?_) rfl (by kernel_rfl) (by kernel_rfl) (by kernel_rfl) (fun _ _ _ h => h) (Or.inl ⟨by rfl, ?_⟩) ?_
  rotate_left
  · intro w; go_simp; with_reducible rfl
  refine wpAny_take (i := 5) (v := ?_) rfl (by kernel_rfl) (by kernel_rfl) (by kernel_rfl) (fun _ _ _ h => h) (Or.inl ⟨by rfl, ?_⟩) ?_
  rotate_left
  · intro w; go_simp; with_reducible rfl
  refine wpAny_take (i := 7) (v := ?_) rfl (by kernel_rfl) (by kernel_rfl) (by kernel_rfl) (fun _ _ _ h => h) (Or.inl ⟨by rfl, ?_⟩) ?_
  rotate_left
  · intro w; go_simp; with_reducible rfl
  refine wpAny_ready (rs := [1, 4]) (by kernel_rfl) (by simp) ?_
  refine AllReady.cons rfl (fun K hK => ?_) ?_
  · go_simp
    refine hK _ _ ?_
    clear hK K
    refine wpAny_ready (rs := [4]) (by kernel_rfl) (by simp) ?_
    refine AllReady.cons rfl (fun K hK => ?_) ?_
    · go_simp
      refine hK _ _ ?_
      clear hK K
      refine wpAny_ready (rs := [6]) (by kernel_rfl) (by simp) ?_
      refine AllReady.cons rfl (fun K hK => ?_) ?_
      · go_simp
        refine hK _ _ ?_
        clear hK K
        refine wpAny_ready (rs := [8]) (by kernel_rfl) (by simp) ?_
        refine AllReady.cons rfl (fun K hK => ?_) ?_
        · go_simp
          rw [HW2.out]
          refine hK _ _ ?_
          clear hK K
          refine wpAny_ready (rs := [9]) (by kernel_rfl) (by simp) ?_
          refine AllReady.cons rfl (fun K hK => ?_) ?_
          · go_simp
            refine HT.out.mono ?_
            rintro e w5 ⟨rfl, rfl⟩
            refine hK _ _ ?_
            clear hK K
            refine wpAny_ready (rs := [10]) (by kernel_rfl) (by simp) ?_
            refine AllReady.cons rfl (fun K hK => ?_) ?_
            · go_simp
              refine hK _ _ ?_
              clear hK K
              refine wpAny_done (by kernel_rfl) ?_ _
              go_end0
              exact ⟨rfl, fin.2⟩
            exact AllReady.nil
          exact AllReady.nil
        exact AllReady.nil
      exact AllReady.nil
    exact AllReady.nil
  refine AllReady.cons rfl (fun K hK => ?_) ?_
  · go_simp
    refine hK _ _ ?_
    clear hK K
    refine wpAny_ready (rs := [1, 6]) (by kernel_rfl) (by simp) ?_
    refine AllReady.cons rfl (fun K hK => ?_) ?_
    · go_simp
      refine hK _ _ ?_
      clear hK K
      refine wpAny_ready (rs := [6]) (by kernel_rfl) (by simp) ?_
      refine AllReady.cons rfl (fun K hK => ?_) ?_
      · go_simp
        refine hK _ _ ?_
        clear hK K
        refine wpAny_ready (rs := [8]) (by kernel_rfl) (by simp) ?_
        refine AllReady.cons rfl (fun K hK => ?_) ?_
        · go_simp
          rw [HW2.out]
          refine hK _ _ ?_
          clear hK K
          refine wpAny_ready (rs := [9]) (by kernel_rfl) (by simp) ?_
          refine AllReady.cons rfl (fun K hK => ?_) ?_
          · go_simp
            refine HT.out.mono ?_
            rintro e w5 ⟨rfl, rfl⟩
            refine hK _ _ ?_
            clear hK K
            refine wpAny_ready (rs := [10]) (by kernel_rfl) (by simp) ?_
            refine AllReady.cons rfl (fun K hK => ?_) ?_
            · go_simp
              refine hK _ _ ?_
              clear hK K
              refine wpAny_done (by kernel_rfl) ?_ _
              go_end0
              exact ⟨rfl, fin.2⟩
            exact AllReady.nil
          exact AllReady.nil
        exact AllReady.nil
      exact AllReady.nil
    refine AllReady.cons rfl (fun K hK => ?_) ?_
    · go_simp
      refine hK _ _ ?_
      clear hK K
      refine wpAny_ready (rs := [1, 8]) (by kernel_rfl) (by simp) ?_
      refine AllReady.cons rfl (fun K hK => ?_) ?_
      · go_simp
        refine hK _ _ ?_
        clear hK K
        refine wpAny_ready (rs := [8]) (by kernel_rfl) (by simp) ?_
        refine AllReady.cons rfl (fun K hK => ?_) ?_
        · go_simp
          rw [HW2.out]
          refine hK _ _ ?_
          clear hK K
          refine wpAny_ready (rs := [9]) (by kernel_rfl) (by simp) ?_
          refine AllReady.cons rfl (fun K hK => ?_) ?_
          · go_simp
            refine HT.out.mono ?_
            rintro e w5 ⟨rfl, rfl⟩
            refine hK _ _ ?_
            clear hK K
            refine wpAny_ready (rs := [10]) (by kernel_rfl) (by simp) ?_
            refine AllReady.cons rfl (fun K hK => ?_) ?_
            · go_simp
              refine hK _ _ ?_
              clear hK K
              refine wpAny_done (by kernel_rfl) ?_ _
              go_end0
              exact ⟨rfl, fin.2⟩
            exact AllReady.nil
          exact AllReady.nil
        exact AllReady.nil
      refine AllReady.cons rfl (fun K hK => ?_) ?_
      · go_simp
        rw [HW2.out]
        refine hK _ _ ?_
        clear hK K
        refine wpAny_ready (rs := [1, 9]) (by kernel_rfl) (by simp) ?_
        refine AllReady.cons rfl (fun K hK => ?_) ?_
        · go_simp
          refine hK _ _ ?_
          clear hK K
          refine wpAny_ready (rs := [9]) (by kernel_rfl) (by simp) ?_
          refine AllReady.cons rfl (fun K hK => ?_) ?_
          · go_simp
            refine HT.out.mono ?_
            rintro e w5 ⟨rfl, rfl⟩
            refine hK _ _ ?_
            clear hK K
            refine wpAny_ready (rs := [10]) (by kernel_rfl) (by simp) ?_
            refine AllReady.cons rfl (fun K hK => ?_) ?_
            · go_simp
              refine hK _ _ ?_
              clear hK K
              refine wpAny_done (by kernel_rfl) ?_ _
              go_end0
              exact ⟨rfl, fin.2⟩
            exact AllReady.nil
          exact AllReady.nil
        refine AllReady.cons rfl (fun K hK => ?_) ?_
        · go_simp
          refine HT.out.mono ?_
          rintro e w5 ⟨rfl, rfl⟩
          refine hK _ _ ?_
          clear hK K
          refine wpAny_ready (rs := [1]) (by kernel_rfl) (by simp) ?_
          refine AllReady.cons rfl (fun K hK => ?_) ?_
          · go_simp
            refine hK _ _ ?_
            clear hK K
            refine wpAny_ready (rs := [10]) (by kernel_rfl) (by simp) ?_
            refine AllReady.cons rfl (fun K hK => ?_) ?_
            · go_simp
              refine hK _ _ ?_
              clear hK K
              refine wpAny_done (by kernel_rfl) ?_ _
              go_end0
              exact ⟨rfl, fin.2⟩
            exact AllReady.nil
          exact AllReady.nil
        exact AllReady.nil
      exact AllReady.nil
    exact AllReady.nil
  exact AllReady.nil
end Go.Proofs.YtpnlmfilmbodfaaGreatDoor
namespace Go.Proofs.YtpnlmfilmbodfaaGreatDoor
open Go Go.RowKit Go.Shelf Go.Maps
theorem mapIs_new (w : World) : MapIs (w.alloc (.map #[] 0)) w.heap.size 0 [] := ⟨0, _, World.ownsMap_made _ _ _ _, Nat.le_refl _, fun _ _ => rfl⟩
set_option maxRecDepth 100000 in
set_option maxHeartbeats 1000000 in
theorem hblank_any (f : Nat) (w : World) (hf : f ≤ 3) :
    Calls Tryz.prog 349 #[.int .i64 f] w fun e w' => ∃ b, e = .returned (.tuple #[.agg #[.map (some b), .int .i64 f], .nilIface]) ∧ MapIs w' b 0 [] ∧ w.heap.size ≤ b ∧ Below w.heap.size w w' := by
  have hib := isFine_ok f hf
  have hmm := @run_makeMap Tryz.prog
  obtain ⟨W0, hW0, hX0, hB0, hs0⟩ := boxes1 w #[.map none, .int .i64 0] 394
  obtain ⟨W1, hW1⟩ : ∃ W1, W0.alloc (.map #[] 0) = W1 := ⟨_, rfl⟩
  have hM1 : MapIs W1 (w.heap.size + 1) 0 [] := by rw [← hW1, ← hs0]; exact mapIs_new W0
  have hX1 : W1.heap[w.heap.size]? = some (.cells #[.map none, .int .i64 0] 394 (0, 0)) := by rw [← hW1]; exact (Below.heap_alloc _ _ _ (by omega)).trans hX0
  have hB1 : Below w.heap.size w W1 := by rw [← hW1]; exact hB0.alloc hB0.size _
  have d0 : W1.cell? ⟨w.heap.size, 0, none⟩ = some (.map none) := cCc hX1 0
  have d1 : W1.cell? ⟨w.heap.size, 1, none⟩ = some (.int .i64 0) := cCc hX1 1
  have g0 : W1.frozen? ⟨w.heap.size, 0, none⟩ = false := cFz hX1 0
  have g1 : W1.frozen? ⟨w.heap.size, 1, none⟩ = false := cFz hX1 1
  have hX2 := set_cells2 (u := .map (some (w.heap.size + 1))) (v := .int .i64 f) hX1
  have hB2 := (hB1.setCell (p := ⟨w.heap.size, 0, none⟩) (Nat.le_refl _) (.map (some (w.heap.size + 1)))).setCell (p := ⟨w.heap.size, 1, none⟩) (Nat.le_refl _) (.int .i64 f)
  have hM2 := (hM1.kept (gb_set W1 w.heap.size 0 (.map (some (w.heap.size + 1)))) (by simp)).kept (gb_set _ w.heap.size 1 (.int .i64 f)) (by simp)
  clear hX0 hX1 hB0 hB1 hM1
  go_enter Tryz.func349, Tryz.ntmps349
  go_wp2_with (first | (go_at_call 236; refine (hib _).mono ?_; rintro e w' ⟨rfl, rfl⟩) | fail)
  generalize (W1.setCell ⟨w.heap.size, 0, none⟩ (.map (some (w.heap.size + 1)))).setCell ⟨w.heap.size, 1, none⟩ (.int .i64 f) = V at hX2 hB2 hM2 ⊢
  have k0 : V.cell? ⟨w.heap.size, 0, none⟩ = some (.map (some (w.heap.size + 1))) := cCc hX2 0
  have k1 : V.cell? ⟨w.heap.size, 1, none⟩ = some (.int .i64 f) := cCc hX2 1
  exact bodyPost_ret (v := .tuple #[.agg #[.map (some (w.heap.size + 1)), .int .i64 f], .nilIface]) (by simp [results, Tryz.f349, go_sem, k0, k1]) rfl ⟨_, rfl, hM2, Nat.le_succ _, hB2⟩
end Go.Proofs.YtpnlmfilmbodfaaGreatDoor
namespace Go.Proofs
open Go.RowKit Go.Maps Go.Sort Go.Shelf
def Tryz.keysA_ren : Go.Shelf.Ren := ⟨fun | 7 => 352 | 10 => 356 | n => n, fun | 23 => 392 | 26 => 3 | 3 => 43 | 28 => 195 | 0 => 0 | 27 => 194 | 33 => 153 | 4 => 4 | n => n, fun | n => n⟩
theorem Tryz.keysA : Go.Proofs.SlLaysZI.n7 Tryz.prog Tryz.keysA_ren := {
  mixed := by kernel_rfl
  f7 := ⟨Tryz.f352.name, by decide, Tryz.func352.trans (congrArg some (by kernel_rfl))⟩
  f10 := ⟨Tryz.f356.name, by decide, Tryz.func356.trans (congrArg some (by kernel_rfl))⟩
  t0 := by kernel_rfl
  a0 := fun w => by kernel_rfl
  z0 := fun w => by kernel_rfl
  v0 := fun w => by kernel_rfl
  t4 := by kernel_rfl
  a4 := fun w => by kernel_rfl
  z4 := fun w => by kernel_rfl
  v4 := fun w => by kernel_rfl
  t23 := by kernel_rfl
  a23 := fun w => by kernel_rfl
  z23 := fun w => by kernel_rfl
  v23 := fun w => by kernel_rfl
  t26 := by kernel_rfl
  a26 := fun w => by kernel_rfl
  z26 := fun w => by kernel_rfl
  v26 := fun w => by kernel_rfl
  t27 := by kernel_rfl
  a27 := fun w => by kernel_rfl
  z27 := fun w => by kernel_rfl
  v27 := fun w => by kernel_rfl
  t28 := by kernel_rfl
  a28 := fun w => by kernel_rfl
  z28 := fun w => by kernel_rfl
  v28 := fun w => by kernel_rfl
  t33 := by kernel_rfl
  a33 := fun w => by kernel_rfl
  z33 := fun w => by kernel_rfl
  v33 := fun w => by kernel_rfl }
def Tryz.sortedA_ren : Go.Shelf.Ren := ⟨fun | 6 => 351 | 8 => 354 | 9 => 355 | 11 => 357 | n => n, fun | 26 => 3 | 28 => 195 | 24 => 66 | 0 => 0 | 3 => 3 | 33 => 153 | n => n, fun | n => n⟩
theorem Tryz.sortedA : Go.Proofs.SlLaysZI.n6 Tryz.prog Tryz.sortedA_ren := {
  mixed := by kernel_rfl
  f6 := ⟨Tryz.f351.name, by decide, Tryz.func351.trans (congrArg some (by kernel_rfl))⟩
  f8 := ⟨Tryz.f354.name, by decide, Tryz.func354.trans (congrArg some (by kernel_rfl))⟩
  f11 := ⟨Tryz.f357.name, by decide, Tryz.func357.trans (congrArg some (by kernel_rfl))⟩
  t0 := by kernel_rfl
  a0 := fun w => by kernel_rfl
  z0 := fun w => by kernel_rfl
  v0 := fun w => by kernel_rfl
  t24 := by kernel_rfl
  a24 := fun w => by kernel_rfl
  z24 := fun w => by kernel_rfl
  v24 := fun w => by kernel_rfl
  t26 := by kernel_rfl
  a26 := fun w => by kernel_rfl
  z26 := fun w => by kernel_rfl
  v26 := fun w => by kernel_rfl
  t28 := by kernel_rfl
  a28 := fun w => by kernel_rfl
  z28 := fun w => by kernel_rfl
  v28 := fun w => by kernel_rfl
  i26 := by kernel_rfl }
end Go.Proofs
namespace Go.Proofs.YtpnlmfilmbodfaaGreatDoor
open Go Go.RowKit Go.Shelf Go.Maps Go.Sort
theorem sortsA (m : Nat) : AnyZI.SortsIn Tryz.prog Tryz.sortedA_ren Fence.wide m :=
  ⟨fun blk off cap ss W hH hblk hsz => callsIn_wide.2 (Tryz.slices_Sort_int blk off cap ss W hH hblk hsz), fun p cap W => callsIn_wide.2 (Tryz.slices_Sort_int_none p cap W)⟩
theorem keys_any (mb : Option Nat) (W : World) : Calls Tryz.prog 352 #[.map mb] W fun e w' => e = .returned (.func (.func 356) #[] #[.pointer (some ⟨W.heap.size, 0, none⟩)]) ∧ w' = W.alloc (.cells #[.map mb] 392) :=
  (callsIn_wide (n := 5)).1 (AnyZI.keys_in Tryz.keysA Fence.wide 5 trivial rfl mb W)
theorem sorted_any (b nn : Nat) (D : DataW Unit) (w : World) (hown : w.ownsMap Tryz.prog 3 (plainElem Tryz.prog 43) b nn D) (hs : Maps.size D ≤ 100000) :
    Calls Tryz.prog 351 #[.func (.func 356) #[] #[.pointer (some ⟨w.heap.size, 0, none⟩)]] (w.alloc (.cells #[.map (some b)] 392)) fun e w' => ∃ (v : Value) (ss : List Int), e = .returned v ∧ ss.Perm (intKeys D) ∧
      w'.ownsRow w.heap.size 3 1 v ss.length ((ss.mergeSort (fun x y => decide (x ≤ y))).map encZ) ∧ (v = .slice none 0 0 ↔ ss = []) ∧ Below w.heap.size w w' := by
  have hbl := hown.lt
  have hseq : SeqGives Fence.wide 2 Tryz.prog 356 #[.pointer (some ⟨w.heap.size, 0, none⟩)] encZ (fun ss => ss.Perm (intKeys D)) (Maps.size D) (w.alloc (.cells #[.map (some b)] 392)) :=
    AnyZI.keys_gives (ρ := Tryz.keysA_ren) { Tryz.keysA with } Fence.wide _ trivial rfl (by omega) w.heap.size b nn D _ (by simp) (by simp) (by
      obtain ⟨es, clock, hb, Ft, hs, hD⟩ := hown
      exact ⟨es, clock, (Below.heap_alloc _ _ b hbl).trans hb, Ft, hs, hD⟩)
  have cS := AnyZI.sorted_in Tryz.sortedA Fence.wide 5 trivial trivial trivial trivial rfl (by omega) (sortsA _) (enters_of Tryz.func355 (by kernel_rfl) rfl) 356 #[.pointer (some ⟨w.heap.size, 0, none⟩)] trivial (enters_of Tryz.func356 (by kernel_rfl) rfl) _ _ (by unfold maxLen; omega) (by omega) _ hseq
  change CallsIn _ _ Tryz.prog 351 _ _ _ at cS
  refine (callsIn_wide (n := 5)).1 (cS.mono ?_)
  rintro e w' ⟨v, ss, h1, h2, h3, h4, h5⟩
  exact ⟨v, ss, h1, h2, owns_base h3 (by simp), h4, ((Below.refl _ w).alloc (Nat.le_refl _) _).trans (h5.mono (by simp))⟩
end Go.Proofs.YtpnlmfilmbodfaaGreatDoor
namespace Go.Proofs.YtpnlmfilmbodfaaGreatDoor
open Go Go.RowKit Go.Shelf Go.Maps Go.Sort
theorem binAt_done : ∀ (l : List (Int × Int)) (p : Int), BinUp l → binAt (hiDone l) p = match binAt l p with
    | some x => if x = 0 then none else some x
    | none => none
  | [], p, _ => rfl
  | (q, m) :: t, p, h => by
    obtain ⟨h1, h2⟩ := binUp_tail h
    have ih := binAt_done t p h1
    have hno : q = p → binAt (hiDone t) p = none := fun e => binAt_none (fun c hc => by have := h2 c (List.mem_filter.1 hc).1; rw [← e]; exact this)
    rw [binAt_cons]
    unfold hiDone
    rw [List.filter_cons]
    by_cases hm : m = 0
    · subst hm
      rw [if_neg (by simp)]
      by_cases hq : q = p
      · rw [if_pos hq]; exact hno hq
      · rw [if_neg hq]; exact ih
    · rw [if_pos (by simpa using hm), binAt_cons]
      by_cases hq : q = p
      · rw [if_pos hq, if_pos hq]; simp [hm]
      · rw [if_neg hq, if_neg hq]; exact ih
theorem binAt_of : ∀ {l : List (Int × Int)} {p x : Int}, binAt l p = some x → p ∈ l.map Prod.fst
  | b :: t, p, x, h => by
    rw [binAt_cons] at h
    split at h
    · rename_i e; simp [e]
    · exact List.mem_cons_of_mem _ (binAt_of h)
theorem binAt_mem : ∀ {l : List (Int × Int)} {p : Int}, p ∈ l.map Prod.fst → binAt l p ≠ none
  | b :: t, p, h => by
    rw [binAt_cons]
    split
    · simp
    · rename_i hne
      rcases List.mem_cons.1 h with e | h
      · exact absurd e.symm hne
      · exact binAt_mem h
theorem binAt_get : ∀ {l : List (Int × Int)}, BinUp l → ∀ {b : Int × Int}, b ∈ l → binAt l b.1 = some b.2
  | c :: t, hu, b, h => by
    obtain ⟨h1, h2⟩ := binUp_tail hu
    rw [binAt_cons]
    rcases List.mem_cons.1 h with rfl | h
    · simp
    · have := h2 b h
      rw [if_neg (by omega)]
      exact binAt_get h1 h
def Swept (l : List (Int × Int)) (left : Lit → Bool) (D : DataW Unit) : Prop := ∀ p z, D.atKey (.int .i64 p) z = match binAt l p with
  | some x => if x = 0 ∧ left (.int .i64 p) = false then z else .lit (.int .u64 x)
  | none => z
theorem swept_start {l : List (Int × Int)} {D : DataW Unit} (h : ∀ p z, D.atKey (.int .i64 p) z = match binAt l p with
  | some x => .lit (.int .u64 x)
  | none => z) : Swept l (Maps.has D) D := fun p z => by
  have h1 := h p
  rw [h1 z]
  cases hb : binAt l p with
  | none => rfl
  | some x =>
    rw [hb] at h1
    have := has_true_of_atKey (k := .int .i64 p) h1
    simp [this]
theorem swept_val {l : List (Int × Int)} {left : Lit → Bool} {D : DataW Unit} {x c : Int} (h : Swept l left D) (hat : ∀ zd, D.atKey (.int .i64 x) zd = .lit (.int .u64 c)) : binAt l x = some c := by
  have h1 := (h x (.lit (.bool true))).symm.trans (hat _)
  cases hb : binAt l x with
  | none => rw [hb] at h1; simp at h1
  | some v =>
    rw [hb] at h1
    simp only at h1
    split at h1
    · simp at h1
    · simp at h1; rw [h1]
theorem sameKey_int (q x : Int) : (Lit.int .i64 q).sameKey (.int .i64 x) = decide (q = x) := by
  by_cases h : q = x
  · subst h; rw [WideAt.sameKey_self (a := .int .i64 q) trivial]; simp
  · rw [sameKey_ne (by simpa using h)]; simp [h]
theorem swept_struck {l : List (Int × Int)} {left : Lit → Bool} {D : DataW Unit} {x : Int} (h : Swept l left D) (hat : ∀ zd, D.atKey (.int .i64 x) zd = .lit (.int .u64 0)) : Swept l (fun z => left z && !z.sameKey (.int .i64 x)) (D.del (.int .i64 x)) := fun q z => by
  have hv := swept_val h hat
  by_cases hq : q = x
  · subst hq
    rw [atKey_del_same, hv]
    simp [sameKey_int]
  · rw [atKey_del_other (by simpa using hq), h q z]
    simp [sameKey_int, hq]
theorem swept_stays {l : List (Int × Int)} {left : Lit → Bool} {D : DataW Unit} {x c : Int} (h : Swept l left D) (hc : c ≠ 0) (hat : ∀ zd, D.atKey (.int .i64 x) zd = .lit (.int .u64 c)) : Swept l (fun z => left z && !z.sameKey (.int .i64 x)) D := fun q z => by
  have hv := swept_val h hat
  rw [h q z]
  by_cases hq : q = x
  · subst hq
    rw [hv]
    simp [hc]
  · simp [sameKey_int, hq]
theorem swept_end {l : List (Int × Int)} {left : Lit → Bool} {D : DataW Unit} (hu : BinUp l) (h : Swept l left D) (hl : ∀ k, left k = false) : ∀ p z, D.atKey (.int .i64 p) z = match binAt (hiDone l) p with
  | some x => .lit (.int .u64 x)
  | none => z := fun p z => by
  rw [h p z, binAt_done l p hu]
  cases binAt l p with
  | none => rfl
  | some x =>
    by_cases hx : x = 0
    · simp [hx, hl]
    · simp [hx]
theorem done_keys {w : World} {b nn : Nat} {D : DataW Unit} {l : List (Int × Int)} (hown : w.ownsMap Tryz.prog 3 (plainElem Tryz.prog 43) b nn D) (hu : BinUp l) (hE : ∀ p z, D.atKey (.int .i64 p) z = match binAt l p with
    | some x => .lit (.int .u64 x)
    | none => z) {ss : List Int} (h : ss.Perm (intKeys D)) : ss.mergeSort (fun x y => decide (x ≤ y)) = l.map Prod.fst := by
  obtain ⟨es, hD, hpw, _⟩ := hown.entries lawI
  obtain ⟨es', hD', hko⟩ := hown.keysOf
  obtain rfl : es = es' := by rw [hD] at hD'; simpa using hD'
  subst hD
  have hup : (l.map Prod.fst).Pairwise (· < ·) := List.pairwise_map.2 hu
  have hp := perm_intKeys hpw (fun p hp => by obtain ⟨v, hv⟩ := hko p hp; obtain ⟨x, _, hx, _⟩ := Maps.keyOf_i64 Tryz.underlying3 hv; exact ⟨x, hx⟩) (ss := l.map Prod.fst) (hup.imp (fun {a b} h => by omega)) (fun x => by
    cases hb : binAt l x with
    | none =>
      have h1 : ∀ z, (DataW.map es).atKey (.int .i64 x) z = z := fun z => by rw [hE x z, hb]
      rw [has_false_of_atKey h1]
      refine ⟨fun hx => ?_, fun h => by simp at h⟩
      exact absurd hb (binAt_mem hx)
    | some y =>
      have h1 : ∀ z, (DataW.map es).atKey (.int .i64 x) z = .lit (.int .u64 y) := fun z => by rw [hE x z, hb]
      rw [has_true_of_atKey h1]
      exact ⟨fun _ => rfl, fun _ => binAt_of hb⟩)
  rw [show (fun x y : Int => decide (x ≤ y)) = leI from rfl, mergeSort_of_perm_i (h.trans hp.symm)]
  exact List.mergeSort_of_pairwise (hup.imp (fun {a b} h => by simp; omega))
theorem gb_below {A B C : World} {row : Option Nat} (h : A.grownBy B row) (hb : Below A.heap.size B C) : A.grownBy C row := ⟨hb.os.trans h.os, hb.tape.trans h.tape, hb.output.trans h.output, Nat.le_trans h.size hb.size, fun k hk hne => (hb.block k hk).trans (h.block k hk hne)⟩
theorem meas_succ {k n : Nat} (h : k < n) : n - (k + 1) < n - k := by omega
theorem slC_of_owns_set {α : Type} {enc : α → List Value} {w : World} {base e size : Nat} {v : Value} {l : List α} (hk : ∀ x, (enc x).length = size) (h : w.ownsRow base e size v l.length (l.flatMap enc)) {b : Nat} (hb : b < base) (u z : Value) :
    ∃ a cap, v = .slice a l.length cap ∧ SlC enc size ((w.setCell ⟨b, 0, none⟩ u).setCell ⟨b, 1, none⟩ z).heap.size ((w.setCell ⟨b, 0, none⟩ u).setCell ⟨b, 1, none⟩ z) a l.length cap l ∧ ∀ x, a = some x → base ≤ x.block :=
  slC_of_owns hk (ownsRow_setCell_below (ownsRow_setCell_below h (a := ⟨b, 0, none⟩) hb u) (a := ⟨b, 1, none⟩) hb z)
abbrev encI : Int → List Value := fun x => [encZ x]
theorem flat_encI : ∀ l : List Int, l.flatMap encI = l.map encZ
  | [] => rfl
  | x :: t => by rw [List.flatMap_cons, flat_encI t]; rfl
theorem int_cell {n₀ : Nat} {w : World} {a : Option Addr} {len : Nat} {l : List Int} (h : SlE encI 1 n₀ w a len l) {j : Nat} (hj : j < len) : ∃ x b off, l[j]? = some x ∧ a = some ⟨b, off, none⟩ ∧ b < n₀ ∧ w.cell? ⟨b, off + j, none⟩ = some (.int .i64 x) := by
  obtain ⟨x, b, off, hx, e, hb, hc⟩ := h.at hj
  have := hc 0 (by omega)
  rw [Nat.mul_one, Nat.add_zero] at this
  exact ⟨x, b, off, hx, e, hb, this⟩
attribute [-go_sem] Builtin.append_
theorem sorted_done (b nn : Nat) (D : DataW Unit) (w : World) (l : List (Int × Int)) (hown : w.ownsMap Tryz.prog 3 (plainElem Tryz.prog 43) b nn D) (hs : Maps.size D ≤ 100000) (hu : BinUp l) (hE : ∀ p z, D.atKey (.int .i64 p) z = match binAt l p with
    | some x => .lit (.int .u64 x)
    | none => z) :
    Calls Tryz.prog 351 #[.func (.func 356) #[] #[.pointer (some ⟨w.heap.size, 0, none⟩)]] (w.alloc (.cells #[.map (some b)] 392)) fun e w' => ∃ a5 c5, e = .returned (.slice a5 l.length c5) ∧
      SlC encI 1 w'.heap.size w' a5 l.length c5 (l.map Prod.fst) ∧ (∀ x, a5 = some x → w.heap.size ≤ x.block) ∧ Below w.heap.size w w' := by
  refine (sorted_any b nn D w hown hs).mono ?_
  rintro e w5 ⟨v5, ss, rfl, hperm, hrow, hnil, hb5⟩
  have hk := done_keys hown hu hE hperm
  have hlss : ss.length = l.length := by have := congrArg List.length hk; simpa using this
  rw [hk, hlss] at hrow
  obtain ⟨a5, c5, rfl, hs5, hb5'⟩ := slC_of_owns (enc := encI) (l := l.map Prod.fst) (fun _ => rfl) (by rw [List.length_map]; rw [flat_encI]; exact hrow)
  rw [List.length_map] at hs5 ⊢
  exact ⟨a5, c5, rfl, hs5, hb5', hb5⟩
set_option maxRecDepth 100000 in
set_option maxHeartbeats 2000000 in
theorem hdone9_any (b K : Nat) (f : Int) (l : List (Int × Int)) (w : World) (hm : MapIs w b K l) (hu : BinUp l) (hb : BinsU l) (hi : ∀ c ∈ l, I64 c.1) (hlen : l.length ≤ 5000) (hK : K ≤ 5000) :
    Calls Tryz.prog 347 #[.agg #[.map (some b), .int .i64 f]] w fun e w' => ∃ a len cap, e = .returned (.agg #[.int .i64 f, .slice a len cap]) ∧ SlC encB 2 w'.heap.size w' a len cap (hiDone l) ∧ (∀ x, a = some x → w.heap.size ≤ x.block) ∧ w.grownBy w' (some b) := by
  obtain ⟨W1, hW1, hX1, hR1, hB1, hs1⟩ := boxes2 w #[.map (some b), .int .i64 f] 394 #[.int .i64 0, .slice none 0 0] 31
  obtain ⟨nn, D0, hown0, hnn, hD0⟩ := hm
  have hbl := hown0.lt
  have hown : W1.ownsMap Tryz.prog 3 (plainElem Tryz.prog 43) b nn D0 := hown0.kept (below_gb hB1 none) (by simp)
  have c0 : W1.cell? ⟨w.heap.size, 0, none⟩ = some (.map (some b)) := cCc hX1 0
  have c1 : W1.cell? ⟨w.heap.size, 1, none⟩ = some (.int .i64 f) := cCc hX1 1
  go_enter Tryz.func347, Tryz.ntmps347
  go_wp2_with (first
    | (at_range; refine wpList_range_own _ rfl _ 392 rfl 3 43 lawI und_counts _ b nn _ rfl hown ?_; intro w0 hrg0 hg0 hs0)
    | go_in)
  go_frame
  have hz0 : w0.heap.size = w.heap.size + 3 := by rw [hs0, hs1]
  rw [hs1] at hrg0 ⊢
  have HZ0 : Hid (w0.heap.size = w.heap.size + 3) := hz0
  have HS1 : Hid (W1.heap.size = w.heap.size + 2) := hs1
  have HX1 := Lib.hid hX1
  have HR1 := Lib.hid hR1
  have HB1 := Lib.hid hB1
  clear hs0 hs1 hz0 hX1 hR1 hB1
  go_loopw [3, 4] (fun _ _ wr => ∃ (left : Lit → Bool) (cnt : Nat) (D : DataW Unit), wr.ranges Tryz.prog 3 (plainElem Tryz.prog 43) b (w.heap.size + 2) nn D left cnt ∧ Swept l left D ∧ W1.grownBy wr (some b))
    (fun _ _ wr => wr.rangeLeft b (w.heap.size + 2))
  case atStart => exact ⟨_, _, _, hrg0, swept_start hD0, hg0.but _⟩
  case round =>
    obtain ⟨left, cnt, D, hrg, hS, hgw⟩ := hrel
    have hXr := (hgw.block w.heap.size (by have := HS1.out; omega) (fun e => by have := Option.some.inj e; omega)).trans HX1.out
    have hRr := (hgw.block (w.heap.size + 1) (by have := HS1.out; omega) (fun e => by have := Option.some.inj e; omega)).trans HR1.out
    have HRr := Lib.hid hRr
    have HXr := Lib.hid hXr
    have HS := Lib.hid hS
    have HGW := Lib.hid hgw
    clear hXr hRr hS hgw
    go_wp2_with (first
      | (at_next; refine wpList_next_ranges_ii _ rfl _ rfl 3 43 .i64 .u64 lawI Tryz.underlying3 Tryz.underlying43 b (w.heap.size + 2) nn _ _ _ rfl hrg ?_ ?_)
      | go_in)
    · intro _ hl0
      have hE := swept_end hu HS.out hl0
      have hown2 := hrg.owns
      have u0 : wr.cell? ⟨w.heap.size, 0, none⟩ = some (.map (some b)) := cCc HXr.out 0
      have u1 : wr.cell? ⟨w.heap.size, 1, none⟩ = some (.int .i64 f) := cCc HXr.out 1
      obtain ⟨W2, hW2, hX2, hB2, hs2⟩ := boxes1 wr #[.int .i64 f, .slice none 0 0] 31
      have hown3 : W2.ownsMap Tryz.prog 3 (plainElem Tryz.prog 43) b nn D := hown2.kept (below_gb hB2 none) (by simp)
      have hXw2 := known hB2 (Nat.le_refl _) HXr.out
      have hX3 : (W2.setCell ⟨wr.heap.size, 1, none⟩ (.slice none 0 0)).heap[wr.heap.size]? = some (.cells #[.int .i64 f, .slice none 0 0] 31 (0, 0)) := hSk hX2 (.slice none 0 0)
      have hX3w := (Below.heap_setCell W2 ⟨wr.heap.size, 1, none⟩ (.slice none 0 0) w.heap.size (by have := (Array.getElem?_eq_some_iff.1 HXr.out).1; simp; omega)).trans hXw2
      have hown4 := hown3.kept (gb_set W2 wr.heap.size 1 (.slice none 0 0)) (by have := hown2.lt; simp; omega)
      have hB3 := hB2.setCell (p := ⟨wr.heap.size, 1, none⟩) (Nat.le_refl _) (.slice none 0 0)
      have v0 : W2.cell? ⟨w.heap.size, 0, none⟩ = some (.map (some b)) := cCc hXw2 0
      have v1 : W2.cell? ⟨w.heap.size, 1, none⟩ = some (.int .i64 f) := cCc hXw2 1
      have x0 : W2.cell? ⟨wr.heap.size, 0, none⟩ = some (.int .i64 f) := cCc hX2 0
      have x1 : W2.cell? ⟨wr.heap.size, 1, none⟩ = some (.slice none 0 0) := cCc hX2 1
      have y0 : W2.frozen? ⟨wr.heap.size, 0, none⟩ = false := cFz hX2 0
      have y1 : W2.frozen? ⟨wr.heap.size, 1, none⟩ = false := cFz hX2 1
      obtain ⟨W3, hW3⟩ : ∃ W3, W2.setCell ⟨wr.heap.size, 1, none⟩ (.slice none 0 0) = W3 := ⟨_, rfl⟩
      rw [hW3] at hX3 hX3w hown4 hB3
      have hs3 : W3.heap.size = wr.heap.size + 1 := by rw [← hW3]; simpa using hs2
      have HSO := Lib.hid (sorted_done b nn D W3 (hiDone l) hown4 (by have := hown4.size_le; omega) (hiDone_up hu) hE)
      have HX3 := Lib.hid hX3
      have HXW3 := Lib.hid hX3w
      have HB3 := Lib.hid hB3
      have HS3 := Lib.hid hs3
      have HM3 : Hid (MapIs W3 b nn (hiDone l)) := ⟨nn, D, hown4, Nat.le_refl _, hE⟩
      have HL : Hid (BinUp (hiDone l) ∧ BinsU (hiDone l) ∧ (∀ c ∈ hiDone l, I64 c.1) ∧ (hiDone l).length ≤ 5000) := ⟨hiDone_up hu, hiDone_u64 hb, fun c hc => hi c (List.mem_filter.1 hc).1, Nat.le_trans (hiDone_len l) hlen⟩
      obtain ⟨L, hLe⟩ : ∃ L, hiDone l = L := ⟨_, rfl⟩
      have HLe := Lib.hid hLe
      rw [hLe] at HM3 HSO HL hE
      clear hLe
      have z0 : W3.cell? ⟨w.heap.size, 0, none⟩ = some (.map (some b)) := cCc hX3w 0
      have z1 : W3.cell? ⟨w.heap.size, 1, none⟩ = some (.int .i64 f) := cCc hX3w 1
      clear hrg hXw2 hX2 u0 hX3 hX3w hB3 hs3 hown4 hown3 hown2 hB2
      go_wp2_with (first | (go_at_call 352; refine (keys_any _ _).mono ?_; rintro e w' ⟨rfl, rfl⟩) | (go_at_call 351; refine HSO.out.mono ?_; rintro e w5 ⟨a5, c5, rfl, hs5, hb5', hb5⟩) | fail)
      obtain ⟨X, hX⟩ : ∃ X, wr.heap.size = X := ⟨_, rfl⟩
      have HX := Lib.hid hX
      rw [hX] at HX3 HS3 HB3 ⊢
      have HS5 := Lib.hid hs5
      have HB5 := Lib.hid hb5
      have HB5' := Lib.hid hb5'
      have hx5 := known hb5 (Nat.le_refl _) HX3.out
      have hy5 := known hb5 (Nat.le_refl _) HXW3.out
      have HXW5 := Lib.hid hy5
      have HM5 : Hid (MapIs w5 b nn L) := HM3.out.kept (below_gb hb5 none) (by simp)
      have hz5 : W3.heap.size ≤ w5.heap.size := hb5.size
      have HR5 : Hid (w5.heap[w.heap.size + 1]? = some (.cells #[.int .i64 0, .slice none 0 0] 31 (0, 0))) := known hb5 (Nat.le_refl _) (known HB3.out (by omega) HRr.out)
      have HG5 : Hid (w.grownBy w5 (some b)) := ((below_gb HB1.out (some b)).trans (gb_below (gb_below HGW.out (HB3.out.mono (by rw [← hX]; exact HGW.out.size))) (hb5.mono (by have := HGW.out.size; have := HS3.out; omega))))
      have HZ5 := Lib.hid hz5
      clear hy5 hs5 hb5 hb5' HXr HS HGW HSO HXW3 HM3 hX u1 v0 v1 x0 x1 y0 y1 z0 z1 hE hl0 hs2 hW2 hW3 hz5
      go_loopw [7, 29] (fun _ i wk => ∃ (k : Nat) (v : Value), k ≤ L.length ∧ i = .int .i64 k ∧ wk.heap[X]? = some (.cells #[.int .i64 f, v] 31 (0, 0)) ∧ wk.ownsRow w5.heap.size 192 2 v k ((L.take k).flatMap encB) ∧ w5.grownBy wk (some X)) (fun _ i _ => L.length - (intOf i).toNat)
      case atStart => exact ⟨0, _, Nat.zero_le _, rfl, hx5, ⟨rfl, Or.inl ⟨rfl, rfl⟩⟩, World.grownBy.refl _ _⟩
      case round =>
        obtain ⟨k, v, hk, rfl, hXk, hrow, hG⟩ := hrel
        have hXb : X < w5.heap.size := (Array.getElem?_eq_some_iff.1 hx5).1
        have hwX : w.heap.size < X := by have := HX.out; have := (Array.getElem?_eq_some_iff.1 HXW5.out).1; have := HB3.out.size; have := (Array.getElem?_eq_some_iff.1 HRr.out).1; omega
        have hXw := (hG.block _ (Array.getElem?_eq_some_iff.1 HXW5.out).1 (fun e => by have := Option.some.inj e; omega)).trans HXW5.out
        have hGs := hG.size
        by_cases hlt : k < L.length
        · obtain ⟨y, hy⟩ : ∃ y, L[k]? = some y := ⟨_, List.getElem?_eq_getElem hlt⟩
          obtain ⟨x, b5, o5, hx, rfl, hb5, hc5⟩ := int_cell HS5.out.1 hlt
          obtain rfl : x = y.1 := by rw [List.getElem?_map, hy] at hx; simpa using hx.symm
          have hb3 : W3.heap.size ≤ b5 := HB5'.out _ rfl
          have hbX : b5 ≠ X := by have := HS3.out; omega
          have hck : wr.cell? ⟨b5, o5 + k, none⟩ = some (.int .i64 y.1) := by rw [← hc5]; exact World.cell?_of_block (hG.block _ hb5 (fun e => hbX (Option.some.inj e)))
          have hmk : MapIs wr b nn L := HM5.out.kept hG (by simp; omega)
          have hget : binGet L y.1 = y.2 := by unfold binGet; rw [binAt_get HL.out.1 (List.mem_of_getElem? hy)]; rfl
          have hy1 : I64 y.1 := HL.out.2.2.1 y (List.mem_of_getElem? hy)
          have hlk := hmk.look hy1
          rw [hget] at hlk
          obtain ⟨g, cap, w1, hap, hrow1, hB1, hz1, hbl1, hoth1⟩ := append_one Tryz.prog 29 und_bin info_bin rfl (by decide) hrow (Below.refl w5.heap.size wr) (Nat.le_refl _) hGs (encB y) rfl (one_bin y) (by have := HL.out.2.2.2; omega) (by decide)
          have p0 : wr.cell? ⟨w.heap.size, 0, none⟩ = some (.map (some b)) := cCc hXw 0
          have p1 : wr.cell? ⟨w.heap.size, 1, none⟩ = some (.int .i64 f) := cCc hXw 1
          have q0 : wr.cell? ⟨X, 0, none⟩ = some (.int .i64 f) := cCc hXk 0
          have q1 : wr.cell? ⟨X, 1, none⟩ = some (v) := cCc hXk 1
          have r0 : wr.frozen? ⟨X, 0, none⟩ = false := cFz hXk 0
          have r1 : wr.frozen? ⟨X, 1, none⟩ = false := cFz hXk 1
          rw [show (encB y).toArray = #[.int .i64 y.1, .int .u64 y.2] from rfl] at hap
          have hX1k := (hbl1 X hXb).trans hXk
          have s0 : w1.cell? ⟨X, 0, none⟩ = some (.int .i64 f) := cCc hX1k 0
          have s1 : w1.cell? ⟨X, 1, none⟩ = some (v) := cCc hX1k 1
          have t0 : w1.frozen? ⟨X, 0, none⟩ = false := cFz hX1k 0
          have t1 : w1.frozen? ⟨X, 1, none⟩ = false := cFz hX1k 1
          have hX2k : (w1.setCell ⟨X, 1, none⟩ (.slice (some ⟨g, 0, none⟩) (k + 1) cap)).heap[X]? = some (.cells #[.int .i64 f, .slice (some ⟨g, 0, none⟩) (k + 1) cap] 31 (0, 0)) := hSk hX1k _
          have hrow2 := ownsRow_setCell_below hrow1 (a := ⟨X, 1, none⟩) hXb (.slice (some ⟨g, 0, none⟩) (k + 1) cap)
          have hG2 : w5.grownBy (w1.setCell ⟨X, 1, none⟩ (.slice (some ⟨g, 0, none⟩) (k + 1) cap)) (some X) := (gb_below hG hB1).trans (gb_set _ _ _ _)
          clear hbl1 hoth1 hrow1 hrow hXk hX1k hB1
          have hL5 : L.length ≤ 5000 := HL.out.2.2.2
          go_wp2_with fail
          go_roundw
          case rel => exact ⟨k + 1, _, hlt, by simp, hX2k, by rw [take_snoc' hy, List.flatMap_append]; simpa using hrow2, hG2⟩
          case measure => simp [intOf]; exact meas_succ hlt
        · obtain rfl : k = L.length := by omega
          rw [List.take_length] at hrow
          have hbase : w.heap.size + 1 < w5.heap.size := (Array.getElem?_eq_some_iff.1 HR5.out).1
          obtain ⟨a, cap, rfl, hab⟩ : ∃ a cap, v = .slice a L.length cap ∧ ∀ x, a = some x → w5.heap.size ≤ x.block := by
            obtain ⟨a, cap, h1, h2, h3⟩ := slC_of_owns (enc := encB) (fun _ => rfl) hrow
            exact ⟨a, cap, h1, h3⟩
          have hSl : SlC encB 2 ((wr.setCell ⟨w.heap.size + 1, 0, none⟩ (.int .i64 f)).setCell ⟨w.heap.size + 1, 1, none⟩ (.slice a L.length cap)).heap.size ((wr.setCell ⟨w.heap.size + 1, 0, none⟩ (.int .i64 f)).setCell ⟨w.heap.size + 1, 1, none⟩ (.slice a L.length cap)) a L.length cap L := by
            obtain ⟨a', cap', h1, h2, h3⟩ := slC_of_owns_set (enc := encB) (fun _ => rfl) hrow hbase (.int .i64 f) (.slice a L.length cap)
            cases h1
            exact h2
          have hR := (hG.block _ (Array.getElem?_eq_some_iff.1 HR5.out).1 (fun e => by have := Option.some.inj e; have := HX.out; have := (Array.getElem?_eq_some_iff.1 HRr.out).1; omega)).trans HR5.out
          have s0 : wr.cell? ⟨X, 0, none⟩ = some (.int .i64 f) := cCc hXk 0
          have s1 : wr.cell? ⟨X, 1, none⟩ = some (.slice a L.length cap) := cCc hXk 1
          have o0 : wr.cell? ⟨w.heap.size + 1, 0, none⟩ = some (.int .i64 0) := cCc hR 0
          have o1 : wr.cell? ⟨w.heap.size + 1, 1, none⟩ = some (.slice none 0 0) := cCc hR 1
          have m0 : wr.frozen? ⟨w.heap.size + 1, 0, none⟩ = false := cFz hR 0
          have m1 : wr.frozen? ⟨w.heap.size + 1, 1, none⟩ = false := cFz hR 1
          have hX6 := set_cells2 (u := .int .i64 f) (v := .slice a L.length cap) hR
          have HSl := Lib.hid hSl
          have Hab := Lib.hid hab
          clear hrow hSl hab hR
          go_wp2_with fail
          have hG6 : w.grownBy ((wr.setCell ⟨w.heap.size + 1, 0, none⟩ (.int .i64 f)).setCell ⟨w.heap.size + 1, 1, none⟩ (.slice a L.length cap)) (some b) := ((HG5.out.andThen hG (fun j hj => Or.inl (by have := Option.some.inj hj; omega))).andThen (gb_set _ _ _ _) (fun j hj => Or.inl (by have := Option.some.inj hj; omega))).andThen (gb_set _ _ _ _) (fun j hj => Or.inl (by have := Option.some.inj hj; omega))
          have hS6 := HSl.out
          generalize (wr.setCell ⟨w.heap.size + 1, 0, none⟩ (.int .i64 f)).setCell ⟨w.heap.size + 1, 1, none⟩ (.slice a L.length cap) = V at hX6 hG6 hS6 ⊢
          have j0 : V.cell? ⟨w.heap.size + 1, 0, none⟩ = some (.int .i64 f) := cCc hX6 0
          have j1 : V.cell? ⟨w.heap.size + 1, 1, none⟩ = some (.slice a L.length cap) := cCc hX6 1
          exact bodyPost_ret (v := .agg #[.int .i64 f, .slice a L.length cap]) (by simp [results, Tryz.f347, go_sem, j0, j1]) rfl ⟨a, L.length, cap, rfl, by rw [HLe.out]; exact hS6, (fun x hx => by have := Hab.out x hx; omega), hG6⟩
    · intro x c w1 cnt1 hwx hwc hlx hat hrg1 hlt hg1 hs1 hen
      have hgw1 : W1.grownBy w1 (some b) := HGW.out.andThen hg1 (fun j hj => by obtain rfl := Option.some.inj hj; exact Or.inl (by have := HS1.out; omega))
      have hXw1 := (hg1.block _ (Array.getElem?_eq_some_iff.1 HXr.out).1 (fun e => by have := Option.some.inj e; omega)).trans HXr.out
      have q0 : w1.cell? ⟨w.heap.size, 0, none⟩ = some (.map (some b)) := cCc hXw1 0
      have HGW1 := Lib.hid hgw1
      clear hgw1 hXw1
      go_wp2_with (first
        | (at_delete; refine wpList_delete_ranges _ rfl _ _ 392 3 rfl 43 lawI und_counts _ b (w.heap.size + 2) nn _ _ _ rfl hrg1 _ _ rfl (keyOf_int_mk Tryz.underlying3 hwx) ?_; intro w2 cnt2 hrg2 hle hturn; go_frame)
        | go_in)
      · have hc0 : c = 0 := by simpa using (by assumption : (c == 0) = true)
        subst hc0
        rw [strike_twice] at hrg2
        go_roundw
        case rel => exact ⟨_, cnt2, _, hrg2, swept_struck HS.out hat, HGW1.out.andThen hturn.grown (fun j hj => by cases hj; exact Or.inr rfl)⟩
        case measure => rw [hrg2.left_eq, hrg.left_eq]; omega
      · have hc0 : c ≠ 0 := by simpa using (by assumption : (c == 0) = false)
        go_roundw
        case rel => exact ⟨_, cnt1, _, hrg1, swept_stays HS.out hc0 hat, HGW1.out⟩
        case measure => rw [hrg1.left_eq, hrg.left_eq]; exact hlt
end Go.Proofs.YtpnlmfilmbodfaaGreatDoor
namespace Go.Proofs.YtpnlmfilmbodfaaGreatDoor
open Go Go.RowKit Go.Shelf Go.Maps Go.Sort
theorem slC_block {α : Type} {enc : α → List Value} {k n : Nat} {w V : World} {a : Option Addr} {len cap : Nat} {l : List α} (h : SlC enc k n w a len cap l) (hk : ∀ x, a = some x → V.heap[x.block]? = w.heap[x.block]?) : SlC enc k n V a len cap l :=
  ⟨⟨h.1.1, fun j x hx => by
    obtain ⟨b, off, e, hb, hc⟩ := h.1.2 j x hx
    exact ⟨b, off, e, hb, fun i hi => (World.cell?_of_block (show V.heap[b]? = w.heap[b]? from hk _ e)).trans (hc i hi)⟩⟩, h.2⟩
def HistOut (n : Nat) (w w7 : World) (a : Option Addr) (len cap : Nat) (f : Int) (l : List (Int × Int)) : Prop :=
  ((w7.setCell ⟨n + 1, 0, none⟩ (.int .i64 f)).setCell ⟨n + 1, 1, none⟩ (.slice a len cap)).heap[n + 1]? = some (.cells #[.int .i64 f, .slice a len cap] 31 (0, 0)) ∧
  SlC encB 2 ((w7.setCell ⟨n + 1, 0, none⟩ (.int .i64 f)).setCell ⟨n + 1, 1, none⟩ (.slice a len cap)).heap.size ((w7.setCell ⟨n + 1, 0, none⟩ (.int .i64 f)).setCell ⟨n + 1, 1, none⟩ (.slice a len cap)) a len cap l ∧
  Below n w ((w7.setCell ⟨n + 1, 0, none⟩ (.int .i64 f)).setCell ⟨n + 1, 1, none⟩ (.slice a len cap))
theorem hist_out {w w6 w7 : World} {b : Nat} {a : Option Addr} {len cap : Nat} {f : Int} {l : List (Int × Int)} (hbn : w.heap.size + 1 < b) (hR6 : w6.heap[w.heap.size + 1]? = some (.cells #[.int .i64 0, .slice none 0 0] 31 (0, 0))) (hB6 : Below w.heap.size w w6) (hS7 : SlC encB 2 w7.heap.size w7 a len cap l) (ha7 : ∀ x, a = some x → w6.heap.size ≤ x.block) (hg7 : w6.grownBy w7 (some b)) :
    w7.heap[w.heap.size + 1]? = some (.cells #[.int .i64 0, .slice none 0 0] 31 (0, 0)) ∧ HistOut w.heap.size w w7 a len cap f l := by
  have hl := (Array.getElem?_eq_some_iff.1 hR6).1
  have hR7 := (hg7.block _ hl (fun e => by cases e; omega)).trans hR6
  refine ⟨hR7, set_cells2 hR7, ?_, ?_⟩
  · have hsz : ((w7.setCell ⟨w.heap.size + 1, 0, none⟩ (.int .i64 f)).setCell ⟨w.heap.size + 1, 1, none⟩ (.slice a len cap)).heap.size = w7.heap.size := by simp
    rw [hsz]
    refine slC_block hS7 fun x hx => ?_
    have := ha7 x hx
    exact (Below.heap_setCell _ _ _ _ (fun e => by simp at e; omega)).trans (Below.heap_setCell _ _ _ _ (fun e => by simp at e; omega))
  · have hB7 : Below w.heap.size w w7 := hB6.grown hg7 hB6.size (fun k e => by cases e; omega)
    exact (hB7.setCell (p := ⟨w.heap.size + 1, 0, none⟩) (Nat.le_succ _) _).setCell (p := ⟨w.heap.size + 1, 1, none⟩) (Nat.le_succ _) _
end Go.Proofs.YtpnlmfilmbodfaaGreatDoor

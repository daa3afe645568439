/- Package hist: put. Package hist: blank, begin. slices.Sorted(maps.Keys(..)) at the keys of a histogram's counts: the kit's contracts, laid at this program by hand. -/
import Derived.Test.YtmkefodaibmkhaaGreatDoorZGB
import Derived.Test.YtmkefodaibmkhaaGreatDoorZCF
import Derived.Maps.OwnOps
import Derived.Maps.OwnSet
import Derived.Maps.RangeWalk
import Derived.Maps.Ext
import Derived.Test.YtmkefodaibmkhaaGreatDoorZX8
import Derived.Shelf.SlIterI.Nil
import Derived.Shelf.SortM.Plain
import Derived.Shelf.SortM.SortNone
import Derived.Ground.GgzProg
import Derived.Ground.SlgmProg
namespace Go.Proofs.YtmkefodaibmkhaaGreatDoor
open Go Go.RowKit Go.Shelf Go.Maps

theorem lawI : Keyed Tryz.prog 3 := int_keyed Tryz.underlying3
theorem und_counts : Tryz.prog.underlying 287 = some (.map 3 50) := by kernel_rfl
theorem zeroU (w : World) : (zeroValue 50).run Tryz.prog w = .ok (.int .u64 0) w := by kernel_rfl
/-- A map that holds bins. -/
def MapIs (W : World) (b K : Nat) (l : List (Int × Int)) : Prop := ∃ (nn : Nat) (D : DataW Unit), W.ownsMap Tryz.prog 3 (plainElem Tryz.prog 50) b nn D ∧ nn ≤ K ∧ ∀ p z, D.atKey (.int .i64 p) z = match binAt l p with
  | some x => .lit (.int .u64 x)
  | none => z
theorem MapIs.kept {W W' : World} {b K : Nat} {l : List (Int × Int)} {row : Option Nat} (h : MapIs W b K l) (hg : W.grownBy W' row) (hne : some b ≠ row) : MapIs W' b K l := by
  obtain ⟨nn, D, h1, h2⟩ := h
  exact ⟨nn, D, h1.kept hg hne, h2⟩
theorem MapIs.lt {W : World} {b K : Nat} {l : List (Int × Int)} (h : MapIs W b K l) : b < W.heap.size := by
  obtain ⟨nn, D, h1, h2⟩ := h
  exact h1.lt
theorem i64_wf {p : Int} (h : I64 p) : (Lit.int .i64 p).wf = true := WalkArith.wf_i64 h
theorem u64_wf {p : Int} (h : U64 p) : (Lit.int .u64 p).wf = true := by unfold U64 at h; simp [Lit.wf, IntKind.min, IntKind.max, IntKind.signed, IntKind.bits]; omega
def binGet (l : List (Int × Int)) (p : Int) : Int := (binAt l p).getD 0
theorem MapIs.look {W : World} {b K : Nat} {l : List (Int × Int)} (h : MapIs W b K l) {p : Int} (hp : I64 p) : (Instr.lookup 287 (.map (some b)) (.int .i64 p) false).run Tryz.prog W = .ok (.int .u64 (binGet l p)) W := by
  obtain ⟨nn, D, h1, h2, h3⟩ := h
  obtain ⟨c, hr, hc, -⟩ := h1.lookup_int (key := .int .i64 p) lawI und_counts Tryz.underlying50 (zeroU W) (keyOf_int_mk Tryz.underlying3 (i64_wf hp))
  rw [h3] at hc
  have e : c = binGet l p := by
    unfold binGet
    cases hb : binAt l p with
    | none => rw [hb] at hc; simpa using hc.symm
    | some x => rw [hb] at hc; simpa using hc.symm
  rw [← e]
  exact hr
theorem MapIs.update {W : World} {b K : Nat} {l : List (Int × Int)} (h : MapIs W b K l) {p n : Int} (hp : I64 p) (hn : U64 n) (hK : K ≤ 5000) (hu : BinUp l) (hbu : BinsU l) : ∃ w', (Instr.mapUpdate 287 (.map (some b)) (.int .i64 p) (.int .u64 (satI (binGet l p) n))).run Tryz.prog W = .ok () w' ∧ MapIs w' b (K + 1) (binPut l p n) ∧ W.grownBy w' (some b) := by
  obtain ⟨nn, D, h1, h2, h3⟩ := h
  have hv : U64 (satI (binGet l p) n) := by
    refine satI_u64 _ _ ?_ hn
    unfold binGet
    cases hb : binAt l p with
    | none => exact u64_0
    | some x => exact binAt_u64 hbu hb
  obtain ⟨w', hr, ho, hg⟩ := h1.update (key := .int .i64 p) lawI und_counts (by unfold maxLen; omega) (keyOf_int_mk Tryz.underlying3 (i64_wf hp)) (plainElem_int Tryz.underlying50 (u64_wf hv))
  refine ⟨w', hr, ⟨nn + 1, _, ho, by omega, fun q z => ?_⟩, hg⟩
  rw [binAt_put l p n q hu]
  by_cases hq : q = p
  · subst hq
    rw [if_pos rfl, atKey_put_same (k := .int .i64 q) (h1.tidy lawI).isMap trivial]
    unfold binUp binGet
    cases binAt l q with
    | none => simp only [Option.getD_none]; rw [satI_0 n hn]
    | some x => rfl
  · rw [if_neg hq, atKey_put_other (by simpa using hq)]
    exact h3 q z
set_option maxRecDepth 100000 in
set_option maxHeartbeats 2000000 in
theorem put_any (b K : Nat) (f : Int) (p n : Int) (l : List (Int × Int)) (w : World) (hm : MapIs w b K l) (hp : I64 p) (hn : U64 n) (hK : K ≤ 5000) (hu : BinUp l) (hb : BinsU l) :
    Calls Tryz.prog 235 #[.agg #[.map (some b), .int .i64 f], .int .i64 p, .int .u64 n] w fun e w' => e = .returned (.tuple #[]) ∧ MapIs w' b (K + 1) (binPut l p n) ∧ w.grownBy w' (some b) := by
  obtain ⟨W1, hW1, hX1, hB1, hs1⟩ := boxes1 w #[.map (some b), .int .i64 f] 289
  have hbl := hm.lt
  have hx : U64 (binGet l p) := by
    unfold binGet
    cases h : binAt l p with
    | none => exact u64_0
    | some x => exact binAt_u64 hb h
  have hM1 : MapIs W1.drew b K l := hm.kept (gb_drew (below_gb hB1 none)) (by simp)
  have hlk := hM1.look hp
  obtain ⟨W2, hW2, hX2, hB2, hs2⟩ := boxes1 W1.drew #[.int .u64 (binGet l p), .int .u64 n] 50
  have hM2 : MapIs W2 b K l := hM1.kept (below_gb hB2 none) (by simp)
  obtain ⟨W3, hup, hM3, hG3⟩ := hM2.update hp hn hK hu hb
  have HT := Lib.hid (htogether_any W1.drew.heap.size (binGet l p) n W2 (cell_of_cells hX2 0) (cell_of_cells hX2 1) hx hn)
  rw [show W1.drew.heap.size = w.heap.size + 1 from hs1] at HT
  have HW2 : Hid ((W1.alloc (.cells #[.int .u64 (binGet l p), .int .u64 n] 50)).drew = W2) := by rw [Hid, ← hW2]; rfl
  have hXd : W1.drew.heap[w.heap.size]? = some (.cells #[.map (some b), .int .i64 f] 289 (0, 0)) := hX1
  have hXe := known hB2 (Nat.le_refl _) hXd
  have y0 : W1.drew.cell? ⟨w.heap.size, 0, none⟩ = some (.map (some b)) := cell_of_cells hXd 0
  have z0 : W2.cell? ⟨w.heap.size, 0, none⟩ = some (.map (some b)) := cell_of_cells hXe 0
  have hG : w.grownBy W3 (some b) := ((gb_drew (below_gb hB1 (some b))).trans (below_gb hB2 (some b))).trans hG3
  have fin : Ending.returned (.tuple #[]) = Ending.returned (.tuple #[]) ∧ MapIs W3 b (K + 1) (binPut l p n) ∧ w.grownBy W3 (some b) := ⟨rfl, hM3, hG⟩
  generalize satI (binGet l p) n = s at hup HT
  generalize binGet l p = x at hlk HT HW2 hx
  clear hm hM1 hM2 hM3 hG3 hG hXd hXe hX1 hX2 hB1 hB2 hW2 hp hn hu hb hx
  go_enter Tryz.func235, Tryz.ntmps235
  go_wp2_with fail
  refine wp_region_any (by kernel_rfl) ?_
  change wpAny _ _ _ _ _ _ _ (World.drew _)
  refine wpAny_take (i := 0) (v := ?_) rfl (by kernel_rfl) (by kernel_rfl) (by kernel_rfl) (fun _ _ _ h => h) (Or.inl ⟨by rfl, ?_⟩) ?_
  rotate_left
  · intro w; go_simp; with_reducible rfl
  refine wpAny_take (i := 2) (v := ?_) rfl (by kernel_rfl) (by kernel_rfl) (by kernel_rfl) (fun _ _ _ h => h) (Or.inl ⟨by rfl, ?_⟩) ?_
  rotate_left
  · intro w; go_simp; with_reducible rfl
  refine wpAny_take (i := 3) (v := ?_) rfl (by kernel_rfl) (by kernel_rfl) (by kernel_rfl) (fun _ _ _ h => h) (Or.inl ⟨by rfl, ?_⟩) ?_
  rotate_left
  · intro w; go_simp; with_reducible rfl
  refine wpAny_take (i := 5) (v := ?_) rfl (by kernel_rfl) (by kernel_rfl) (by kernel_rfl) (fun _ _ _ h => h) (Or.inl ⟨by rfl, ?_⟩) ?_
  rotate_left
  · intro w; go_simp; with_reducible rfl
  refine wpAny_take (i := 7) (v := ?_) rfl (by kernel_rfl) (by kernel_rfl) (by kernel_rfl) (fun _ _ _ h => h) (Or.inl ⟨by rfl, ?_⟩) ?_
  rotate_left
  · intro w; go_simp; with_reducible rfl
  refine wpAny_ready (rs := [1, 4]) (by kernel_rfl) (by simp) ?_
  refine AllReady.cons rfl (fun K hK => ?_) ?_
  · go_simp
    refine hK _ _ ?_
    clear hK K
    refine wpAny_ready (rs := [4]) (by kernel_rfl) (by simp) ?_
    refine AllReady.cons rfl (fun K hK => ?_) ?_
    · go_simp
      refine hK _ _ ?_
      clear hK K
      refine wpAny_ready (rs := [6]) (by kernel_rfl) (by simp) ?_
      refine AllReady.cons rfl (fun K hK => ?_) ?_
      · go_simp
        refine hK _ _ ?_
        clear hK K
        refine wpAny_ready (rs := [8]) (by kernel_rfl) (by simp) ?_
        refine AllReady.cons rfl (fun K hK => ?_) ?_
        · go_simp
          rw [HW2.out]
          refine hK _ _ ?_
          clear hK K
          refine wpAny_ready (rs := [9]) (by kernel_rfl) (by simp) ?_
          refine AllReady.cons rfl (fun K hK => ?_) ?_
          · go_simp
            refine HT.out.mono ?_
            rintro e w5 ⟨rfl, rfl⟩
            refine hK _ _ ?_
            clear hK K
            refine wpAny_ready (rs := [10]) (by kernel_rfl) (by simp) ?_
            refine AllReady.cons rfl (fun K hK => ?_) ?_
            · go_simp
              refine hK _ _ ?_
              clear hK K
              refine wpAny_done (by kernel_rfl) ?_ _
              go_end0
              exact ⟨rfl, fin.2⟩
            exact AllReady.nil
          exact AllReady.nil
        exact AllReady.nil
      exact AllReady.nil
    exact AllReady.nil
  refine AllReady.cons rfl (fun K hK => ?_) ?_
  · go_simp
    refine hK _ _ ?_
    clear hK K
    refine wpAny_ready (rs := [1, 6]) (by kernel_rfl) (by simp) ?_
    refine AllReady.cons rfl (fun K hK => ?_) ?_
    · go_simp
      refine hK _ _ ?_
      clear hK K
      refine wpAny_ready (rs := [6]) (by kernel_rfl) (by simp) ?_
      refine AllReady.cons rfl (fun K hK => ?_) ?_
      · go_simp
        refine hK _ _ ?_
        clear hK K
        refine wpAny_ready (rs := [8]) (by kernel_rfl) (by simp) ?_
        refine AllReady.cons rfl (fun K hK => ?_) ?_
        · go_simp
          rw [HW2.out]
          refine hK _ _ ?_
          clear hK K
          refine wpAny_ready (rs := [9]) (by kernel_rfl) (by simp) ?_
          refine AllReady.cons rfl (fun K hK => ?_) ?_
          · go_simp
            refine HT.out.mono ?_
            rintro e w5 ⟨rfl, rfl⟩
            refine hK _ _ ?_
            clear hK K
            refine wpAny_ready (rs := [10]) (by kernel_rfl) (by simp) ?_
            refine AllReady.cons rfl (fun K hK => ?_) ?_
            · go_simp
              refine hK _ _ ?_
              clear hK K
              refine wpAny_done (by kernel_rfl) ?_ _
              go_end0
              exact ⟨rfl, fin.2⟩
            exact AllReady.nil
          exact AllReady.nil
        exact AllReady.nil
      exact AllReady.nil
    refine AllReady.cons rfl (fun K hK => ?_) ?_
    · go_simp
      refine hK _ _ ?_
      clear hK K
      refine wpAny_ready (rs := [1, 8]) (by kernel_rfl) (by simp) ?_
      refine AllReady.cons rfl (fun K hK => ?_) ?_
      · go_simp
        refine hK _ _ ?_
        clear hK K
        refine wpAny_ready (rs := [8]) (by kernel_rfl) (by simp) ?_
        refine AllReady.cons rfl (fun K hK => ?_) ?_
        · go_simp
          rw [HW2.out]
          refine hK _ _ ?_
          clear hK K
          refine wpAny_ready (rs := [9]) (by kernel_rfl) (by simp) ?_
          refine AllReady.cons rfl (fun K hK => ?_) ?_
          · go_simp
            refine HT.out.mono ?_
            rintro e w5 ⟨rfl, rfl⟩
            refine hK _ _ ?_
            clear hK K
            refine wpAny_ready (rs := [10]) (by kernel_rfl) (by simp) ?_
            refine AllReady.cons rfl (fun K hK => ?_) ?_
            · go_simp
              refine hK _ _ ?_
              clear hK K
              refine wpAny_done (by kernel_rfl) ?_ _
              go_end0
              exact ⟨rfl, fin.2⟩
            exact AllReady.nil
          exact AllReady.nil
        exact AllReady.nil
      refine AllReady.cons rfl (fun K hK => ?_) ?_
      · go_simp
        rw [HW2.out]
        refine hK _ _ ?_
        clear hK K
        refine wpAny_ready (rs := [1, 9]) (by kernel_rfl) (by simp) ?_
        refine AllReady.cons rfl (fun K hK => ?_) ?_
        · go_simp
          refine hK _ _ ?_
          clear hK K
          refine wpAny_ready (rs := [9]) (by kernel_rfl) (by simp) ?_
          refine AllReady.cons rfl (fun K hK => ?_) ?_
          · go_simp
            refine HT.out.mono ?_
            rintro e w5 ⟨rfl, rfl⟩
            refine hK _ _ ?_
            clear hK K
            refine wpAny_ready (rs := [10]) (by kernel_rfl) (by simp) ?_
            refine AllReady.cons rfl (fun K hK => ?_) ?_
            · go_simp
              refine hK _ _ ?_
              clear hK K
              refine wpAny_done (by kernel_rfl) ?_ _
              go_end0
              exact ⟨rfl, fin.2⟩
            exact AllReady.nil
          exact AllReady.nil
        refine AllReady.cons rfl (fun K hK => ?_) ?_
        · go_simp
          refine HT.out.mono ?_
          rintro e w5 ⟨rfl, rfl⟩
          refine hK _ _ ?_
          clear hK K
          refine wpAny_ready (rs := [1]) (by kernel_rfl) (by simp) ?_
          refine AllReady.cons rfl (fun K hK => ?_) ?_
          · go_simp
            refine hK _ _ ?_
            clear hK K
            refine wpAny_ready (rs := [10]) (by kernel_rfl) (by simp) ?_
            refine AllReady.cons rfl (fun K hK => ?_) ?_
            · go_simp
              refine hK _ _ ?_
              clear hK K
              refine wpAny_done (by kernel_rfl) ?_ _
              go_end0
              exact ⟨rfl, fin.2⟩
            exact AllReady.nil
          exact AllReady.nil
        exact AllReady.nil
      exact AllReady.nil
    exact AllReady.nil
  exact AllReady.nil
end Go.Proofs.YtmkefodaibmkhaaGreatDoor
namespace Go.Proofs.YtmkefodaibmkhaaGreatDoor
open Go Go.RowKit Go.Shelf Go.Maps

theorem binPut_last (a : List (Int × Int)) (b : Int × Int) (h : BinUp (a ++ [b])) : binPut a b.1 b.2 = a ++ [b] := hiPuts_self [b] a h
theorem mapIs_new (w : World) : MapIs (w.alloc (.map #[] 0)) w.heap.size 0 [] := ⟨0, _, World.ownsMap_made _ _ _ _, Nat.le_refl _, fun _ _ => rfl⟩
set_option maxRecDepth 100000 in
set_option maxHeartbeats 1000000 in
theorem hblank_any (f : Nat) (w : World) (hf : f ≤ 3) :
    Calls Tryz.prog 239 #[.int .i64 f] w fun e w' => ∃ b, e = .returned (.tuple #[.agg #[.map (some b), .int .i64 f], .nilIface]) ∧ MapIs w' b 0 [] ∧ w.heap.size ≤ b ∧ Below w.heap.size w w' := by
  have hib := isFine_ok f hf
  have hmm := @run_makeMap Tryz.prog
  obtain ⟨W0, hW0, hX0, hB0, hs0⟩ := boxes1 w #[.map none, .int .i64 0] 289
  obtain ⟨W1, hW1⟩ : ∃ W1, W0.alloc (.map #[] 0) = W1 := ⟨_, rfl⟩
  have hM1 : MapIs W1 (w.heap.size + 1) 0 [] := by rw [← hW1, ← hs0]; exact mapIs_new W0
  have hX1 : W1.heap[w.heap.size]? = some (.cells #[.map none, .int .i64 0] 289 (0, 0)) := by rw [← hW1]; exact (Below.heap_alloc _ _ _ (by omega)).trans hX0
  have hB1 : Below w.heap.size w W1 := by rw [← hW1]; exact hB0.alloc hB0.size _
  have d0 : W1.cell? ⟨w.heap.size, 0, none⟩ = some (.map none) := cell_of_cells hX1 0
  have d1 : W1.cell? ⟨w.heap.size, 1, none⟩ = some (.int .i64 0) := cell_of_cells hX1 1
  have g0 : W1.frozen? ⟨w.heap.size, 0, none⟩ = false := frozen_of_cells hX1 0
  have g1 : W1.frozen? ⟨w.heap.size, 1, none⟩ = false := frozen_of_cells hX1 1
  have hX2 := set_cells2 (u := .map (some (w.heap.size + 1))) (v := .int .i64 f) hX1
  have hB2 := (hB1.setCell (p := ⟨w.heap.size, 0, none⟩) (Nat.le_refl _) (.map (some (w.heap.size + 1)))).setCell (p := ⟨w.heap.size, 1, none⟩) (Nat.le_refl _) (.int .i64 f)
  have hM2 := (hM1.kept (gb_set W1 w.heap.size 0 (.map (some (w.heap.size + 1)))) (by simp)).kept (gb_set _ w.heap.size 1 (.int .i64 f)) (by simp)
  clear hX0 hX1 hB0 hB1 hM1
  go_enter Tryz.func239, Tryz.ntmps239
  go_wp2_with (first | (go_at_call 138; refine (hib _).mono ?_; rintro e w' ⟨rfl, rfl⟩) | fail)
  generalize (W1.setCell ⟨w.heap.size, 0, none⟩ (.map (some (w.heap.size + 1)))).setCell ⟨w.heap.size, 1, none⟩ (.int .i64 f) = V at hX2 hB2 hM2 ⊢
  have k0 : V.cell? ⟨w.heap.size, 0, none⟩ = some (.map (some (w.heap.size + 1))) := cell_of_cells hX2 0
  have k1 : V.cell? ⟨w.heap.size, 1, none⟩ = some (.int .i64 f) := cell_of_cells hX2 1
  exact bodyPost_ret (v := .tuple #[.agg #[.map (some (w.heap.size + 1)), .int .i64 f], .nilIface]) (by simp [results, Tryz.f239, go_sem, k0, k1]) rfl ⟨_, rfl, hM2, Nat.le_succ _, hB2⟩
set_option maxRecDepth 100000 in
set_option maxHeartbeats 1000000 in
theorem hbegin9_any (f : Nat) (l : List (Int × Int)) (a : Option Addr) (len cap : Nat) (w : World) (hf : f ≤ 3) (hL : SlE encB 2 w.heap.size w a len l) (hr : hiRight f l = true) (hu : BinUp l) (hbu : BinsU l) (hlen : len ≤ 1000) (hp : ∀ b ∈ l, I64 b.1) (hm : len ≤ maxLen) :
    Calls Tryz.prog 233 #[.agg #[.int .i64 f, .slice a len cap]] w fun e w' => ∃ b, e = .returned (.tuple #[.agg #[.map (some b), .int .i64 f], .nilIface]) ∧ MapIs w' b l.length l ∧ w.heap.size ≤ b ∧ Below w.heap.size w w' := by
  have hR : Hid (∀ w1, Below w.heap.size w w1 → Calls Tryz.prog 129 #[.agg #[.int .i64 f, .slice a len cap]] w1 fun e w' => e = .returned (.bool true) ∧ Below w1.heap.size w1 w') := fun w1 hb => (hist_Right_any f l a len cap w1 ((hL.below hb).mono hb.size) hm (fun b hb => (hp b hb).2)).mono fun e w' h => ⟨by rw [h.1, hr], h.2⟩
  have hB := fun w => hblank_any f w hf
  obtain ⟨W0, hW0, hXp, hX0, hB0, hs0⟩ := boxes2 w #[.int .i64 f, .slice a len cap] 34 #[.map none, .int .i64 0] 289
  have HX0 := Lib.hid hX0
  have HXP := Lib.hid hXp
  have z0 : W0.cell? ⟨w.heap.size, 0, none⟩ = some (.int .i64 f) := cell_of_cells hXp 0
  have z1 : W0.cell? ⟨w.heap.size, 1, none⟩ = some (.slice a len cap) := cell_of_cells hXp 1
  clear hX0 hXp
  go_enter Tryz.func233, Tryz.ntmps233
  go_wp2_with fail
  refine (hR.out _ hB0).mono ?_
  rintro e w1 ⟨rfl, hb1⟩
  have hXp1 := known hb1 (Nat.le_refl _) HXP.out
  have y0 : w1.cell? ⟨w.heap.size, 0, none⟩ = some (.int .i64 f) := cell_of_cells hXp1 0
  have y1 : w1.cell? ⟨w.heap.size, 1, none⟩ = some (.slice a len cap) := cell_of_cells hXp1 1
  go_wp2_with fail
  refine (hB _).mono ?_
  rintro e w2 ⟨b, rfl, hm2, hb2, hB2⟩
  obtain ⟨W3, hW3, hX3, hB3, hs3⟩ := boxes1 w2 #[.map (some b), .int .i64 f] 289
  have hbl := hm2.lt
  have hb1s := hb1.size
  have hB2s := hB2.size
  have hXp3 := known (hB2.trans (hB3.mono hB2s)) (Nat.le_refl _) hXp1
  have hXr3 := known (hB2.trans (hB3.mono hB2s)) (Nat.le_refl _) (known hb1 (Nat.le_refl _) HX0.out)
  have hM3 : MapIs W3 b 0 [] := hm2.kept (below_gb hB3 none) (by simp)
  have hB03 : Below w.heap.size w W3 := (hB0.trans (hb1.mono (by omega))).trans ((hB2.mono (by omega)).trans (hB3.mono (by omega)))
  have HX3 := Lib.hid hX3
  have HXR := Lib.hid hXr3
  have q0 : W3.cell? ⟨w.heap.size, 0, none⟩ = some (.int .i64 f) := cell_of_cells hXp3 0
  have q1 : W3.cell? ⟨w.heap.size, 1, none⟩ = some (.slice a len cap) := cell_of_cells hXp3 1
  have HL := Lib.hid hL
  have HU : Hid (BinUp l ∧ BinsU l ∧ (∀ b ∈ l, I64 b.1) ∧ len ≤ 1000 ∧ len = l.length) := ⟨hu, hbu, hp, hlen, hL.1⟩
  have HB03 := Lib.hid hB03
  clear hXp1 hXp3 hXr3 hX3 hB3 hB2 hb1 hm2 hL hu hbu hp hr hm hB03
  have hlen9 := hlen
  go_wp2_with fail
  go_loopw [7, 23] (fun _ i wr => ∃ k : Nat, k ≤ len ∧ i = .int .i64 k ∧ MapIs wr b k (l.take k) ∧ W3.grownBy wr (some b)) (fun _ i _ => len - (intOf i).toNat)
  case atStart => exact ⟨0, Nat.zero_le _, rfl, hM3, World.grownBy.refl _ _⟩
  case round =>
    obtain ⟨k, hk, rfl, hM, hG⟩ := hrel
    have hXw := (hG.block _ (Array.getElem?_eq_some_iff.1 HX3.out).1 (fun e => by cases e; omega)).trans HX3.out
    have hXr := (hG.block _ (Array.getElem?_eq_some_iff.1 HXR.out).1 (fun e => by cases e; omega)).trans HXR.out
    have hBw : Below w.heap.size w wr := HB03.out.grown hG HB03.out.size (fun j e => by cases e; omega)
    by_cases hlt : k < len
    · obtain ⟨x, b1, o1, hx, ea, hb1, p0, p1⟩ := bin_cells (HL.out.below hBw) hlt
      subst ea
      have HX := Lib.hid hx
      have hxi : I64 x.1 := HU.out.2.2.1 x (List.mem_of_getElem? hx)
      have hxu : U64 x.2 := HU.out.2.1 x (List.mem_of_getElem? hx)
      obtain ⟨x1, x2⟩ := x
      dsimp only at p0 p1 hxi hxu
      obtain ⟨W4, hW4, hX4, hB4, hs4⟩ := boxes1 wr #[.int .i64 x1, .int .u64 x2] 145
      have hM4 : MapIs W4 b k (l.take k) := hM.kept (below_gb hB4 none) (by simp)
      have hXw4 := known hB4 (Nat.le_refl _) hXw
      have hP := put_any b k f x1 x2 (l.take k) W4 hM4 hxi hxu (by omega) (HU.out.1.sublist (List.take_sublist _ _)) (fun c hc => HU.out.2.1 c (List.mem_of_mem_take hc))
      have u0 : W4.cell? ⟨wr.heap.size, 0, none⟩ = some (.int .i64 x1) := cell_of_cells hX4 0
      have u1 : W4.cell? ⟨wr.heap.size, 1, none⟩ = some (.int .u64 x2) := cell_of_cells hX4 1
      have v0 : W4.cell? ⟨w2.heap.size, 0, none⟩ = some (.map (some b)) := cell_of_cells hXw4 0
      have v1 : W4.cell? ⟨w2.heap.size, 1, none⟩ = some (.int .i64 f) := cell_of_cells hXw4 1
      have HG := Lib.hid (hG.trans (below_gb hB4 (some b)))
      clear hx hXw hXr hX4 hXw4 hM4 hM hB4 hG
      go_wp2_with fail
      refine hP.mono ?_
      rintro e w6 ⟨rfl, hM6, hG6⟩
      go_wp2_with fail
      go_roundw
      case rel => exact ⟨k + 1, by omega, by simp, by rw [take_snoc' HX.out, ← binPut_last _ _ (by rw [← take_snoc' HX.out]; exact HU.out.1.sublist (List.take_sublist _ _))]; exact hM6, HG.out.trans hG6⟩
      case measure => simp [intOf]; omega
    · obtain rfl : k = len := by omega
      have hMl : MapIs wr b l.length l := by have := hM; rwa [List.take_of_length_le (by rw [HU.out.2.2.2.2]; exact Nat.le_refl _), HU.out.2.2.2.2] at this
      have u0 : wr.cell? ⟨w2.heap.size, 0, none⟩ = some (.map (some b)) := cell_of_cells hXw 0
      have u1 : wr.cell? ⟨w2.heap.size, 1, none⟩ = some (.int .i64 f) := cell_of_cells hXw 1
      have o0 : wr.cell? ⟨w.heap.size + 1, 0, none⟩ = some (.map none) := cell_of_cells hXr 0
      have o1 : wr.cell? ⟨w.heap.size + 1, 1, none⟩ = some (.int .i64 0) := cell_of_cells hXr 1
      have g0 : wr.frozen? ⟨w.heap.size + 1, 0, none⟩ = false := frozen_of_cells hXr 0
      have g1 : wr.frozen? ⟨w.heap.size + 1, 1, none⟩ = false := frozen_of_cells hXr 1
      have hX6 := set_cells2 (u := .map (some b)) (v := .int .i64 f) hXr
      have hB6 := (hBw.setCell (p := ⟨w.heap.size + 1, 0, none⟩) (Nat.le_succ _) (.map (some b))).setCell (p := ⟨w.heap.size + 1, 1, none⟩) (Nat.le_succ _) (.int .i64 f)
      have hM7 := (hMl.kept (gb_set wr (w.heap.size + 1) 0 (.map (some b))) (by simp; omega)).kept (gb_set _ (w.heap.size + 1) 1 (.int .i64 f)) (by simp; omega)
      clear hXw hXr hM hMl hG hBw
      go_wp2_with fail
      generalize (wr.setCell ⟨w.heap.size + 1, 0, none⟩ (.map (some b))).setCell ⟨w.heap.size + 1, 1, none⟩ (.int .i64 f) = V at hX6 hB6 hM7 ⊢
      have j0 : V.cell? ⟨w.heap.size + 1, 0, none⟩ = some (.map (some b)) := cell_of_cells hX6 0
      have j1 : V.cell? ⟨w.heap.size + 1, 1, none⟩ = some (.int .i64 f) := cell_of_cells hX6 1
      exact bodyPost_ret (v := .tuple #[.agg #[.map (some b), .int .i64 f], .nilIface]) (by simp [results, Tryz.f233, go_sem, j0, j1]) rfl ⟨b, rfl, hM7, by omega, hB6⟩
end Go.Proofs.YtmkefodaibmkhaaGreatDoor
namespace Go.Proofs
open Go.RowKit Go.Maps Go.Sort Go.Shelf
def Tryz.keysA_ren : Go.Shelf.Ren := ⟨fun | 7 => 242 | 10 => 246 | n => n, fun | 23 => 287 | 26 => 3 | 3 => 50 | 28 => 141 | 0 => 0 | 27 => 140 | 33 => 169 | 4 => 4 | n => n, fun | n => n⟩
theorem Tryz.keysA : Go.Proofs.SlLaysZI.n7 Tryz.prog Tryz.keysA_ren := {
  mixed := by kernel_rfl
  f7 := ⟨Tryz.f242.name, by decide, Tryz.func242.trans (congrArg some (by kernel_rfl))⟩
  f10 := ⟨Tryz.f246.name, by decide, Tryz.func246.trans (congrArg some (by kernel_rfl))⟩
  t0 := by kernel_rfl
  a0 := fun w => by kernel_rfl
  z0 := fun w => by kernel_rfl
  v0 := fun w => by kernel_rfl
  t4 := by kernel_rfl
  a4 := fun w => by kernel_rfl
  z4 := fun w => by kernel_rfl
  v4 := fun w => by kernel_rfl
  t23 := by kernel_rfl
  a23 := fun w => by kernel_rfl
  z23 := fun w => by kernel_rfl
  v23 := fun w => by kernel_rfl
  t26 := by kernel_rfl
  a26 := fun w => by kernel_rfl
  z26 := fun w => by kernel_rfl
  v26 := fun w => by kernel_rfl
  t27 := by kernel_rfl
  a27 := fun w => by kernel_rfl
  z27 := fun w => by kernel_rfl
  v27 := fun w => by kernel_rfl
  t28 := by kernel_rfl
  a28 := fun w => by kernel_rfl
  z28 := fun w => by kernel_rfl
  v28 := fun w => by kernel_rfl
  t33 := by kernel_rfl
  a33 := fun w => by kernel_rfl
  z33 := fun w => by kernel_rfl
  v33 := fun w => by kernel_rfl }
def Tryz.sortedA_ren : Go.Shelf.Ren := ⟨fun | 6 => 241 | 8 => 244 | 9 => 245 | 11 => 247 | n => n, fun | 26 => 3 | 28 => 141 | 24 => 301 | 0 => 0 | 3 => 3 | 33 => 169 | n => n, fun | n => n⟩
theorem Tryz.sortedA : Go.Proofs.SlLaysZI.n6 Tryz.prog Tryz.sortedA_ren := {
  mixed := by kernel_rfl
  f6 := ⟨Tryz.f241.name, by decide, Tryz.func241.trans (congrArg some (by kernel_rfl))⟩
  f8 := ⟨Tryz.f244.name, by decide, Tryz.func244.trans (congrArg some (by kernel_rfl))⟩
  f11 := ⟨Tryz.f247.name, by decide, Tryz.func247.trans (congrArg some (by kernel_rfl))⟩
  t0 := by kernel_rfl
  a0 := fun w => by kernel_rfl
  z0 := fun w => by kernel_rfl
  v0 := fun w => by kernel_rfl
  t24 := by kernel_rfl
  a24 := fun w => by kernel_rfl
  z24 := fun w => by kernel_rfl
  v24 := fun w => by kernel_rfl
  t26 := by kernel_rfl
  a26 := fun w => by kernel_rfl
  z26 := fun w => by kernel_rfl
  v26 := fun w => by kernel_rfl
  t28 := by kernel_rfl
  a28 := fun w => by kernel_rfl
  z28 := fun w => by kernel_rfl
  v28 := fun w => by kernel_rfl
  i26 := by kernel_rfl }
end Go.Proofs
namespace Go.Proofs.YtmkefodaibmkhaaGreatDoor
open Go Go.RowKit Go.Shelf Go.Maps Go.Sort
theorem sortsA (m : Nat) : AnyZI.SortsIn Tryz.prog Tryz.sortedA_ren Fence.wide m :=
  ⟨fun blk off cap ss W hH hblk hsz => callsIn_wide.2 (Tryz.slices_Sort_int blk off cap ss W hH hblk hsz), fun p cap W => callsIn_wide.2 (Tryz.slices_Sort_int_none p cap W)⟩
theorem keys_any (mb : Option Nat) (W : World) : Calls Tryz.prog 242 #[.map mb] W fun e w' => e = .returned (.func (.func 246) #[] #[.pointer (some ⟨W.heap.size, 0, none⟩)]) ∧ w' = W.alloc (.cells #[.map mb] 287) :=
  (callsIn_wide (n := 5)).1 (AnyZI.keys_in Tryz.keysA Fence.wide 5 trivial rfl mb W)
theorem sorted_any (b nn : Nat) (D : DataW Unit) (w : World) (hown : w.ownsMap Tryz.prog 3 (plainElem Tryz.prog 50) b nn D) (hs : Maps.size D ≤ 100000) :
    Calls Tryz.prog 241 #[.func (.func 246) #[] #[.pointer (some ⟨w.heap.size, 0, none⟩)]] (w.alloc (.cells #[.map (some b)] 287)) fun e w' => ∃ (v : Value) (ss : List Int), e = .returned v ∧ ss.Perm (intKeys D) ∧
      w'.ownsRow w.heap.size 3 1 v ss.length ((ss.mergeSort (fun x y => decide (x ≤ y))).map encZ) ∧ (v = .slice none 0 0 ↔ ss = []) ∧ Below w.heap.size w w' := by
  have hbl := hown.lt
  have hseq : SeqGives Fence.wide 2 Tryz.prog 246 #[.pointer (some ⟨w.heap.size, 0, none⟩)] encZ (fun ss => ss.Perm (intKeys D)) (Maps.size D) (w.alloc (.cells #[.map (some b)] 287)) :=
    AnyZI.keys_gives (ρ := Tryz.keysA_ren) { Tryz.keysA with } Fence.wide _ trivial rfl (by omega) w.heap.size b nn D _ (by simp) (by simp) (by
      obtain ⟨es, clock, hb, Ft, hs, hD⟩ := hown
      exact ⟨es, clock, (Below.heap_alloc _ _ b hbl).trans hb, Ft, hs, hD⟩)
  have cS := AnyZI.sorted_in Tryz.sortedA Fence.wide 5 trivial trivial trivial trivial rfl (by omega) (sortsA _) (enters_of Tryz.func245 (by kernel_rfl) rfl) 246 #[.pointer (some ⟨w.heap.size, 0, none⟩)] trivial (enters_of Tryz.func246 (by kernel_rfl) rfl) _ _ (by unfold maxLen; omega) (by omega) _ hseq
  change CallsIn _ _ Tryz.prog 241 _ _ _ at cS
  refine (callsIn_wide (n := 5)).1 (cS.mono ?_)
  rintro e w' ⟨v, ss, h1, h2, h3, h4, h5⟩
  exact ⟨v, ss, h1, h2, owns_base h3 (by simp), h4, ((Below.refl _ w).alloc (Nat.le_refl _) _).trans (h5.mono (by simp))⟩
end Go.Proofs.YtmkefodaibmkhaaGreatDoor

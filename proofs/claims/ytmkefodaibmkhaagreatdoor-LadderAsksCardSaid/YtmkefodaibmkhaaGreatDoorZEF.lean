/- Package exact: errno; what Add and Merge hand back. Package exact: Count. Package exact: Add : any list. -/
import Derived.Test.YtmkefodaibmkhaaGreatDoorZED
import Derived.Test.YtmkefodaibmkhaaGreatDoorZXG
namespace Go.Proofs.YtmkefodaibmkhaaGreatDoor
open Go Go.RowKit Go.Shelf

theorem asFault (w : World) : (Instr.typeAssert (.iface 268 (.agg #[.string tooMany])) 70 268 true).run Tryz.prog w = .ok (.tuple #[.agg #[.string tooMany], .bool true]) w := by kernel_rfl
theorem asNilFault (w : World) : (Instr.typeAssert .nilIface 70 268 true).run Tryz.prog w = .ok (.tuple #[.agg #[.string ⟨#[]⟩], .bool false]) w := by kernel_rfl
theorem exErrno_fault (w : World) : Calls Tryz.prog 177 #[.iface 268 (.agg #[.string tooMany])] w fun e w' => e = .returned (.int .i64 60) ∧ Below w.heap.size w w' := by
  have h := asFault w
  go_enter Tryz.func177, Tryz.ntmps177
  go_wp2
  go_ret
  exact ⟨rfl, (Below.refl _ w).alloc (Nat.le_refl _) _⟩
theorem exErrno_nil (w : World) : Calls Tryz.prog 177 #[.nilIface] w fun e w' => e = .returned (.int .i64 0) ∧ Below w.heap.size w w' := by
  have h := asNilFault w
  go_enter Tryz.func177, Tryz.ntmps177
  go_wp2
  go_ret
  exact ⟨rfl, (Below.refl _ w).alloc (Nat.le_refl _) _⟩
/-- What Add and Merge hand back. -/
def ExPost (o : Option (List Int)) (w : World) (e : Ending) (w' : World) : Prop := Below w.heap.size w w' ∧ match o with
  | some m => ∃ a cap, e = .returned (.tuple #[.agg #[.slice a m.length cap], .int .i64 0]) ∧ SlC encU 1 w'.heap.size w' a m.length cap m ∧ (∀ x, a = some x → w.heap.size ≤ x.block)
  | none => e = .returned (.tuple #[.agg #[.slice none 0 0], .int .i64 60])
def exAdd (l : List Int) (n : Int) : Option (List Int) := if exRight l then exGather l [n] else none
def exMerge (l m : List Int) : Option (List Int) := if exRight l && exRight m then exGather l m else none
end Go.Proofs.YtmkefodaibmkhaaGreatDoor
namespace Go.Proofs.YtmkefodaibmkhaaGreatDoor
open Go Go.RowKit Go.Shelf
theorem wrap_u64_nat (n : Nat) (h : n < 2 ^ 63) : IntKind.u64.wrap (n : Int) = n := by simp [IntKind.wrap, IntKind.bits, IntKind.signed]; omega
set_option maxRecDepth 100000 in
set_option maxHeartbeats 1000000 in
theorem exCount_any (l : List Int) (a : Option Addr) (len cap : Nat) (w : World) (hL : SlE encU 1 w.heap.size w a len l) (hn : len < 2 ^ 62) :
    Calls Tryz.prog 173 #[.agg #[.slice a len cap]] w fun e w' => e = .returned (.int .u64 (if exRight l then (l.length : Int) else 0)) ∧ Below w.heap.size w w' := by
  have hR : Hid (∀ w1, Below w.heap.size w w1 → Calls Tryz.prog 126 #[.agg #[.slice a len cap]] w1 fun e w' => e = .returned (.bool (exRight l)) ∧ Below w1.heap.size w1 w') := fun w1 hb => exact_Right_any l a len cap w1 ((hL.below hb).mono hb.size)
  have HLL := Lib.hid hL.1
  have HN := Lib.hid hn
  obtain ⟨rb, hrb⟩ : ∃ rb, exRight l = rb := ⟨_, rfl⟩
  rw [hrb] at hR ⊢
  clear hrb hL hn
  go_enter Tryz.func173, Tryz.ntmps173
  go_wp2_with fail
  have hb0 : Below w.heap.size w (w.alloc (.cells #[.slice a len cap] 27)) := (Below.refl _ w).alloc (Nat.le_refl _) _
  have hc0 := World.alloc_heap_new w (.cells #[.slice a len cap] 27)
  refine (hR.out _ hb0).mono ?_
  rintro e w1 ⟨rfl, hb1⟩
  have c1 := cell_of_cells (known hb1 (Nat.le_refl _) hc0) 0
  have hb1 := hb0.trans (hb1.mono hb0.size)
  cases rb with
  | true =>
    go_wp2_with fail
    go_ret
    refine ⟨?_, hb1⟩
    have h1 := HLL.out
    have h2 := HN.out
    show Ending.returned (.int .u64 (IntKind.u64.wrap (len : Int))) = Ending.returned (.int .u64 (l.length : Int))
    rw [← h1, wrap_u64_nat len (by omega)]
  | false =>
    go_wp2_with fail
    go_ret
    exact ⟨rfl, hb1⟩
end Go.Proofs.YtmkefodaibmkhaaGreatDoor
namespace Go.Proofs.YtmkefodaibmkhaaGreatDoor
open Go Go.RowKit Go.Shelf
set_option maxRecDepth 100000 in
set_option maxHeartbeats 1000000 in
theorem exAdd_any (l : List Int) (a : Option Addr) (len cap : Nat) (n : Int) (w : World) (hL : SlE encU 1 w.heap.size w a len l) (hn : a = none → len = 0) :
    Calls Tryz.prog 171 #[.agg #[.slice a len cap], .int .u64 n] w (ExPost (exAdd l n) w) := by
  have hR : Hid (∀ w1, Below w.heap.size w w1 → Calls Tryz.prog 126 #[.agg #[.slice a len cap]] w1 fun e w' => e = .returned (.bool (exRight l)) ∧ Below w1.heap.size w1 w') := fun w1 hb => exact_Right_any l a len cap w1 ((hL.below hb).mono hb.size)
  have HL := Lib.hid hL
  have HN := Lib.hid hn
  obtain ⟨rb, hrb⟩ : ∃ rb, exRight l = rb := ⟨_, rfl⟩
  rw [hrb] at hR
  have HR := Lib.hid hrb
  clear hrb hL hn
  go_enter Tryz.func171, Tryz.ntmps171
  go_wp2_with fail
  have hb0 : Below w.heap.size w ((w.alloc (.cells #[.slice a len cap] 27)).alloc (.cells #[.slice none 0 0] 27)) := ((Below.refl _ w).alloc (Nat.le_refl _) _).alloc (by simp) _
  have hc0 : ((w.alloc (.cells #[.slice a len cap] 27)).alloc (.cells #[.slice none 0 0] 27)).heap[w.heap.size]? = some (.cells #[.slice a len cap] 27 (0, 0)) := (Boxed.new w 27 (.slice a len cap)).alloc _
  refine (hR.out _ hb0).mono ?_
  rintro e w1 ⟨rfl, hb1⟩
  have c1 := cell_of_cells (known hb1 (Nat.le_refl _) hc0) 0
  have hz0 : ((w.alloc (.cells #[.slice a len cap] 27)).alloc (.cells #[.slice none 0 0] 27)).heap.size = w.heap.size + 2 := by simp
  have hy0 : Boxed ((w.alloc (.cells #[.slice a len cap] 27)).alloc (.cells #[.slice none 0 0] 27)) (w.heap.size + 1) 27 (.slice none 0 0) := by
    have h := Boxed.new (w.alloc (.cells #[.slice a len cap] 27)) 27 (.slice none 0 0)
    simpa using h
  have hy1 : Boxed w1 (w.heap.size + 1) 27 (.slice none 0 0) := (hb1.block _ (by omega)).trans hy0
  have c2 := hy1.cell
  have f2 := hy1.frozen
  have hb1 := hb0.trans (hb1.mono hb0.size)
  cases rb with
  | true =>
    have hru := exRight_up l HR.out
    have hb2 : Below w.heap.size w (w1.alloc (.cells #[.int .u64 n] 50)) := hb1.alloc hb1.size _
    have hM : SlE encU 1 (w1.alloc (.cells #[.int .u64 n] 50)).heap.size (w1.alloc (.cells #[.int .u64 n] 50)) (some ⟨w1.heap.size, 0, none⟩) 1 [n] := by
      refine ⟨rfl, fun j x hx => ⟨w1.heap.size, 0, rfl, by simp, fun i hi => ?_⟩⟩
      obtain rfl : i = 0 := by omega
      have h5 := flat_cell encU 1 (fun _ => rfl) [n] j 0 x hx (by omega)
      rw [cell_of_cells (World.alloc_heap_new w1 _), Nat.zero_add]
      simpa [encU] using h5
    have hG := gather_any l [n] a len cap (some ⟨w1.heap.size, 0, none⟩) 1 1 (w1.alloc (.cells #[.int .u64 n] 50)) ((HL.out.below hb2).mono hb2.size) hM hru.1 (by have := HL.out.1; have := hru.2; omega) (by omega) HN.out
    have HRU := Lib.hid hru
    clear hM hru
    go_wp2_with fail
    refine hG.mono ?_
    rintro e w3 ⟨hb3, hp⟩
    have hy3 : Boxed w3 (w.heap.size + 1) 27 (.slice none 0 0) := (hb3.block _ (by have := hy1.lt; simp; omega)).trans (hy1.alloc _)
    have c4 := hy3.cell
    have f4 := hy3.frozen
    cases hg : exGather l [n] with
    | none =>
      rw [hg] at hp
      dsimp only at hp
      subst hp
      go_wp2_with fail
      have hy4 : Boxed (w3.alloc (.cells #[.slice none 0 0] 27)).drew w3.heap.size 27 (.slice none 0 0) := Boxed.new w3 27 (.slice none 0 0)
      have e4 := hy4.cell
      have hr4 : Boxed (w3.alloc (.cells #[.slice none 0 0] 27)).drew (w.heap.size + 1) 27 (.slice none 0 0) := hy3.alloc _
      have hz4 : w.heap.size + 1 < w3.heap.size := hy3.lt
      have hb4 : Below w.heap.size w (w3.alloc (.cells #[.slice none 0 0] 27)).drew := ((hb2.trans (hb3.mono (by have := hb2.size; simp at this ⊢; omega))).alloc (by omega) _).drew
      have HY4 := Lib.hid hy4
      have HR4 := Lib.hid hr4
      refine wp_region_any (by kernel_rfl) ?_
      change wpAny _ _ _ _ _ _ _ (World.drew _)
      refine wpAny_take (i := 1) (v := ?_) rfl (by kernel_rfl) (by kernel_rfl) (by kernel_rfl) (fun _ _ _ h => h) (Or.inl ⟨by rfl, ?_⟩) ?_
      rotate_left
      · intro w; go_simp; with_reducible rfl
      refine wpAny_ready (rs := [0, 2]) (by kernel_rfl) (by simp) ?_
      refine AllReady.cons rfl (fun K hK => ?_) ?_
      · go_simp
        refine hK _ _ ?_
        clear hK K
        refine wpAny_ready (rs := [2]) (by kernel_rfl) (by simp) ?_
        refine AllReady.cons rfl (fun K hK => ?_) ?_
        · go_simp
          refine (exErrno_fault _).mono ?_
          rintro e w5 ⟨rfl, hb5⟩
          have hy5 := (hb5.block _ HY4.out.lt).trans HY4.out
          have hr5 := (hb5.block _ HR4.out.lt).trans HR4.out
          have g1 := Boxed.cell hy5
          have g2 := Boxed.cell hr5
          have g3 := Boxed.frozen hr5
          refine hK _ _ ?_
          clear hK K
          refine wpAny_ready (rs := [3]) (by kernel_rfl) (by simp) ?_
          refine AllReady.cons rfl (fun K hK => ?_) ?_
          · go_simp
            refine hK _ _ ?_
            clear hK K
            refine wpAny_take (i := 4) (v := ?_) rfl (by kernel_rfl) (by kernel_rfl) (by kernel_rfl) (fun _ _ _ h => h) (Or.inl ⟨by rfl, ?_⟩) ?_
            rotate_left
            · intro w; go_simp; with_reducible rfl
            refine wpAny_done (by kernel_rfl) ?_ _
            go_wp2_with fail
            have g4 := (Boxed.set (.slice none 0 0) hr5).cell
            refine bodyPost_ret (v := .tuple #[.agg #[.slice none 0 0], .int .i64 60]) ?_ rfl ?_
            · simp [results, Tryz.f171, go_sem, g4]
            · refine ⟨(hb4.trans (hb5.mono hb4.size)).setCell (p := ⟨w.heap.size + 1, 0, none⟩) (by show _ ≤ _ + 1; omega) _, ?_⟩
              unfold exAdd
              rw [HR.out, if_pos rfl, hg]
          exact AllReady.nil
        exact AllReady.nil
      refine AllReady.cons rfl (fun K hK => ?_) ?_
      · go_simp
        refine (exErrno_fault _).mono ?_
        rintro e w5 ⟨rfl, hb5⟩
        have hy5 := (hb5.block _ HY4.out.lt).trans HY4.out
        have hr5 := (hb5.block _ HR4.out.lt).trans HR4.out
        have g1 := Boxed.cell hy5
        have g2 := Boxed.cell hr5
        have g3 := Boxed.frozen hr5
        refine hK _ _ ?_
        clear hK K
        refine wpAny_ready (rs := [0]) (by kernel_rfl) (by simp) ?_
        refine AllReady.cons rfl (fun K hK => ?_) ?_
        · go_simp
          refine hK _ _ ?_
          clear hK K
          refine wpAny_ready (rs := [3]) (by kernel_rfl) (by simp) ?_
          refine AllReady.cons rfl (fun K hK => ?_) ?_
          · go_simp
            refine hK _ _ ?_
            clear hK K
            refine wpAny_take (i := 4) (v := ?_) rfl (by kernel_rfl) (by kernel_rfl) (by kernel_rfl) (fun _ _ _ h => h) (Or.inl ⟨by rfl, ?_⟩) ?_
            rotate_left
            · intro w; go_simp; with_reducible rfl
            refine wpAny_done (by kernel_rfl) ?_ _
            go_wp2_with fail
            have g4 := (Boxed.set (.slice none 0 0) hr5).cell
            refine bodyPost_ret (v := .tuple #[.agg #[.slice none 0 0], .int .i64 60]) ?_ rfl ?_
            · simp [results, Tryz.f171, go_sem, g4]
            · refine ⟨(hb4.trans (hb5.mono hb4.size)).setCell (p := ⟨w.heap.size + 1, 0, none⟩) (by show _ ≤ _ + 1; omega) _, ?_⟩
              unfold exAdd
              rw [HR.out, if_pos rfl, hg]
          exact AllReady.nil
        exact AllReady.nil
      exact AllReady.nil
    | some m =>
      rw [hg] at hp
      obtain ⟨a3, cap3, rfl, hS3, hfar3⟩ := hp
      go_wp2_with fail
      have hy4 : Boxed (w3.alloc (.cells #[.slice a3 m.length cap3] 27)).drew w3.heap.size 27 (.slice a3 m.length cap3) := Boxed.new w3 27 (.slice a3 m.length cap3)
      have e4 := hy4.cell
      have hr4 : Boxed (w3.alloc (.cells #[.slice a3 m.length cap3] 27)).drew (w.heap.size + 1) 27 (.slice none 0 0) := hy3.alloc _
      have hz4 : w.heap.size + 1 < w3.heap.size := hy3.lt
      have hb4 : Below w.heap.size w (w3.alloc (.cells #[.slice a3 m.length cap3] 27)).drew := ((hb2.trans (hb3.mono (by have := hb2.size; simp at this ⊢; omega))).alloc (by omega) _).drew
      have HY4 := Lib.hid hy4
      have HR4 := Lib.hid hr4
      refine wp_region_any (by kernel_rfl) ?_
      change wpAny _ _ _ _ _ _ _ (World.drew _)
      refine wpAny_take (i := 1) (v := ?_) rfl (by kernel_rfl) (by kernel_rfl) (by kernel_rfl) (fun _ _ _ h => h) (Or.inl ⟨by rfl, ?_⟩) ?_
      rotate_left
      · intro w; go_simp; with_reducible rfl
      refine wpAny_ready (rs := [0, 2]) (by kernel_rfl) (by simp) ?_
      refine AllReady.cons rfl (fun K hK => ?_) ?_
      · go_simp
        refine hK _ _ ?_
        clear hK K
        refine wpAny_ready (rs := [2]) (by kernel_rfl) (by simp) ?_
        refine AllReady.cons rfl (fun K hK => ?_) ?_
        · go_simp
          refine (exErrno_nil _).mono ?_
          rintro e w5 ⟨rfl, hb5⟩
          have hy5 := (hb5.block _ HY4.out.lt).trans HY4.out
          have hr5 := (hb5.block _ HR4.out.lt).trans HR4.out
          have g1 := Boxed.cell hy5
          have g2 := Boxed.cell hr5
          have g3 := Boxed.frozen hr5
          refine hK _ _ ?_
          clear hK K
          refine wpAny_ready (rs := [3]) (by kernel_rfl) (by simp) ?_
          refine AllReady.cons rfl (fun K hK => ?_) ?_
          · go_simp
            refine hK _ _ ?_
            clear hK K
            refine wpAny_take (i := 4) (v := ?_) rfl (by kernel_rfl) (by kernel_rfl) (by kernel_rfl) (fun _ _ _ h => h) (Or.inl ⟨by rfl, ?_⟩) ?_
            rotate_left
            · intro w; go_simp; with_reducible rfl
            refine wpAny_done (by kernel_rfl) ?_ _
            go_wp2_with fail
            have g4 := (Boxed.set (.slice a3 m.length cap3) hr5).cell
            refine bodyPost_ret (v := .tuple #[.agg #[.slice a3 m.length cap3], .int .i64 0]) ?_ rfl ?_
            · simp [results, Tryz.f171, go_sem, g4]
            · refine ⟨(hb4.trans (hb5.mono hb4.size)).setCell (p := ⟨w.heap.size + 1, 0, none⟩) (by show _ ≤ _ + 1; omega) _, ?_⟩
              unfold exAdd
              rw [HR.out, if_pos rfl, hg]
              refine ⟨a3, cap3, rfl, ?_, fun x hx => ?_⟩
              · rw [size_set]; exact (((hS3.go ((Below.refl _ _).alloc (Nat.le_refl _) _)).go (Below.refl _ _).drew).go hb5).set_far (fun y hy => by have h7 := hfar3 y hy; have := hy1.lt; rw [World.size_alloc] at h7; show w.heap.size + 1 ≠ _; omega) _
              · have := hfar3 x hx; have := hb2.size; omega
          exact AllReady.nil
        exact AllReady.nil
      refine AllReady.cons rfl (fun K hK => ?_) ?_
      · go_simp
        refine (exErrno_nil _).mono ?_
        rintro e w5 ⟨rfl, hb5⟩
        have hy5 := (hb5.block _ HY4.out.lt).trans HY4.out
        have hr5 := (hb5.block _ HR4.out.lt).trans HR4.out
        have g1 := Boxed.cell hy5
        have g2 := Boxed.cell hr5
        have g3 := Boxed.frozen hr5
        refine hK _ _ ?_
        clear hK K
        refine wpAny_ready (rs := [0]) (by kernel_rfl) (by simp) ?_
        refine AllReady.cons rfl (fun K hK => ?_) ?_
        · go_simp
          refine hK _ _ ?_
          clear hK K
          refine wpAny_ready (rs := [3]) (by kernel_rfl) (by simp) ?_
          refine AllReady.cons rfl (fun K hK => ?_) ?_
          · go_simp
            refine hK _ _ ?_
            clear hK K
            refine wpAny_take (i := 4) (v := ?_) rfl (by kernel_rfl) (by kernel_rfl) (by kernel_rfl) (fun _ _ _ h => h) (Or.inl ⟨by rfl, ?_⟩) ?_
            rotate_left
            · intro w; go_simp; with_reducible rfl
            refine wpAny_done (by kernel_rfl) ?_ _
            go_wp2_with fail
            have g4 := (Boxed.set (.slice a3 m.length cap3) hr5).cell
            refine bodyPost_ret (v := .tuple #[.agg #[.slice a3 m.length cap3], .int .i64 0]) ?_ rfl ?_
            · simp [results, Tryz.f171, go_sem, g4]
            · refine ⟨(hb4.trans (hb5.mono hb4.size)).setCell (p := ⟨w.heap.size + 1, 0, none⟩) (by show _ ≤ _ + 1; omega) _, ?_⟩
              unfold exAdd
              rw [HR.out, if_pos rfl, hg]
              refine ⟨a3, cap3, rfl, ?_, fun x hx => ?_⟩
              · rw [size_set]; exact (((hS3.go ((Below.refl _ _).alloc (Nat.le_refl _) _)).go (Below.refl _ _).drew).go hb5).set_far (fun y hy => by have h7 := hfar3 y hy; have := hy1.lt; rw [World.size_alloc] at h7; show w.heap.size + 1 ≠ _; omega) _
              · have := hfar3 x hx; have := hb2.size; omega
          exact AllReady.nil
        exact AllReady.nil
      exact AllReady.nil
  | false =>
    go_wp2_with fail
    refine bodyPost_ret (v := .tuple #[.agg #[.slice none 0 0], .int .i64 60]) ?_ rfl ?_
    · have c3 := (hy1.set (.slice none 0 0)).cell
      simp [results, Tryz.f171, go_sem, c3]
    · refine ⟨hb1.setCell (p := ⟨w.heap.size + 1, 0, none⟩) (by show _ ≤ _ + 1; omega) _, ?_⟩
      unfold exAdd
      rw [HR.out]
      rfl
end Go.Proofs.YtmkefodaibmkhaaGreatDoor

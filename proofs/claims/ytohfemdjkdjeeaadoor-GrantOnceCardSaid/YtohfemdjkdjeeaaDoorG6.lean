/- Package grant: Revoke. -/
import Derived.Test.YtohfemdjkdjeeaaDoorG5
namespace Go.Proofs.YtohfemdjkdjeeaaDoor
open Go Go.RowKit Go.Shelf

theorem revoke1_any (x : Gr) (id : Int) (b : Nat) (w : World) (h1 : Boxed w b 22 (.int .u64 id)) :
    Calls Tryd.prog 17 (#[x.agg] ++ #[.pointer (some ⟨b, 0, none⟩)]) w fun e w' => e = .returned (.bool (x.id == id)) ∧ Below w.heap.size w w' := by
  have c1 := h1.cell
  have l1 := h1.lt
  have hB : Below w.heap.size w (w.alloc (.cells #[.int .u64 x.id, .int .u64 x.to, .string x.scope.1] 46)) := (Below.refl _ w).alloc (Nat.le_refl _) _
  unfold Gr.agg
  simp only [List.append_toArray, List.cons_append, List.nil_append]
  clear h1
  go_enter Tryd.func17, Tryd.ntmps17
  go_wp2_with fail
  go_ret
  exact ⟨rfl, hB⟩

def revokeS (g : Grants) (id : Int) : Grants × Int :=
  if grRight g then (match g.l.findIdx? (fun x => x.id == id) with | none => (⟨0, []⟩, 121) | some i => (⟨g.next, g.l.eraseIdx i⟩, 0)) else (⟨0, []⟩, 150)
def RevPost (r : Grants × Int) (w : World) (e : Ending) (w' : World) : Prop :=
  ∃ v, e = .returned (.tuple #[v, .int .i64 r.2]) ∧ GrantsAt w.heap.size w'.heap.size w' v r.1 ∧ Below w.heap.size w w'
/-- The way out of Revoke with an error. -/
theorem revoke_err {w W : World} {r : Grants × Int} {en : Int} {tm : Array Value} (hY : W.heap[w.heap.size + 1 + 1]? = some (.cells #[.int .u64 0, .slice none 0 0] 25 (0, 0))) (hB : Below w.heap.size w W) (h9 : r = (⟨0, []⟩, en))
    (t6 : tm[4]?.getD undef = .pointer (some ⟨w.heap.size + 1 + 1, 0, none⟩)) (t8 : tm[5]?.getD undef = .int .i64 en) :
    bodyPost Tryd.prog Tryd.f10 (RevPost r w) Exit.ret { tmps := tm, defers := [] } ((W.setCell ⟨w.heap.size + 1 + 1, 0, none⟩ (.int .u64 0)).setCell ⟨w.heap.size + 1 + 1, 1, none⟩ (.slice none 0 0)) := by
  have hf := set_cells2 (u := .int .u64 0) (v := .slice none 0 0) hY
  have f0 := cell_of_cells hf 0
  have f1 := cell_of_cells hf 1
  simp at f0 f1
  subst h9
  refine bodyPost_ret (v := .tuple #[.agg #[.int .u64 0, .slice none 0 0], .int .i64 en]) (by simp [results, Tryd.f10, go_sem, f0, f1, t6, t8]) rfl ⟨_, rfl, ⟨none, 0, 0, rfl, .inl ⟨rfl, rfl, rfl⟩, fun x h => by cases h⟩, (hB.setCell (p := ⟨w.heap.size + 1 + 1, 0, none⟩) (by show _ ≤ w.heap.size + 1 + 1; omega) _).setCell (p := ⟨w.heap.size + 1 + 1, 1, none⟩) (by show _ ≤ w.heap.size + 1 + 1; omega) _⟩

theorem slAt_set_far {n₀ q off m m' cap : Nat} {w : World} {cs : List Value} {p : Addr} (hp : p.block ≠ q) (v : Value) : SlAt n₀ w (.slice (some ⟨q, off, none⟩) m cap) m' cs → SlAt n₀ (w.setCell p v) (.slice (some ⟨q, off, none⟩) m cap) m' cs
  | .inl ⟨e, _⟩ => by cases e
  | .inr ⟨b, o, c, e, hb, hc⟩ => .inr ⟨b, o, c, e, hb, fun j hj => by
      obtain ⟨rfl, _⟩ : b = q ∧ True := ⟨by injection e with e1; injection e1 with e1; injection e1 with e1; exact e1.symm, trivial⟩
      rw [World.cell?_setCell_other (h := fun h => hp (by rw [h]))]; exact hc j hj⟩

set_option maxRecDepth 100000 in
set_option maxHeartbeats 2000000 in
theorem Revoke_any (g : Grants) (a : Option Addr) (len cap : Nat) (id : Int) (w : World) (hL : Grs w.heap.size w (.slice a len cap) g.l) (hG : GW w) :
    Calls Tryd.prog 10 #[.agg #[.int .u64 g.next, .slice a len cap], .int .u64 id] w (RevPost (revokeS g id) w) := by
  obtain ⟨hlen, -⟩ := SlAt.elems gr_enc_len hL
  subst hlen
  have hB1 : Below w.heap.size w (w.alloc (.cells #[.int .u64 g.next, .slice a g.l.length cap] 25)) := (Below.refl _ w).alloc (Nat.le_refl _) _
  have hX := World.alloc_heap_new w (.cells #[.int .u64 g.next, .slice a g.l.length cap] 25)
  obtain ⟨Wa, hWa, b1, hB2, hs2⟩ := box1 (w.alloc (.cells #[.int .u64 g.next, .slice a g.l.length cap] 25)) (.int .u64 id) 22
  rw [World.size_alloc] at b1 hs2 hB2
  obtain ⟨W0, hW0⟩ : ∃ W0, Wa.alloc (.cells #[.int .u64 0, .slice none 0 0] 25) = W0 := ⟨_, rfl⟩
  have hBa0 : Below Wa.heap.size Wa W0 := by rw [← hW0]; exact (Below.refl _ _).alloc (Nat.le_refl _) _
  have hB0 : Below w.heap.size w W0 := (hB1.trans (hB2.mono (by omega))).trans (hBa0.mono (by omega))
  have hs0 : W0.heap.size = w.heap.size + 3 := by rw [← hW0]; simp; omega
  have hX0 : W0.heap[w.heap.size]? = some (.cells #[.int .u64 g.next, .slice a g.l.length cap] 25 (0, 0)) := (hBa0.block _ (by omega)).trans ((hB2.block w.heap.size (by omega)).trans hX)
  have hY0 : W0.heap[w.heap.size + 1 + 1]? = some (.cells #[.int .u64 0, .slice none 0 0] 25 (0, 0)) := by rw [← hW0]; have := World.alloc_heap_new Wa (.cells #[.int .u64 0, .slice none 0 0] 25); rwa [hs2] at this
  have e0 := bBoxed hBa0 b1.lt b1
  have c0 := cell_of_cells hX0 0
  have c1 := cell_of_cells hX0 1
  have hR := grant_Right_any g a g.l.length cap W0 ((SlAt.below hB0 hL).mono hB0.size) (hG.below hB0)
  simp at c0 c1
  clear hB1 hX hB2 hBa0 b1
  go_enter Tryd.func10, Tryd.ntmps10
  go_wp2_with fail
  refine hR.mono ?_
  rintro e w1 ⟨rfl, hb1⟩
  have hX1 := (hb1.block _ (by omega)).trans hX0
  have hY1 := (hb1.block _ (by omega)).trans hY0
  have e1 := bBoxed hb1 e0.lt e0
  have hB1 : Below w.heap.size w w1 := hB0.trans (hb1.mono (by omega))
  have hz1 := hb1.size
  have d0 := cell_of_cells hY1 0
  have d1 := cell_of_cells hY1 1
  have d2 := frozen_of_cells hY1 0
  have d3 := frozen_of_cells hY1 1
  simp at d0 d1
  clear hWa hW0 hR c0 c1 hX0 hY0 hb1
  cases hr : grRight g with
  | false =>
    have HR := Lib.hid hr
    clear hr
    go_wp2_with fail
    exact revoke_err hY1 hB1 (by simp [revokeS, HR.out]) rfl rfl
  | true =>
    have HR := Lib.hid hr
    obtain ⟨hl10, hn1⟩ := grRight_len hr
    have c1 := cell_of_cells hX1 1
    simp at c1
    have hp : PredGr 17 #[.pointer (some ⟨w.heap.size + 1, 0, none⟩)] (fun x => x.id == id) w1 g.l := by
      intro x _ W hW
      exact revoke1_any x id (w.heap.size + 1) W (bBoxed hW e1.lt e1)
    have hL1 : Grs w1.heap.size w1 (.slice a g.l.length cap) g.l := (SlAt.below hB1 hL).mono hB1.size
    have hen : ∀ args w, (callFunc 17 args).run Tryd.prog w = .ok (.enter 17 args) w := enters_of Tryd.func17 (by kernel_rfl) rfl
    have HC := Lib.hid (indexFunc_gr a g.l.length cap g.l _ _ _ w1 hL1 (by omega) hen hp)
    clear hp hen hr
    go_wp2_with fail
    refine HC.out.mono ?_
    rintro e w2 ⟨rfl, hb2⟩
    clear HC d0 d1 d2 d3 c1
    have hX2 := (hb2.block _ (by omega)).trans hX1
    have hY2 := (hb2.block _ (by omega)).trans hY1
    have hB2 : Below w.heap.size w w2 := hB1.trans (hb2.mono (by omega))
    have hz2 := hb2.size
    have d0 := cell_of_cells hY2 0
    have d1 := cell_of_cells hY2 1
    have d2 := frozen_of_cells hY2 0
    have d3 := frozen_of_cells hY2 1
    have c1 := cell_of_cells hX2 1
    simp at c1 d0 d1
    clear hX1 hY1 hb2 e1 e0 hL1
    cases hf : g.l.findIdx? (fun x => x.id == id) with
    | none =>
      have HF := Lib.hid hf
      have hi : idxOf (fun x => x.id == id) g.l = -1 := by simp only [idxOf, hf]
      rw [hi]
      clear hf hi
      go_wp2_with fail
      exact revoke_err hY2 hB2 (by simp [revokeS, HR.out, HF.out]) rfl rfl
    | some i =>
      have HF := Lib.hid hf
      have hi : idxOf (fun x => x.id == id) g.l = i := by simp only [idxOf, hf]
      have hil : i < g.l.length := (List.findIdx?_eq_some_iff_getElem.1 hf).1
      rw [hi]
      have t1 : decide ((i : Int) < 0) = false := by simp
      have HCl := Lib.hid (clone_gr a g.l.length cap g.l w2 ((SlAt.below hB2 hL).mono hB2.size) (by omega))
      clear hf hi
      go_wp2_with fail
      refine HCl.out.mono ?_
      rintro e w3 ⟨v3, rfl, hown, hb3⟩
      rcases hown.2 with ⟨_, h0⟩ | ⟨q, cap3, cur, rfl, hq, hqq, hnc, hcm, hcs, htk⟩
      · omega
      have hX3 := (hb3.block _ (by omega)).trans hX2
      have hY3 := (hb3.block _ (by omega)).trans hY2
      have hB3 : Below w.heap.size w w3 := hB2.trans (hb3.mono (by omega))
      have hz3 := hb3.size
      obtain ⟨m, hm1, hm2⟩ : ∃ m, m < g.l.length ∧ g.l.length ≤ m + 1 := ⟨g.l.length - 1, by omega, by omega⟩
      have HD := Lib.hid (delete_gr q g.l.length m cap3 i cur g.l w3 hqq (by omega) (by omega) hnc (by omega) (by omega) hcs (by rw [htk]; exact grs_one g.l) htk rfl)
      clear HCl c1 d0 d1 d2 d3 hX2 hY2 hb3 hown hqq hnc hcm hcs htk
      go_wp2_with fail
      refine HD.out.mono ?_
      rintro e w4 ⟨rfl, hg4, hb4⟩
      have hX4 := (hb4.block _ (by omega)).trans hX3
      have hY4 := (hb4.block _ (by omega)).trans hY3
      have hB4 : Below w.heap.size w w4 := hB3.trans (hb4.mono (by omega))
      have hz4 := hb4.size
      have c0 := cell_of_cells hX4 0
      have d0 := cell_of_cells hY4 0
      have d1 := cell_of_cells hY4 1
      have d2 := frozen_of_cells hY4 0
      have d3 := frozen_of_cells hY4 1
      simp at c0 d0 d1
      clear HD hX3 hY3 hb4
      go_wp2_with fail
      have hf := set_cells2 (u := .int .u64 g.next) (v := .slice (some ⟨q, 0, none⟩) m cap3) hY4
      have f0 := cell_of_cells hf 0
      have f1 := cell_of_cells hf 1
      simp at f0 f1
      have hne : w.heap.size + 1 + 1 ≠ q := by omega
      have hg5 := slAt_set_far (p := ⟨w.heap.size + 1 + 1, 1, none⟩) hne (.slice (some ⟨q, 0, none⟩) m cap3) (slAt_set_far (p := ⟨w.heap.size + 1 + 1, 0, none⟩) hne (.int .u64 g.next) hg4)
      have h9 : revokeS g id = (⟨g.next, g.l.eraseIdx i⟩, 0) := by simp [revokeS, HR.out, HF.out]
      rw [h9]
      refine bodyPost_ret (v := .tuple #[.agg #[.int .u64 g.next, .slice (some ⟨q, 0, none⟩) m cap3], .int .i64 0]) (by simp [results, Tryd.f10, go_sem, f0, f1]) rfl ⟨_, rfl, ⟨_, _, _, rfl, ?_, fun x h => by cases h; show w.heap.size ≤ q; omega⟩, (hB4.setCell (p := ⟨w.heap.size + 1 + 1, 0, none⟩) (by show _ ≤ w.heap.size + 1 + 1; omega) _).setCell (p := ⟨w.heap.size + 1 + 1, 1, none⟩) (by show _ ≤ w.heap.size + 1 + 1; omega) _⟩
      exact hg5.mono (by simp [World.setCell])
end Go.Proofs.YtohfemdjkdjeeaaDoor

/- Package grant: Issue. -/
import Derived.Test.YtohfemdjkdjeeaaDoorG3
namespace Go.Proofs.YtohfemdjkdjeeaaDoor
open Go Go.RowKit Go.Shelf

/-! ### Issue -/
def issueS (g : Grants) (to : Int) (s : StrK) : Grants × Int × Int :=
  if grRight g then (if scRight s then (if (g.l.length : Int) == 10 || g.next == 18446744073709551615 then (⟨0, []⟩, 0, 151) else (⟨g.next + 1, g.l ++ [⟨g.next, to, s⟩]⟩, g.next, 0)) else (⟨0, []⟩, 0, 50)) else (⟨0, []⟩, 0, 150)
/-- What a call that hands back grants leaves. -/
def GrantsAt (lo n₀ : Nat) (w : World) (v : Value) (g : Grants) : Prop := ∃ a len cap, v = .agg #[.int .u64 g.next, .slice a len cap] ∧ Grs n₀ w (.slice a len cap) g.l ∧ ∀ x, a = some x → lo ≤ x.block
def IssuePost (r : Grants × Int × Int) (w : World) (e : Ending) (w' : World) : Prop :=
  ∃ v, e = .returned (.tuple #[v, .int .u64 r.2.1, .int .i64 r.2.2]) ∧ GrantsAt w.heap.size w'.heap.size w' v r.1 ∧ Below w.heap.size w w'
theorem info_grant : (Tryd.prog.info? 46).map (fun i => (i.zero, i.size, i.bytes)) = some (some (.agg #[.int .u64 0, .int .u64 0, .string ⟨#[]⟩]), 3, 32) := by kernel_rfl
theorem und_grants : Tryd.prog.underlying 23 = some (.slice 46) := by kernel_rfl
theorem grs_one (l : List Gr) : ∀ u ∈ l.flatMap Gr.enc, u.oneCell' = true := by
  intro u hu
  obtain ⟨x, _, hx⟩ := List.mem_flatMap.1 hu
  simp only [Gr.enc, List.mem_cons, List.not_mem_nil, or_false] at hx
  rcases hx with rfl | rfl | rfl <;> rfl

/-- The way out of Issue with an error. -/
theorem issue_err {w W : World} {r : Grants × Int × Int} {en : Int} {tm : Array Value} (hY : W.heap[w.heap.size + 1]? = some (.cells #[.int .u64 0, .slice none 0 0] 25 (0, 0))) (hB : Below w.heap.size w W) (h9 : r = (⟨0, []⟩, 0, en))
    (t6 : tm[6]?.getD undef = .pointer (some ⟨w.heap.size + 1, 0, none⟩)) (t7 : tm[7]?.getD undef = .int .u64 0) (t8 : tm[8]?.getD undef = .int .i64 en) :
    bodyPost Tryd.prog Tryd.f8 (IssuePost r w) Exit.ret { tmps := tm, defers := [] } ((W.setCell ⟨w.heap.size + 1, 0, none⟩ (.int .u64 0)).setCell ⟨w.heap.size + 1, 1, none⟩ (.slice none 0 0)) := by
  have hf := set_cells2 (u := .int .u64 0) (v := .slice none 0 0) hY
  have f0 := cell_of_cells hf 0
  have f1 := cell_of_cells hf 1
  simp at f0 f1
  subst h9
  refine bodyPost_ret (v := .tuple #[.agg #[.int .u64 0, .slice none 0 0], .int .u64 0, .int .i64 en]) (by simp [results, Tryd.f8, go_sem, f0, f1, t6, t7, t8]) rfl ⟨_, rfl, ⟨none, 0, 0, rfl, .inl ⟨rfl, rfl, rfl⟩, fun x h => by cases h⟩, (hB.setCell (p := ⟨w.heap.size + 1, 0, none⟩) (Nat.le_succ _) _).setCell (p := ⟨w.heap.size + 1, 1, none⟩) (Nat.le_succ _) _⟩

set_option maxRecDepth 100000 in
set_option maxHeartbeats 2000000 in
theorem Issue_any (g : Grants) (a : Option Addr) (len cap : Nat) (to : Int) (s : StrK) (w : World) (hL : Grs w.heap.size w (.slice a len cap) g.l) (hG : GW w) (hu : U64 g.next) :
    Calls Tryd.prog 8 #[.agg #[.int .u64 g.next, .slice a len cap], .int .u64 to, .string s.1] w (IssuePost (issueS g to s) w) := by
  obtain ⟨hlen, -⟩ := SlAt.elems gr_enc_len hL
  subst hlen
  have hB1 : Below w.heap.size w (w.alloc (.cells #[.int .u64 g.next, .slice a g.l.length cap] 25)) := (Below.refl _ w).alloc (Nat.le_refl _) _
  have hX := World.alloc_heap_new w (.cells #[.int .u64 g.next, .slice a g.l.length cap] 25)
  obtain ⟨W0, hW0⟩ : ∃ W0, (w.alloc (.cells #[.int .u64 g.next, .slice a g.l.length cap] 25)).alloc (.cells #[.int .u64 0, .slice none 0 0] 25) = W0 := ⟨_, rfl⟩
  have hB0 : Below w.heap.size w W0 := by rw [← hW0]; exact hB1.alloc (by simp) _
  have hs0 : W0.heap.size = w.heap.size + 2 := by rw [← hW0]; simp
  have hX0 : W0.heap[w.heap.size]? = some (.cells #[.int .u64 g.next, .slice a g.l.length cap] 25 (0, 0)) := by rw [← hW0]; exact (Below.heap_alloc _ _ _ (by simp)).trans hX
  have hY0 : W0.heap[w.heap.size + 1]? = some (.cells #[.int .u64 0, .slice none 0 0] 25 (0, 0)) := by rw [← hW0]; have := World.alloc_heap_new (w.alloc (.cells #[.int .u64 g.next, .slice a g.l.length cap] 25)) (.cells #[.int .u64 0, .slice none 0 0] 25); rwa [World.size_alloc] at this
  have c0 := cell_of_cells hX0 0
  have c1 := cell_of_cells hX0 1
  have hR := grant_Right_any g a g.l.length cap W0 ((SlAt.below hB0 hL).mono hB0.size) (hG.below hB0)
  simp at c0 c1
  clear hB1 hX
  go_enter Tryd.func8, Tryd.ntmps8
  go_wp2_with fail
  refine hR.mono ?_
  rintro e w1 ⟨rfl, hb1⟩
  have hX1 := (hb1.block _ (by omega)).trans hX0
  have hY1 := (hb1.block _ (by omega)).trans hY0
  have hB1 : Below w.heap.size w w1 := hB0.trans (hb1.mono (by omega))
  have hz1 := hb1.size
  have d0 := cell_of_cells hY1 0
  have d1 := cell_of_cells hY1 1
  have d2 := frozen_of_cells hY1 0
  have d3 := frozen_of_cells hY1 1
  simp at d0 d1
  clear hW0 hR c0 c1 hX0 hY0 hb1
  cases hr : grRight g with
  | false =>
    have HR := Lib.hid hr
    clear hr
    go_wp2_with fail
    exact issue_err hY1 hB1 (by simp [issueS, HR.out]) rfl rfl rfl
  | true =>
    have HR := Lib.hid hr
    obtain ⟨hl10, hn1⟩ := grRight_len hr
    obtain ⟨hu0, hu1⟩ := hu
    have hS := scRight_any s w1 (hG.below hB1)
    clear hr
    go_wp2_with fail
    refine hS.mono ?_
    rintro e w2 ⟨rfl, hb2⟩
    have hX2 := (hb2.block _ (by omega)).trans hX1
    have hY2 := (hb2.block _ (by omega)).trans hY1
    have hB2 : Below w.heap.size w w2 := hB1.trans (hb2.mono (by omega))
    have hz2 := hb2.size
    have c0 := cell_of_cells hX2 0
    have c1 := cell_of_cells hX2 1
    clear d0 d1 d2 d3
    have d0 := cell_of_cells hY2 0
    have d1 := cell_of_cells hY2 1
    have d2 := frozen_of_cells hY2 0
    have d3 := frozen_of_cells hY2 1
    simp at c0 c1 d0 d1
    clear hS hX1 hY1 hb2
    cases hs : scRight s with
    | false =>
      have HS := Lib.hid hs
      clear hs
      go_wp2_with fail
      exact issue_err hY2 hB2 (by simp [issueS, HR.out, HS.out]) rfl rfl rfl
    | true =>
      have HS := Lib.hid hs
      clear hs
      by_cases h10 : g.l.length = 10
      · have t1 : ((g.l.length : Int) == 10) = true := by simp [h10]
        have H1 := Lib.hid t1
        clear h10
        go_wp2_with fail
        exact issue_err hY2 hB2 (by simp [issueS, HR.out, HS.out, H1.out]) rfl rfl rfl
      have t1 : ((g.l.length : Int) == 10) = false := by rw [beq_eq_false_iff_ne]; omega
      by_cases hm : g.next = 18446744073709551615
      · have t2 : (g.next == 18446744073709551615) = true := by rw [beq_iff_eq]; exact hm
        have H2 := Lib.hid t2
        clear hm
        go_wp2_with fail
        exact issue_err hY2 hB2 (by simp [issueS, HR.out, HS.out, H2.out]) rfl rfl rfl
      have t2 : (g.next == 18446744073709551615) = false := by rw [beq_eq_false_iff_ne]; exact hm
      have hnx : g.next ≤ 18446744073709551614 := by omega
      have H12 : Hid (issueS g to s = (⟨g.next + 1, g.l ++ [⟨g.next, to, s⟩]⟩, g.next, 0)) := by simp only [Hid, issueS, HR.out, HS.out, t1, t2]; rfl
      clear h10 hm
      obtain ⟨i0, hi, hz0, hz1, hz2'⟩ := info_parts info_grant
      obtain ⟨w3, hmk, hown3, hg3⟩ := run_make_own (P := Tryd.prog) w2 (w.heap.size + 2) 23 46 i0 _ 3 und_grants hi hz0 hz1 .i64 .i64 (g.l.length + 1) (by rw [hz2']; omega) (by unfold maxLen; omega) (by omega)
      have hcast : ((g.l.length + 1 : Nat) : Int) = (g.l.length : Int) + 1 := by omega
      rw [hcast] at hmk
      have hB3 : Below w.heap.size w w3 := hB2.grown hg3 (by omega) (fun k e => by cases e)
      have hX3 := (hg3.block w.heap.size (by omega) (by simp)).trans hX2
      have hY3 := (hg3.block (w.heap.size + 1) (by omega) (by simp)).trans hY2
      have hz3 := hg3.size
      have hL3 : Grs w3.heap.size w3 (.slice a g.l.length cap) g.l := (SlAt.below hB3 hL).mono hB3.size
      obtain ⟨v4, w4, hap4, hown4, hB4, hz4, hbl4, -⟩ := append_list Tryd.prog 23 und_grants info_grant rfl (by decide) hown3 hB3 (by omega) (by omega) hL3 (flat_len Gr.enc 3 gr_enc_len g.l) (grs_one g.l) (by omega) (by omega) (by decide)
      rw [Nat.zero_add, List.nil_append] at hown4
      obtain ⟨g5, cap5, w5, hap5, hown5, hB5, hz5, hbl5, -⟩ := append_one Tryd.prog 23 und_grants info_grant rfl (by decide) hown4 hB4 (by omega) (by omega) [.int .u64 g.next, .int .u64 to, .string s.1] rfl (by simp [Value.oneCell']) (by omega) (by decide)
      have hX4 := (hbl4 w.heap.size (by omega)).trans hX3
      have hX5 := (hbl5 w.heap.size (by omega)).trans hX4
      have hY5 := (hbl5 (w.heap.size + 1) (by omega)).trans ((hbl4 (w.heap.size + 1) (by omega)).trans hY3)
      have k0 := cell_of_cells hX3 1
      have k1 := cell_of_cells hX4 0
      have k2 := cell_of_cells hX5 0
      have m0 := cell_of_cells hY5 0
      have m1 := cell_of_cells hY5 1
      have m2 := frozen_of_cells hY5 0
      have m3 := frozen_of_cells hY5 1
      simp at k0 k1 k2 m0 m1
      obtain ⟨va, vc, rfl⟩ := owns_form hown4
      have hfin : Hid (w5.ownsRow (w.heap.size + 2) 46 3 (.slice (some ⟨g5, 0, none⟩) (g.l.length + 1) cap5) (g.l.length + 1) (g.l.flatMap Gr.enc ++ [.int .u64 g.next, .int .u64 to, .string s.1])) := hown5
      have hge5 : w.heap.size + 2 ≤ g5 := (hown5.lt g5 rfl).1
      clear hbl4 hbl5 hown3 hown4 hown5 hg3 hcast
      go_wp2_with (first | (at_builtin; refine wp_append_eq rfl (.tmp 33) (.tmp 35) _ rfl rfl rfl hap4 ?_) | (at_builtin; refine wp_append_eq rfl (.tmp 37) (.tmp 43) _ rfl rfl rfl hap5 ?_))
      go_region
      all_goals go_wp2_with fail
      have hf := set_cells2 (u := .int .u64 (g.next + 1)) (v := .slice (some ⟨g5, 0, none⟩) (g.l.length + 1) cap5) hY5
      have f0 := cell_of_cells hf 0
      have f1 := cell_of_cells hf 1
      simp at f0 f1
      have hq := ownsRow_setCell_below (ownsRow_setCell_below hfin.out (a := ⟨w.heap.size + 1, 0, none⟩) (by show w.heap.size + 1 < _; omega) (.int .u64 (g.next + 1))) (a := ⟨w.heap.size + 1, 1, none⟩) (by show w.heap.size + 1 < _; omega) (.slice (some ⟨g5, 0, none⟩) (g.l.length + 1) cap5)
      have hsl := (slAt_of_owns hq).drew
      rw [H12.out]
      refine bodyPost_ret (v := .tuple #[.agg #[.int .u64 (g.next + 1), .slice (some ⟨g5, 0, none⟩) (g.l.length + 1) cap5], .int .u64 g.next, .int .i64 0]) (by simp [results, Tryd.f8, go_sem, f0, f1]) rfl ⟨_, rfl, ⟨_, _, _, rfl, ?_, fun x h => by cases h; show w.heap.size ≤ g5; omega⟩, ((hB5.setCell (p := ⟨w.heap.size + 1, 0, none⟩) (Nat.le_succ _) _).setCell (p := ⟨w.heap.size + 1, 1, none⟩) (Nat.le_succ _) _).drew⟩
      unfold Grs
      simpa [Gr.enc] using hsl
end Go.Proofs.YtohfemdjkdjeeaaDoor

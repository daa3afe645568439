/- slices.Clone, slices.Delete at []api.Grant; Revoke. -/
import Derived.Test.YtohfemdjkdjeeaaDoorG4
import Derived.Lib.SliceRun
namespace Go.Proofs.YtohfemdjkdjeeaaDoor
open Go Go.RowKit Go.Shelf

theorem eql_nil (a : Option Addr) (n c : Nat) (w : World) : (binOp .eql 23 (.slice a n c) (.slice none 0 0)).run Tryd.prog w = .ok (.bool a.isNone) w := by
  exact Lib.run_eql_slice_nil w _ _ a n c 0 0 und_grants
set_option maxHeartbeats 1000000 in
theorem clone_gr (a : Option Addr) (len cap : Nat) (l : List Gr) (w : World) (hL : Grs w.heap.size w (.slice a len cap) l) (hll : l.length < 2147483648) :
    Calls Tryd.prog 19 #[.slice a len cap] w fun e w' => ∃ v, e = .returned v ∧ w'.ownsRow w.heap.size 46 3 v l.length (l.flatMap Gr.enc) ∧ Below w.heap.size w w' := by
  have he := eql_nil a len cap
  cases a with
  | none =>
    have hl0 : l = [] := by
      rcases hL with ⟨_, h, _⟩ | ⟨b, off, c, e, _⟩
      · exact List.eq_nil_of_length_eq_zero h
      · simp at e
    subst hl0
    go_enter Tryd.func19, Tryd.ntmps19
    go_wp2_with fail
    go_ret
    exact ⟨_, rfl, World.ownsRow_nil _ _ _ _, Below.refl _ _⟩
  | some a =>
    have hB1 : Below w.heap.size w (w.alloc (.cells #[] 46)) := (Below.refl _ w).alloc (Nat.le_refl _) _
    have hown : (w.alloc (.cells #[] 46)).ownsRow w.heap.size 46 3 (.slice (some ⟨w.heap.size, 0, none⟩) 0 0) 0 [] := ⟨rfl, .inr ⟨w.heap.size, 0, #[], rfl, Nat.le_refl _, World.alloc_heap_new _ _, Nat.le_refl _, by unfold maxLen; omega, rfl, rfl⟩⟩
    have hL1 : Grs (w.alloc (.cells #[] 46)).heap.size (w.alloc (.cells #[] 46)) (.slice (some a) len cap) l := (SlAt.below hB1 hL).mono (by simp)
    obtain ⟨v4, w4, hap4, hown4, hB4, hz4, -, -⟩ := append_list Tryd.prog 23 und_grants info_grant rfl (by decide) hown hB1 (Nat.le_refl _) (by simp) hL1 (flat_len Gr.enc 3 gr_enc_len l) (grs_one l) (by omega) (by omega) (by decide)
    rw [Nat.zero_add, List.nil_append] at hown4
    clear hL hL1 hown
    go_enter Tryd.func19, Tryd.ntmps19
    go_wp2_with (at_builtin; refine wp_append_eq rfl _ _ _ rfl rfl rfl hap4 ?_)
    go_ret
    exact ⟨_, rfl, hown4, hB4⟩

theorem flat_take {α : Type} (enc : α → List Value) (k : Nat) (hk : ∀ x, (enc x).length = k) : ∀ (l : List α) (i : Nat), (l.flatMap enc).take (i * k) = (l.take i).flatMap enc ∧ (l.flatMap enc).drop (i * k) = (l.drop i).flatMap enc
  | [], i => by simp
  | y :: ys, 0 => by simp
  | y :: ys, i + 1 => by
    obtain ⟨h1, h2⟩ := flat_take enc k hk ys i
    have e : (i + 1) * k = (enc y).length + i * k := by rw [hk, Nat.succ_mul]; omega
    simp only [List.flatMap_cons, List.take_succ_cons, List.drop_succ_cons]
    rw [e, List.take_length_add_append, List.drop_length_add_append, h1, h2]
    exact ⟨rfl, rfl⟩
theorem heap_setCells_known {g : Nat} {t : TypeId} {fz : Nat × Nat} : ∀ (vs : List Value) (o : Nat) (W : World) (cur : Array Value), W.heap[g]? = some (.cells cur t fz) → o + vs.length ≤ cur.size →
    ∃ cur', (W.setCells g o vs).heap[g]? = some (.cells cur' t fz) ∧ cur'.size = cur.size ∧ (∀ j, j < vs.length → cur'[o + j]? = vs[j]?) ∧ ∀ j, (j < o ∨ o + vs.length ≤ j) → cur'[j]? = cur[j]?
  | [], o, W, cur, h, _ => ⟨cur, h, rfl, fun j hj => absurd hj (by simp), fun _ _ => rfl⟩
  | v :: r, o, W, cur, h, hl => by
    simp only [List.length_cons] at hl
    obtain ⟨cur', h1, h2, h3, h4⟩ := heap_setCells_known r (o + 1) (W.setCell ⟨g, o, none⟩ v) (cur.setIfInBounds o v) (heap_set_known h v) (by simp; omega)
    refine ⟨cur', h1, by simpa using h2, fun j hj => ?_, fun j hj => ?_⟩
    · cases j with
      | zero =>
        rw [Nat.add_zero, h4 o (.inl (by omega))]
        simp [show o < cur.size by omega]
      | succ j =>
        have := h3 j (by simp at hj; omega)
        rw [show o + (j + 1) = o + 1 + j by omega, this]; simp
    · simp only [List.length_cons] at hj
      rw [h4 j (by omega)]
      have : j ≠ o := by omega
      rw [Array.getElem?_setIfInBounds_ne (by omega)]
theorem erase_flat (l : List Gr) (i : Nat) : (l.eraseIdx i).flatMap Gr.enc = (l.flatMap Gr.enc).take (i * 3) ++ (l.flatMap Gr.enc).drop ((i + 1) * 3) := by
  rw [(flat_take Gr.enc 3 gr_enc_len l i).1, (flat_take Gr.enc 3 gr_enc_len l (i + 1)).2, List.eraseIdx_eq_take_drop_succ, List.flatMap_append]
/-- The append inside Delete. -/
theorem delete_append (g n m cap i : Nat) (cur : Array Value) (w : World) (hg : w.heap[g]? = some (.cells cur 46 (0, 0))) (hm1 : m < n) (hm2 : n ≤ m + 1) (hn : n ≤ cap) (hcs : cur.size = cap * 3) (hi : i ≤ m) (h1 : ∀ u ∈ cur.toList.take (n * 3), u.oneCell' = true) :
    (Builtin.append_ #[23, 23] 23 #[.slice (some ⟨g, 0, none⟩) i cap, .slice (if cap = i + 1 then some ⟨g, 0, none⟩ else some ⟨g, (i + 1) * 3, none⟩) (n - (i + 1)) (cap - (i + 1))]).run Tryd.prog w.drew =
      .ok (.slice (some ⟨g, 0, none⟩) m cap) (w.drew.setCells g (i * 3) ((cur.toList.take (n * 3)).drop ((i + 1) * 3))) := by
  obtain ⟨i0, hii, hz0, hz1, hz2⟩ := info_parts info_grant
  have hgd : w.drew.heap[g]? = some (.cells cur 46 (0, 0)) := hg
  have hlen : ((cur.toList.take (n * 3)).drop ((i + 1) * 3)).length = (n - (i + 1)) * i0.size := by
    rw [hz1, List.length_drop, List.length_take, Array.length_toList, hcs, Nat.min_eq_left (Nat.mul_le_mul_right 3 hn), ← Nat.sub_mul]
  have key : ∀ a : Addr, (a = ⟨g, (i + 1) * 3, none⟩ ∨ (cur.toList.take (n * 3)).drop ((i + 1) * 3) = []) → (Builtin.append_ #[23, 23] 23 #[.slice (some ⟨g, 0, none⟩) i cap, .slice (some a) (n - (i + 1)) (cap - (i + 1))]).run Tryd.prog w.drew =
      .ok (.slice (some ⟨g, 0, none⟩) (i + (n - (i + 1))) cap) (w.drew.setCells g (0 + i * i0.size) ((cur.toList.take (n * 3)).drop ((i + 1) * 3))) := by
    intro a ha
    refine run_append_room_cells (P := Tryd.prog) w.drew 23 23 46 i0 und_grants hii g 0 i cap a (n - (i + 1)) (cap - (i + 1)) _ hlen (fun j u hj => ?_) (fun u hu => h1 u (List.mem_of_mem_drop hu)) (by omega) (fun j hj => ?_) (fun j hj => frozen_of_cells hgd _)
    · rcases ha with rfl | ha
      · have ea : (⟨g, (i + 1) * 3, none⟩ : Addr).add j = ⟨g, (i + 1) * 3 + j, none⟩ := by unfold Addr.add; split <;> simp_all
        rw [ea, cell_of_cells hgd]
        rw [List.getElem?_drop, List.getElem?_take] at hj
        split at hj
        · rw [← hj]; simp
        · cases hj
      · rw [ha] at hj; simp at hj
    · rw [cell_of_cells hgd]
      rw [hlen, hz1] at hj
      rw [hz1]
      have : i * 3 + j < cur.size := by rw [hcs]; omega
      simp [this]
  rw [hz1, Nat.zero_add, show i + (n - (i + 1)) = m by omega] at key
  split
  · rename_i hc
    exact key _ (.inr (List.eq_nil_of_length_eq_zero (by rw [hlen, show n - (i + 1) = 0 by omega]; simp)))
  · exact key _ (.inl rfl)

theorem clear_one (g o c : Nat) (W : World) (hc : ∀ j, j < 3 → (W.cell? ⟨g, o + j, none⟩).isSome = true) (hf : ∀ j, j < 3 → W.frozen? ⟨g, o + j, none⟩ = false) :
    (Builtin.clear_ #[23] 0 #[.slice (some ⟨g, o, none⟩) 1 c]).run Tryd.prog W = .ok (.tuple #[]) (W.setCells g o [.int .u64 0, .int .u64 0, .string ⟨#[]⟩]) := by
  have hst := run_storeCells_cells (P := Tryd.prog) g o [.int .u64 0, .int .u64 0, .string ⟨#[]⟩] 0 W (by simpa using hc) (by simpa using hf) (by simp [Value.oneCell'])
  simp only [Nat.add_zero] at hst
  have hzc : (Builtin.zeroCells (Value.agg #[.int .u64 0, .int .u64 0, .string ⟨#[]⟩]).cells 1).toList = [.int .u64 0, .int .u64 0, .string ⟨#[]⟩] := by kernel_rfl
  simp [Builtin.clear_, run_underlying und_grants, hzc, hst]

set_option maxRecDepth 100000 in
set_option maxHeartbeats 1000000 in
theorem delete_gr (g n m cap i : Nat) (cur : Array Value) (l : List Gr) (w : World) (hg : w.heap[g]? = some (.cells cur 46 (0, 0))) (hm1 : m < n) (hm2 : n ≤ m + 1) (hn : n ≤ cap) (hcap : n < 2147483648) (hi : i ≤ m) (hcs : cur.size = cap * 3) (h1 : ∀ u ∈ cur.toList.take (n * 3), u.oneCell' = true) (hl : cur.toList.take (n * 3) = l.flatMap Gr.enc) (hlm : l.length = n) :
    Calls Tryd.prog 18 #[.slice (some ⟨g, 0, none⟩) n cap, .int .i64 i, .int .i64 (i + 1)] w fun e w' => e = .returned (.slice (some ⟨g, 0, none⟩) m cap) ∧ Grs w'.heap.size w' (.slice (some ⟨g, 0, none⟩) m cap) (l.eraseIdx i) ∧ Below g w w' := by
  have b1 : (0 : Int) ≤ i := by omega
  have b2 : (i : Int) ≤ (i : Int) + 1 := by omega
  have b3 : (i : Int) + 1 ≤ (n : Nat) := by omega
  have b4 : ((n : Nat) : Int) ≤ cap := by omega
  have b5 : (i : Int) ≤ cap := by omega
  have b6 : (i : Int) ≤ (n : Nat) := by omega
  have b7 : (0 : Int) ≤ (i : Int) + 1 := by omega
  have b8 : ((i : Int) + 1).toNat = i + 1 := by omega
  have t1 : ((i : Int) == (i : Int) + 1) = false := by rw [beq_eq_false_iff_ne]; omega
  have hap := delete_append g n m cap i cur w hg hm1 hm2 hn hcs hi h1
  have HL := Lib.hid hl
  have HC := Lib.hid hcs
  have HM := Lib.hid hlm
  have HG := Lib.hid hg
  clear hl hcs hlm h1 hg
  go_enter Tryd.func18, Tryd.ntmps18
  go_wp2_with fail
  go_region_law (refine step_append_eq rfl (.tmp 22) (.tmp 25) _ rfl rfl rfl hap ?_)
  have hm3 : m * 3 + 3 ≤ cap * 3 := by omega
  have hcl : ((cur.toList.take (n * 3)).drop ((i + 1) * 3)).length = (m - i) * 3 := by
    rw [List.length_drop, List.length_take, Array.length_toList, HC.out, Nat.min_eq_left (Nat.mul_le_mul_right 3 hn)]; omega
  obtain ⟨cur', k1, k2, k3, k4⟩ := heap_setCells_known (g := g) ((cur.toList.take (n * 3)).drop ((i + 1) * 3)) (i * 3) w.drew cur HG.out (by rw [hcl, HC.out]; omega)
  have hB1 : Below g w (w.drew.setCells g (i * 3) ((cur.toList.take (n * 3)).drop ((i + 1) * 3))) := below_setCells (Below.refl g w).drew (Nat.le_refl _) _ _
  have hread : Hid (∀ j, j < m * 3 → cur'[j]? = ((l.eraseIdx i).flatMap Gr.enc)[j]?) := fun j hj => by
    rw [erase_flat l i, ← HL.out]
    by_cases h : j < i * 3
    · rw [k4 j (.inl h), List.getElem?_append_left (by rw [List.length_take, List.length_take, Array.length_toList, HC.out]; omega), List.getElem?_take_of_lt h, List.getElem?_take_of_lt (by omega)]; simp
    · have h5 := k3 (j - i * 3) (by rw [hcl]; omega)
      rw [show i * 3 + (j - i * 3) = j by omega] at h5
      rw [h5, List.getElem?_append_right (by rw [List.length_take]; omega)]
      congr 1
      rw [List.length_take, List.length_take, Array.length_toList, HC.out]; omega
  have hc2 : cur'.size = cap * 3 := k2.trans HC.out
  have HK := Lib.hid k1
  have HS := Lib.hid hc2
  have s0 : (w.drew.setCells g (i * 3) ((cur.toList.take (n * 3)).drop ((i + 1) * 3))).cell? ⟨g, m * 3, none⟩ = some (cur'[m * 3]'(by omega)) := by rw [cell_of_cells k1]; simp [show m * 3 < cur'.size by omega]
  have s1 : (w.drew.setCells g (i * 3) ((cur.toList.take (n * 3)).drop ((i + 1) * 3))).cell? ⟨g, m * 3 + 1, none⟩ = some (cur'[m * 3 + 1]'(by omega)) := by rw [cell_of_cells k1]; simp [show m * 3 + 1 < cur'.size by omega]
  have s2 : (w.drew.setCells g (i * 3) ((cur.toList.take (n * 3)).drop ((i + 1) * 3))).cell? ⟨g, m * 3 + 2, none⟩ = some (cur'[m * 3 + 2]'(by omega)) := by rw [cell_of_cells k1]; simp [show m * 3 + 2 < cur'.size by omega]
  have f0 := frozen_of_cells k1 (m * 3)
  have f1 := frozen_of_cells k1 (m * 3 + 1)
  have f2 := frozen_of_cells k1 (m * 3 + 2)
  generalize cur'[m * 3]'(by omega) = x0 at s0
  generalize cur'[m * 3 + 1]'(by omega) = x1 at s1
  generalize cur'[m * 3 + 2]'(by omega) = x2 at s2
  generalize (w.drew.setCells g (i * 3) ((cur.toList.take (n * 3)).drop ((i + 1) * 3))) = W1 at *
  have bm : (m : Int) ≤ n := by omega
  have bn : n - m = 1 := by omega
  have hle : Hid ((l.eraseIdx i).length = m) := by rw [Hid, List.length_eraseIdx, HM.out]; split <;> omega
  have hlen' : Hid (((l.eraseIdx i).flatMap Gr.enc).length = m * 3) := by
    rw [Hid, flat_len Gr.enc 3 gr_enc_len, List.length_eraseIdx, HM.out]; split <;> omega
  clear k1 k2 k3 k4 hc2 hcl hap HL HC HM HG
  have hclr := clear_one g (m * 3) (cap - m) W1 (fun j hj => by rcases (by omega : j = 0 ∨ j = 1 ∨ j = 2) with rfl | rfl | rfl <;> simp [s0, s1, s2]) (fun j hj => by rcases (by omega : j = 0 ∨ j = 1 ∨ j = 2) with rfl | rfl | rfl <;> simp [f0, f1, f2])
  have hBf : Below g w (W1.setCells g (m * 3) [.int .u64 0, .int .u64 0, .string ⟨#[]⟩]) := below_setCells hB1 (Nat.le_refl _) _ _
  have hgr : Grs (W1.setCells g (m * 3) [.int .u64 0, .int .u64 0, .string ⟨#[]⟩]).heap.size (W1.setCells g (m * 3) [.int .u64 0, .int .u64 0, .string ⟨#[]⟩]) (.slice (some ⟨g, 0, none⟩) m cap) (l.eraseIdx i) := by
    obtain ⟨c3, q1, q2, q3, q4⟩ := heap_setCells_known (g := g) [.int .u64 0, .int .u64 0, .string ⟨#[]⟩] (m * 3) W1 cur' HK.out (by rw [HS.out]; simp; omega)
    refine .inr ⟨g, 0, cap, by rw [hle.out], (Array.getElem?_eq_some_iff.1 q1).1, fun j hj => ?_⟩
    rw [hlen'.out] at hj
    rw [cell_of_cells q1, Nat.zero_add, q4 j (.inl hj), hread j hj]
  clear hread HK HS s0 s1 s2 f0 f1 f2
  go_wp2_with fail
  all_goals go_ret
  · rw [(by assumption : cap = i + 1)] at hgr
    exact ⟨rfl, hgr, hBf⟩
  · exact ⟨rfl, hgr, hBf⟩
end Go.Proofs.YtohfemdjkdjeeaaDoor

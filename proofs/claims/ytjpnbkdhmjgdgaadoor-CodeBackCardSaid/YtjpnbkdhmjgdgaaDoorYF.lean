/- Package code: the reader's bins. -/
import Derived.Test.YtjpnbkdhmjgdgaaDoorYD
namespace Go.Proofs.YtjpnbkdhmjgdgaaDoor
open Go Go.RowKit Go.Shelf
theorem app_bin {w2 : World} {b k : Nat} {c : Array Value} {t : TypeId} {v : Value} {acc : List (Int × Int)} (hX2 : w2.heap[b]? = some (.cells c t (0, 0))) (hO2 : w2.ownsRow (b + 1) 85 2 v k (acc.flatMap encB)) (x y : Int) (hk : k < 2147483648) :
    ∃ a cap, v = .slice a k cap ∧ ∃ V, w2.alloc (.cells #[.int .i64 x, .int .u64 y] 85) = V ∧ ∃ g cap9 W9, (Builtin.append_ #[29, 29] 29 #[.slice a k cap, .slice (some ⟨w2.heap.size, 0, none⟩) 1 1]).run Tryd.prog V = .ok (.slice (some ⟨g, 0, none⟩) (k + 1) cap9) W9 ∧
      W9.heap[b]? = some (.cells c t (0, 0)) ∧ W9.ownsRow (b + 1) 85 2 (.slice (some ⟨g, 0, none⟩) (k + 1) cap9) (k + 1) ((acc ++ [(x, y)]).flatMap encB) ∧ Below b w2 W9 ∧ w2.heap.size ≤ W9.heap.size := by
  have hblt : b < w2.heap.size := (Array.getElem?_eq_some_iff.1 hX2).1
  obtain ⟨g, cap9, W9, hap, hO9, hB9, hz9, hk9, -⟩ := append_one Tryd.prog 29 und_bin info_bin rfl (by decide) hO2 (Below.refl (b + 1) w2) (Nat.le_refl _) (by omega) [.int .i64 x, .int .u64 y] rfl (by simp [Value.oneCell']) (by omega) (by decide)
  obtain ⟨a, cap, rfl⟩ : ∃ a cap, v = .slice a k cap := by
    rcases hO2.2 with ⟨rfl, rfl⟩ | ⟨g, cap, cur, rfl, _⟩
    · exact ⟨none, 0, rfl⟩
    · exact ⟨_, _, rfl⟩
  exact ⟨a, cap, rfl, _, rfl, g, cap9, W9, hap, (hk9 b (by omega)).trans hX2, by rw [List.flatMap_append]; exact hO9, hB9.mono (by omega), by omega⟩
theorem wrap_toI (y : Int) (h0 : 0 ≤ y) (h1 : y ≤ 18446744073709551615) : IntKind.i64.wrap y = toI y := by
  rw [IntKind.wrap_i64]
  unfold toI
  split <;> omega
attribute [-go_sem] Builtin.append_
set_option maxRecDepth 100000 in
set_option maxHeartbeats 4000000 in
theorem rbins_any (b : Nat) (s : ByteArray) (level : Int) (fm ff cm cc : Addr) (w : World) (hX : w.heap[b]? = some (.cells (rdCells s 3 level nilS 0 ⟨#[]⟩ 0 0 nilS 0 nilS) 70 (0, 0))) (hl : s.size < 4294967281) (hE : ∀ w', Below b w w' → GE fm ff cm cc w') (hbG : 4 ≤ b) (hl0 : 0 ≤ level) (hl1 : level ≤ 3) :
    Calls Tryd.prog 37 #[.pointer (some ⟨b, 0, none⟩)] w (RdPost b cm cc w (biDec level s.data.toList)) := by
  have hblt : b < w.heap.size := (Array.getElem?_eq_some_iff.1 hX).1
  obtain ⟨W7, hW7⟩ : ∃ W7, w.setCell ⟨b, 9, none⟩ (.int .i64 (3 - level)) = W7 := ⟨_, rfl⟩
  have hX7 : W7.heap[b]? = some (.cells (rdCells s 3 level nilS 0 ⟨#[]⟩ 0 0 nilS (3 - level) nilS) 70 (0, 0)) := by rw [← hW7]; exact heap_set hX
  have hB7 : Below b w W7 := by rw [← hW7]; exact (Below.refl b w).setCell (p := ⟨b, 9, none⟩) (Nat.le_refl _) _
  have hz7 : W7.heap.size = w.heap.size := by rw [← hW7]; simp
  have hC := rcount_any b _ _ s 1000 fm ff cm cc W7 hX7 rfl hl (hE W7 hB7) (by omega) (by omega) hbG
  have c2 : w.cell? ⟨b, 2, none⟩ = some (.int .i64 level) := cell_of_cells hX 2
  have c9 : w.cell? ⟨b, 9, none⟩ = some (.int .i64 0) := cell_of_cells hX 9
  have f9 : w.frozen? ⟨b, 9, none⟩ = false := frozen_of_cells hX 9
  unfold biDec
  cases hg : cntG 1000 s.data.toList with
  | more =>
    rw [hg] at hC
    unfold NumPost at hC
    simp only at hC ⊢
    unfold RdPost
    clear hX hE hg hX7
    go_enter Tryd.func37, Tryd.ntmps37
    go_wp2_with (go_at_call 33; refine hC.mono ?_; rintro e w1 ⟨rfl, hb1⟩)
    go_ret
    exact ⟨hB7.trans hb1, rfl⟩
  | bad =>
    rw [hg] at hC
    unfold NumPost at hC
    simp only at hC ⊢
    unfold RdPost
    clear hX hE hg hX7
    go_enter Tryd.func37, Tryd.ntmps37
    go_wp2_with (go_at_call 33; refine hC.mono ?_; rintro e w1 ⟨rfl, hb1⟩)
    go_ret
    exact ⟨hB7.trans hb1, rfl⟩
  | got n r =>
    rw [hg] at hC
    unfold NumPost at hC
    simp only at hC ⊢
    have HX := Lib.hid hX7
    have HE := Lib.hid hE
    obtain ⟨hn0, hn1, hrl⟩ := cntG_got hg
    have hsl : s.data.toList.length = s.size := Array.length_toList
    have HRL : Hid (r.length < 4294967281) := by rw [hsl] at hrl; exact Nat.lt_trans hrl hl
    clear hX hE hg hrl hsl hX7
    go_enter Tryd.func37, Tryd.ntmps37
    go_wp2_with (go_at_call 33; refine hC.mono ?_; rintro e w1 ⟨rfl, hb1⟩)
    have hB1 : Below b w w1 := hB7.trans (((Below.refl b W7).setCell (p := ⟨b, 0, none⟩) (Nat.le_refl _) _).trans (hb1.mono (by omega)))
    have hX1 : w1.heap[b]? = some (.cells (rdCells ⟨r.toArray⟩ 3 level nilS 0 ⟨#[]⟩ 0 0 nilS (3 - level) nilS) 70 (0, 0)) := (hb1.block _ (by omega)).trans (heap_set HX.out)
    have hz1 : w.heap.size ≤ w1.heap.size := by have := hb1.size; simp at this; omega
    have HX1 := Lib.hid hX1
    clear hb1 hX1 hW7 c2 c9 f9
    go_loopw [5, 31] (fun la i wr => ∃ (k : Nat) (last : Int) (acc : List (Int × Int)) (l : List UInt8) (v : Value), i = .int .i64 k ∧ la = .int .u64 last ∧ (k : Int) ≤ n ∧ (0 ≤ last ∧ last ≤ 18446744073709551615) ∧ Hid (acc.length = k) ∧ Hid (wr.heap[b]? = some (.cells (rdCells ⟨l.toArray⟩ 3 level nilS 0 ⟨#[]⟩ 0 0 nilS (3 - level) v) 70 (0, 0))) ∧
      Hid (wr.ownsRow (b + 1) 85 2 v k (acc.flatMap encB)) ∧ Below b w wr ∧ w.heap.size ≤ wr.heap.size ∧ Hid (l.length < 4294967281) ∧ Hid (biG (n.toNat - k) last acc l = biG n.toNat 0 [] r)) (fun _ i _ => n.toNat - (intOf i).toNat)
    case atStart => exact ⟨0, 0, [], r, nilS, rfl, rfl, by omega, by omega, rfl, HX1.out, World.ownsRow_nil _ _ _ _, hB1, hz1, HRL.out, rfl⟩
    case round =>
      obtain ⟨k, last, acc, l, v, rfl, rfl, hkn, ⟨hla0, hla1⟩, HA, HB, HO, hB, hz, HLl, HEq⟩ := hrel
      have hblr : b < wr.heap.size := by omega
      by_cases hlt : (k : Int) < n
      · have hN := rnumber_any b _ _ ⟨l.toArray⟩ fm ff cm cc wr HB.out rfl (by rw [size_list]; exact HLl.out) (HE.out wr hB)
        obtain ⟨m, hm⟩ : ∃ m, n.toNat - k = m + 1 := ⟨n.toNat - k - 1, by omega⟩
        have hEq := HEq.out
        rw [hm] at hEq
        simp only [biG] at hEq
        change Calls _ _ _ _ (NumPost b cm cc .u64 wr (getN l)) at hN
        cases hg : getN l with
        | more =>
          rw [hg] at hN hEq
          unfold NumPost at hN
          simp only at hN hEq
          have HEq2 := Lib.hid hEq
          clear hEq hm HEq hg
          go_wp2_with (go_at_call 32; refine hN.mono ?_; rintro e w2 ⟨rfl, hb2⟩)
          go_ret
          unfold RdPost
          rw [← HEq2.out]
          exact ⟨hB.trans hb2, rfl⟩
        | bad =>
          rw [hg] at hN hEq
          unfold NumPost at hN
          simp only at hN hEq
          have HEq2 := Lib.hid hEq
          clear hEq hm HEq hg
          go_wp2_with (go_at_call 32; refine hN.mono ?_; rintro e w2 ⟨rfl, hb2⟩)
          go_ret
          unfold RdPost
          rw [← HEq2.out]
          exact ⟨hB.trans hb2, rfl⟩
        | got x r1 =>
          rw [hg] at hN hEq
          unfold NumPost at hN
          simp only at hN hEq
          obtain ⟨⟨hx0, hx1⟩, hr1⟩ := getN_got hg
          have hl1 : r1.length < 4294967281 := Nat.lt_trans hr1 HLl.out
          have HN2 : Hid (∀ w2, Below wr.heap.size (wr.setCell ⟨b, 0, none⟩ (.string ⟨r1.toArray⟩)) w2 → w2.heap[b]? = some (.cells (rdCells ⟨r1.toArray⟩ 3 level nilS 0 ⟨#[]⟩ 0 0 nilS (3 - level) v) 70 (0, 0)) ∧ Below b w w2 ∧ wr.heap.size ≤ w2.heap.size ∧ Calls Tryd.prog 32 #[.pointer (some ⟨b, 0, none⟩)] w2 (NumPost b cm cc .u64 w2 (getN r1))) := fun w2 hb => by
            have h1 : w2.heap[b]? = some (.cells (rdCells ⟨r1.toArray⟩ 3 level nilS 0 ⟨#[]⟩ 0 0 nilS (3 - level) v) 70 (0, 0)) := (hb.block _ hblr).trans (heap_set HB.out)
            have h2 : Below b w w2 := hB.trans (((Below.refl b wr).setCell (p := ⟨b, 0, none⟩) (Nat.le_refl _) _).trans (hb.mono (by omega)))
            exact ⟨h1, h2, by simpa using hb.size, rnumber_any b _ _ ⟨r1.toArray⟩ fm ff cm cc w2 h1 rfl (by rw [size_list]; exact hl1) (HE.out w2 h2)⟩
          cases hg2 : getN r1 with
          | more =>
            rw [hg2] at HN2 hEq
            unfold NumPost at HN2
            simp only at HN2 hEq
            have HEq2 := Lib.hid hEq
            clear hEq hm HEq hg hg2 hr1 hl1
            go_wp2_with (first | (go_at_call 32; refine hN.mono ?_; rintro e w2 ⟨rfl, hb2⟩; obtain ⟨-, h2, -, hN2⟩ := HN2.out w2 hb2; clear hN) | (go_at_call 32; refine hN2.mono ?_; rintro e w3 ⟨rfl, hb3⟩))
            go_ret
            unfold RdPost
            rw [← HEq2.out]
            exact ⟨h2.trans hb3, rfl⟩
          | bad =>
            rw [hg2] at HN2 hEq
            unfold NumPost at HN2
            simp only at HN2 hEq
            have HEq2 := Lib.hid hEq
            clear hEq hm HEq hg hg2 hr1 hl1
            go_wp2_with (first | (go_at_call 32; refine hN.mono ?_; rintro e w2 ⟨rfl, hb2⟩; obtain ⟨-, h2, -, hN2⟩ := HN2.out w2 hb2; clear hN) | (go_at_call 32; refine hN2.mono ?_; rintro e w3 ⟨rfl, hb3⟩))
            go_ret
            unfold RdPost
            rw [← HEq2.out]
            exact ⟨h2.trans hb3, rfl⟩
          | got z r2 =>
            rw [hg2] at HN2 hEq
            unfold NumPost at HN2
            simp only at HN2 hEq
            obtain ⟨-, hr2⟩ := getN_got hg2
            have HR2 : Hid (r2.length < 4294967281) := Nat.lt_trans hr2 hl1
            obtain ⟨y, hy⟩ : ∃ y, (last + x) % 18446744073709551616 = y := ⟨_, rfl⟩
            rw [hy] at hEq
            obtain ⟨at_, hat⟩ : ∃ at_, toI y = at_ := ⟨_, rfl⟩
            rw [hat] at hEq
            have HEq2 := Lib.hid hEq
            have HM := Lib.hid hm
            have hyw : IntKind.u64.wrap (last + x) = y := by rw [IntKind.wrap_u64]; exact hy
            have hy0 : 0 ≤ y ∧ y ≤ 18446744073709551615 := by omega
            have haw : IntKind.i64.wrap y = at_ := by rw [← hat]; exact wrap_toI y hy0.1 hy0.2
            have HY0 := Lib.hid hy0
            have HO3 : Hid (∀ w2 w3, Below wr.heap.size (wr.setCell ⟨b, 0, none⟩ (.string ⟨r1.toArray⟩)) w2 → Below w2.heap.size (w2.setCell ⟨b, 0, none⟩ (.string ⟨r2.toArray⟩)) w3 → w3.heap[b]? = some (.cells (rdCells ⟨r2.toArray⟩ 3 level nilS 0 ⟨#[]⟩ 0 0 nilS (3 - level) v) 70 (0, 0)) ∧ w3.ownsRow (b + 1) 85 2 v k (acc.flatMap encB) ∧ Below b w w3 ∧ wr.heap.size ≤ w3.heap.size) := fun w2 w3 h2 h3 => by
              obtain ⟨g1, g2, g3, -⟩ := HN2.out w2 h2
              refine ⟨(h3.block _ (by omega)).trans (heap_set g1), ?_, g2.trans (((Below.refl b w2).setCell (p := ⟨b, 0, none⟩) (Nat.le_refl _) _).trans (h3.mono (by omega))), by have := h3.size; simp at this; omega⟩
              refine owns_of_blocks (owns_of_blocks HO.out (fun j j1 j2 => (h2.block j j2).trans (Below.heap_setCell _ _ _ _ (by show j ≠ b; omega)))) (fun j j1 j2 => (h3.block j j2).trans (Below.heap_setCell _ _ _ _ (by show j ≠ b; omega)))
            clear hEq hm HEq hg hg2 hr1 hr2 hl1 hy hat hy0 hx0 hx1
            go_wp2_with (first | (go_at_call 32; refine hN.mono ?_; rintro e w2 ⟨rfl, hb2⟩; obtain ⟨-, h2, -, hN2⟩ := HN2.out w2 hb2; clear hN) | (go_at_call 32; refine hN2.mono ?_; rintro e w3 ⟨rfl, hb3⟩; obtain ⟨hX3, hO3, hB3, hz3⟩ := HO3.out w2 w3 hb2 hb3; obtain ⟨a, cap, rfl, V, hV, g9, cap9, W9, hap, hX9, hO9, hB9, hz9⟩ := app_bin hX3 hO3 at_ z (by omega); have c3 : w3.cell? ⟨b, 10, none⟩ = some (.slice a k cap) := cell_of_cells hX3 10; have f9 : W9.frozen? ⟨b, 10, none⟩ = false := frozen_of_cells hX9 10; have c9 : W9.cell? ⟨b, 10, none⟩ = some (.slice a k cap) := cell_of_cells hX9 10))
            go_roundw
            case rel =>
              refine ⟨k + 1, y, acc ++ [(at_, z)], r2, _, by go_num, rfl, by omega, HY0.out, by rw [Hid, List.length_append, HA.out]; rfl, heap_set hX9, owns_set hO9 (Nat.lt_succ_self _), (hB3.trans hB9).setCell (p := ⟨b, 10, none⟩) (Nat.le_refl _) _, by simp; omega, HR2.out, ?_⟩
              rw [Hid, show n.toNat - (k + 1) = m by have := HM.out; omega]; exact HEq2.out
            case measure => simp [intOf]; omega
      · have hkn2 : n = k := by omega
        have hEq := HEq.out
        rw [hkn2, Int.toNat_natCast, Nat.sub_self] at hEq
        simp only [biG] at hEq
        have HEq2 := Lib.hid hEq
        have hO := HO.out
        rw [← HA.out] at hO
        obtain ⟨a, cap, hv, hS, -⟩ := slC_of_owns (enc := encB) (fun _ => rfl) hO
        have HS := Lib.hid hS
        have HV := Lib.hid hv
        clear hEq HEq hO hS hv
        go_wp2_with fail
        go_ret
        unfold RdPost
        rw [← HEq2.out]
        have h1 := HB.out
        rw [HV.out] at h1
        exact ⟨hB, rfl, ⟨none, 0, 0, none, 0, 0, a, acc.length, cap⟩, h1, SlC.nil, SlC.nil, HS.out⟩
end Go.Proofs.YtjpnbkdhmjgdgaaDoor

/- Package code: the reader's counters. -/
import Derived.Test.YtjpnbkdhmjgdgaaDoorYD
namespace Go.Proofs.YtjpnbkdhmjgdgaaDoor
open Go Go.RowKit Go.Shelf
attribute [-go_sem] Builtin.append_
set_option maxRecDepth 100000 in
set_option maxHeartbeats 4000000 in
theorem rcounters_any (b : Nat) (s : ByteArray) (level : Int) (fm ff cm cc : Addr) (w : World) (hX : w.heap[b]? = some (.cells (rdCells s 2 level nilS 0 ⟨#[]⟩ 0 0 nilS 0 nilS) 70 (0, 0))) (hl : s.size < 4294967281) (hE : ∀ w', Below b w w' → GE fm ff cm cc w') (hl0 : 0 ≤ level) (hl1 : level ≤ 3) :
    Calls Tryd.prog 36 #[.pointer (some ⟨b, 0, none⟩)] w (RdPost b cm cc w (cnDec level s.data.toList)) := by
  have hblt : b < w.heap.size := (Array.getElem?_eq_some_iff.1 hX).1
  unfold cnDec
  obtain ⟨q, hq⟩ : ∃ q : Nat, 32 / 2 ^ level.toNat = q := ⟨_, rfl⟩
  have hqi : (32 : Int) / 2 ^ level.toNat = (q : Int) := by rw [← hq]; norm_cast
  have hq32 : q ≤ 32 := by rw [← hq]; exact Nat.div_le_self _ _
  rw [hqi, hq]
  have c0 : w.cell? ⟨b, 0, none⟩ = some (.string s) := cell_of_cells hX 0
  have c1 : w.cell? ⟨b, 1, none⟩ = some (.int .i64 2) := cell_of_cells hX 1
  have c2 : w.cell? ⟨b, 2, none⟩ = some (.int .i64 level) := cell_of_cells hX 2
  have c3 : w.cell? ⟨b, 3, none⟩ = some (nilS) := cell_of_cells hX 3
  have c4 : w.cell? ⟨b, 4, none⟩ = some (.int .i64 0) := cell_of_cells hX 4
  have c5 : w.cell? ⟨b, 5, none⟩ = some (.string ⟨#[]⟩) := cell_of_cells hX 5
  have c6 : w.cell? ⟨b, 6, none⟩ = some (.int .i64 0) := cell_of_cells hX 6
  have c7 : w.cell? ⟨b, 7, none⟩ = some (.int .i64 0) := cell_of_cells hX 7
  have c8 : w.cell? ⟨b, 8, none⟩ = some (nilS) := cell_of_cells hX 8
  have f0 : w.frozen? ⟨b, 0, none⟩ = false := frozen_of_cells hX 0
  have f1 : w.frozen? ⟨b, 1, none⟩ = false := frozen_of_cells hX 1
  have f2 : w.frozen? ⟨b, 2, none⟩ = false := frozen_of_cells hX 2
  have f3 : w.frozen? ⟨b, 3, none⟩ = false := frozen_of_cells hX 3
  have f4 : w.frozen? ⟨b, 4, none⟩ = false := frozen_of_cells hX 4
  have f5 : w.frozen? ⟨b, 5, none⟩ = false := frozen_of_cells hX 5
  have f6 : w.frozen? ⟨b, 6, none⟩ = false := frozen_of_cells hX 6
  have f7 : w.frozen? ⟨b, 7, none⟩ = false := frozen_of_cells hX 7
  have f8 : w.frozen? ⟨b, 8, none⟩ = false := frozen_of_cells hX 8
  have f9 : w.frozen? ⟨b, 9, none⟩ = false := frozen_of_cells hX 9
  have f10 : w.frozen? ⟨b, 10, none⟩ = false := frozen_of_cells hX 10
  have HX := Lib.hid hX
  have HE := Lib.hid hE
  have HL := Lib.hid hl
  obtain ⟨W7, hW7⟩ : ∃ W7, (w.setCell ⟨b, 6, none⟩ (.int .i64 2)).setCell ⟨b, 7, none⟩ (.int .i64 q) = W7 := ⟨_, rfl⟩
  have hX7 : W7.heap[b]? = some (.cells (rdCells s 2 level nilS 0 ⟨#[]⟩ 2 q nilS 0 nilS) 70 (0, 0)) := by rw [← hW7]; exact heap_set (heap_set hX)
  have hB7 : Below b w W7 := by rw [← hW7]; exact ((Below.refl b w).setCell (p := ⟨b, 6, none⟩) (Nat.le_refl _) _).setCell (p := ⟨b, 7, none⟩) (Nat.le_refl _) _
  have hz7 : W7.heap.size = w.heap.size := by rw [← hW7]; simp
  have d6 : W7.cell? ⟨b, 6, none⟩ = some (.int .i64 2) := cell_of_cells hX7 6
  have d7 : W7.cell? ⟨b, 7, none⟩ = some (.int .i64 q) := cell_of_cells hX7 7
  clear hX hE hl c0 c1 c3 c4 c5 c8 hq
  go_enter Tryd.func36, Tryd.ntmps36
  go_wp2_with fail
  go_quiet (fail)
  go_wp2_with fail
  have HX7 := Lib.hid hX7
  clear hX7 hW7 d6 d7 c2 c6 c7 f0 f1 f2 f3 f4 f5 f6 f7 f8 f9 f10
  go_loopw [34] (fun i wr => ∃ (k : Nat) (acc : List Int) (l : List UInt8) (v : Value), i = .int .i64 k ∧ k ≤ 2 * q ∧ Hid (acc.length = k) ∧ Hid (wr.heap[b]? = some (.cells (rdCells ⟨l.toArray⟩ 2 level nilS 0 ⟨#[]⟩ 2 q v 0 nilS) 70 (0, 0))) ∧
      Hid (wr.ownsRow (b + 1) 46 1 v k (acc.flatMap encU)) ∧ Below b w wr ∧ w.heap.size ≤ wr.heap.size ∧ Hid (l.length < 4294967281) ∧ Hid (cnG (2 * q - k) acc l = cnG (2 * q) [] s.data.toList)) (fun i _ => 2 * q - (intOf i).toNat)
  case atStart => exact ⟨0, [], s.data.toList, nilS, rfl, by omega, rfl, HX7.out, World.ownsRow_nil _ _ _ _, below_drewN hB7 nq, by show _ ≤ W7.heap.size; omega, by rw [Hid, Array.length_toList]; exact HL.out, rfl⟩
  case round =>
    obtain ⟨k, acc, l, v, rfl, hkn, HA, HB, HO, hB, hz, HLl, HEq⟩ := hrel
    have hblr : b < wr.heap.size := by omega
    by_cases hlt : k < 2 * q
    · have hN := rnumber_any b _ _ ⟨l.toArray⟩ fm ff cm cc wr HB.out rfl (by rw [size_list]; exact HLl.out) (HE.out wr hB)
      obtain ⟨m, hm⟩ : ∃ m, 2 * q - k = m + 1 := ⟨2 * q - k - 1, by omega⟩
      have hEq := HEq.out
      rw [hm] at hEq
      simp only [cnG] at hEq
      change Calls _ _ _ _ (NumPost b cm cc .u64 wr (getN l)) at hN
      cases hg : getN l with
      | more =>
        rw [hg] at hN hEq
        unfold NumPost at hN
        simp only at hN hEq
        have HEq2 := Lib.hid hEq
        clear hEq hm HEq hg
        go_wp2_with (go_at_call 32; refine hN.mono ?_; rintro e w2 ⟨rfl, hb2⟩)
        go_ret
        unfold RdPost
        rw [← HEq2.out]
        exact ⟨hB.trans hb2, rfl⟩
      | bad =>
        rw [hg] at hN hEq
        unfold NumPost at hN
        simp only at hN hEq
        have HEq2 := Lib.hid hEq
        clear hEq hm HEq hg
        go_wp2_with (go_at_call 32; refine hN.mono ?_; rintro e w2 ⟨rfl, hb2⟩)
        go_ret
        unfold RdPost
        rw [← HEq2.out]
        exact ⟨hB.trans hb2, rfl⟩
      | got y r2 =>
        rw [hg] at hN hEq
        unfold NumPost at hN
        simp only at hN hEq
        obtain ⟨⟨hx0, hx1⟩, hr2⟩ := getN_got hg
        have HR2 : Hid (r2.length < 4294967281) := Nat.lt_trans hr2 HLl.out
        have HEq2 := Lib.hid hEq
        have HM := Lib.hid hm
        clear hEq hm HEq hg hr2 hx0 hx1
        go_wp2_with (go_at_call 32; refine hN.mono ?_; rintro e w2 ⟨rfl, hb2⟩; obtain ⟨a, cap, rfl, hX2, V, hV, g9, cap9, W9, hap, hX9, hO9, hB9, hz9⟩ := app_u64 HB.out HO.out hb2 y (by omega); have c3 : w2.cell? ⟨b, 8, none⟩ = some (.slice a k cap) := cell_of_cells hX2 8; have f9 : W9.frozen? ⟨b, 8, none⟩ = false := frozen_of_cells hX9 8; have c9 : W9.cell? ⟨b, 8, none⟩ = some (.slice a k cap) := cell_of_cells hX9 8)
        go_roundw
        case rel =>
          refine ⟨k + 1, acc ++ [y], r2, _, by go_num, by omega, by rw [Hid, List.length_append, HA.out]; rfl, heap_set hX9, owns_set hO9 (Nat.lt_succ_self _), (hB.trans hB9).setCell (p := ⟨b, 8, none⟩) (Nat.le_refl _) _, by simp; omega, HR2.out, ?_⟩
          rw [Hid, show 2 * q - (k + 1) = m by have := HM.out; omega]; exact HEq2.out
        case measure => simp [intOf]; omega
    · have hkn2 : k = 2 * q := by omega
      have hEq := HEq.out
      rw [hkn2, Nat.sub_self] at hEq
      simp only [cnG] at hEq
      have HEq2 := Lib.hid hEq
      have hO := HO.out
      rw [← HA.out] at hO
      obtain ⟨a, cap, hv, hS, -⟩ := slC_of_owns (enc := encU) (fun _ => rfl) hO
      have HS := Lib.hid hS
      have HV := Lib.hid hv
      clear hEq HEq hO hS hv
      go_wp2_with fail
      go_ret
      unfold RdPost
      rw [← HEq2.out]
      have h1 := HB.out
      rw [HV.out] at h1
      exact ⟨hB, rfl, ⟨none, 0, 0, a, acc.length, cap, none, 0, 0⟩, h1, SlC.nil, HS.out, SlC.nil⟩
end Go.Proofs.YtjpnbkdhmjgdgaaDoor

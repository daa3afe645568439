/- Package code: the reader's distinct, sketch; Decode. -/
import Derived.Test.YtjpnbkdhmjgdgaaDoorYE
import Derived.Test.YtjpnbkdhmjgdgaaDoorYF
namespace Go.Proofs.YtjpnbkdhmjgdgaaDoor
open Go Go.RowKit Go.Shelf

theorem extract_take (s : ByteArray) (q : Nat) : s.extract 0 q = ⟨(s.data.toList.take q).toArray⟩ := by
  have h2 : (s.extract 0 q).data.toList = s.data.toList.take q := by
    rw [ByteArray.data_extract, Array.toList_extract, List.extract_eq_take_drop, List.drop_zero, Nat.sub_zero]
  rw [← h2, Array.toArray_toList]
theorem extract_from (s : ByteArray) (q : Nat) : s.extract q s.size = ⟨(s.data.toList.drop q).toArray⟩ := by
  have h2 : (s.extract q s.size).data.toList = s.data.toList.drop q := by
    rw [ByteArray.data_extract, Array.toList_extract, List.extract_eq_take_drop, List.take_of_length_le (by rw [List.length_drop, Array.length_toList]; exact Nat.le_refl _)]
  rw [← h2, Array.toArray_toList]
theorem RdPost.ret {b : Nat} {cm cc : Addr} {w : World} {d : DecR} {e : Ending} {w' : World} (h : RdPost b cm cc w d e w') : ∃ v, e = .returned v := by
  unfold RdPost at h
  obtain ⟨-, h⟩ := h
  revert h
  cases d with
  | got x r => exact fun h => ⟨_, h.1⟩
  | more => exact fun h => ⟨_, h⟩
  | code => exact fun h => ⟨_, h⟩
theorem RdPost.from {b : Nat} {cm cc : Addr} {w w1 : World} {d : DecR} {e : Ending} {w' : World} (h : RdPost b cm cc w1 d e w') (hb : Below b w w1) : RdPost b cm cc w d e w' := ⟨hb.trans h.1, h.2⟩

set_option maxRecDepth 100000 in
set_option maxHeartbeats 4000000 in
theorem rdistinct_any (b : Nat) (s : ByteArray) (level : Int) (fm ff cm cc : Addr) (w : World) (hX : w.heap[b]? = some (.cells (rdCells s 1 level nilS 0 ⟨#[]⟩ 0 0 nilS 0 nilS) 70 (0, 0))) (hl : s.size < 4294967281) (hE : ∀ w', Below b w w' → GE fm ff cm cc w') (hbG : 4 ≤ b) (hl0 : 0 ≤ level) (hl1 : level ≤ 4) :
    Calls Tryd.prog 35 #[.pointer (some ⟨b, 0, none⟩)] w (RdPost b cm cc w (if level = 0 then exDec level s.data.toList else hlDec level s.data.toList)) := by
  by_cases h0 : level = 0
  · rw [if_pos h0]
    have hR := rexact_any b s level fm ff cm cc w hX hl hE hbG
    have c2 : w.cell? ⟨b, 2, none⟩ = some (.int .i64 level) := cell_of_cells hX 2
    rw [h0] at c2
    have hR2 := hR.mono (fun e w' h => And.intro h.ret h)
    clear hX hE hR
    go_enter Tryd.func35, Tryd.ntmps35
    go_wp2_with (go_at_call 46; refine hR2.mono ?_; rintro e w1 ⟨⟨v, rfl⟩, hp⟩)
    go_ret
    exact hp
  · rw [if_neg h0]
    have hlv : (level == 0) = false := by simp [h0]
    obtain ⟨q, hq⟩ : ∃ q : Nat, 2 ^ (8 - level).toNat = q := ⟨_, rfl⟩
    have hqi : (2 : Int) ^ (8 - level).toNat = (q : Int) := by rw [← hq]; norm_cast
    have hq256 : q ≤ 256 := by rw [← hq]; exact Nat.pow_le_pow_right (n := 2) (j := 8) (by omega) (by omega)
    have hw : IntKind.i64.wrap (2 ^ (8 - level).toNat) = (q : Int) := by rw [hqi]; exact IntWalk.i64_in _ (by omega)
    have hlen : s.data.toList.length = s.size := Array.length_toList
    unfold hlDec
    rw [hqi, hq, hlen]
    have c0 : w.cell? ⟨b, 0, none⟩ = some (.string s) := cell_of_cells hX 0
    have c1 : w.cell? ⟨b, 1, none⟩ = some (.int .i64 1) := cell_of_cells hX 1
    have c2 : w.cell? ⟨b, 2, none⟩ = some (.int .i64 level) := cell_of_cells hX 2
    have c3 : w.cell? ⟨b, 3, none⟩ = some (nilS) := cell_of_cells hX 3
    have c4 : w.cell? ⟨b, 4, none⟩ = some (.int .i64 0) := cell_of_cells hX 4
    have c5 : w.cell? ⟨b, 5, none⟩ = some (.string ⟨#[]⟩) := cell_of_cells hX 5
    have f0 : w.frozen? ⟨b, 0, none⟩ = false := frozen_of_cells hX 0
    have f1 : w.frozen? ⟨b, 1, none⟩ = false := frozen_of_cells hX 1
    have f2 : w.frozen? ⟨b, 2, none⟩ = false := frozen_of_cells hX 2
    have f3 : w.frozen? ⟨b, 3, none⟩ = false := frozen_of_cells hX 3
    have f4 : w.frozen? ⟨b, 4, none⟩ = false := frozen_of_cells hX 4
    have f5 : w.frozen? ⟨b, 5, none⟩ = false := frozen_of_cells hX 5
    have g0 := (hE w (Below.refl _ _)).ecm
    have HX := Lib.hid hX
    have HT := Lib.hid (extract_take s q)
    have HF := Lib.hid (extract_from s q)
    clear hX hE hq hlen hqi
    by_cases hsz : (s.size : Int) < q
    · rw [if_pos hsz]
      go_enter Tryd.func35, Tryd.ntmps35
      go_wp2_with fail
      go_ret
      unfold RdPost
      exact ⟨Below.refl _ _, rfl⟩
    · rw [if_neg hsz]
      go_enter Tryd.func35, Tryd.ntmps35
      go_wp2_with fail
      go_ret
      unfold RdPost
      refine ⟨(((Below.refl b w).setCell (p := ⟨b, 4, none⟩) (Nat.le_refl _) _).setCell (p := ⟨b, 5, none⟩) (Nat.le_refl _) _).setCell (p := ⟨b, 0, none⟩) (Nat.le_refl _) _, rfl, ⟨none, 0, 0, none, 0, 0, none, 0, 0⟩, ?_, SlC.nil, SlC.nil, SlC.nil⟩
      rw [HT.out, HF.out]
      exact heap_set (heap_set (heap_set HX.out))
end Go.Proofs.YtjpnbkdhmjgdgaaDoor

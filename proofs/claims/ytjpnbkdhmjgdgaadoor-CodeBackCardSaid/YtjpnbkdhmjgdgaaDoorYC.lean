/- How many bytes a sketch has: a plain law. -/
import Derived.Test.YtjpnbkdhmjgdgaaDoorY5
namespace Go.Proofs.YtjpnbkdhmjgdgaaDoor
open Go Go.RowKit

theorem putNums_short (n : Int) : (n ≤ 240 → (putNums n).length = 1) ∧ (n ≤ 2287 → (putNums n).length ≤ 2) := by
  unfold putNums
  constructor
  · intro h
    rw [if_pos h]
    rfl
  · intro h
    split
    · simp
    · simp
theorem numsB_cons_len (n : Int) (l : List Int) : (numsB (n :: l)).length = (putNums n).length + (numsB l).length := by
  rw [show numsB (n :: l) = (putNums n).map (fun k => UInt8.ofNat k.toNat) ++ numsB l from rfl, List.length_append, List.length_map]
set_option maxRecDepth 100000 in
theorem enc_sizes (x : Sk) (hok : skOk x = true) (hg : x.gl.length ≤ 1000) : 3 ≤ (encBytes x).length ∧ 2 * ((encBytes x).length : Int) ≤ 3 * costOf x := by
  obtain ⟨⟨k1, k2⟩, ⟨v1, v2⟩, hb, hs⟩ := ok_parts hok
  have hlv := ok_level hok
  have p1 := (putNums_short x.kind).1 (by omega)
  have p2 := (putNums_short x.level).1 (by omega)
  have e0 : (numsB [x.kind, x.level]).length = 2 := by rw [numsB_cons_len, numsB_cons_len, p1, p2]; rfl
  unfold costOf encBytes
  rw [hok, if_pos rfl, List.length_append, e0]
  by_cases c1 : x.kind = 1
  · simp only [show (x.kind == 1) = true by simp [c1], if_true]
    by_cases c2 : x.level = 0
    · simp only [show (x.level == 0) = true by simp [c2], if_true]
      have hb' := hb
      simp only [bodyRight, c1, c2] at hb'
      simp [exRight] at hb'
      rw [numsB_cons_len, (putNums_short _).1 (by omega)]
      have h9 := numsB_len (diffs 0 x.e)
      rw [diffs_len] at h9
      omega
    · simp only [show (x.level == 0) = false by simp [c2], Bool.false_eq_true, if_false]
      have hb' := hb
      simp only [bodyRight, show (x.kind == 1) = true by simp [c1], show (x.level == 0) = false by simp [c2], Bool.false_eq_true, if_true, if_false, Bool.and_eq_true, hlRight, beq_iff_eq] at hb'
      obtain ⟨⟨⟨-, hz⟩, -⟩, h8⟩ := hb'
      rw [h8] at hz
      have h2 : x.hr.data.toList.length = x.hr.size := Array.length_toList
      have h3 : (0 : Int) < 2 ^ (8 - x.level).toNat := Int.pow_pos (by omega)
      rw [h2]
      omega
  · simp only [show (x.kind == 1) = false by simp [c1], Bool.false_eq_true, if_false]
    by_cases c2 : x.kind = 2
    · simp only [show (x.kind == 2) = true by simp [c2], if_true]
      have hb' := hb
      simp only [bodyRight, show (x.kind == 1) = false by simp [c1], show (x.kind == 2) = true by simp [c2], Bool.false_eq_true, if_true, if_false, Bool.and_eq_true, cmRight, beq_iff_eq, isShapeB, decide_eq_true_eq] at hb'
      obtain ⟨⟨⟨⟨⟨⟨⟨s1, s2⟩, s3⟩, s4⟩, s5⟩, hz⟩, h8⟩, h9⟩ := hb'
      rw [h8] at hz
      have h7 := numsB_len x.cl
      omega
    · simp only [show (x.kind == 2) = false by simp [c2], Bool.false_eq_true, if_false]
      rw [numsB_cons_len]
      have p3 := (putNums_short (x.gl.length : Int)).2 (by omega)
      have p4 := putNums_len (x.gl.length : Int)
      have h9 := numsB_len (diffsB 0 x.gl)
      rw [diffsB_len] at h9
      omega
end Go.Proofs.YtjpnbkdhmjgdgaaDoor

/- aviarylaw11: shown, cut. -/
import Derived.Test.YtjpnbkdhmjgdgaaDoorYI
import Derived.Test.YtjpnbkdhmjgdgaaDoorF7
import Derived.Lib.MinMax
namespace Go.Proofs.YtjpnbkdhmjgdgaaDoor
open Go Go.RowKit Go.Shelf

abbrev noSS : SS := ⟨none, 0, 0, none, 0, 0, none, 0, 0⟩
theorem Decode_code (s : ByteArray) (fm ff cm cc : Addr) (w : World) (hl : s.size < 4294967281) (hE : GE fm ff cm cc w) (hd : decB s.data.toList = .code) :
    Calls Tryd.prog 9 #[.string s] w fun e w' => e = .returned (.tuple #[skVal (skNum 0 0 []) noSS, .string s, .int .i64 110]) ∧ Below w.heap.size w w' :=
  (Decode_any s fm ff cm cc w hl hE).mono fun e w' h => by rw [hd] at h; exact ⟨h.2, h.1⟩
theorem Decode_more (s : ByteArray) (fm ff cm cc : Addr) (w : World) (hl : s.size < 4294967281) (hE : GE fm ff cm cc w) (hd : decB s.data.toList = .more) :
    Calls Tryd.prog 9 #[.string s] w fun e w' => e = .returned (.tuple #[skVal (skNum 0 0 []) noSS, .string s, .int .i64 20]) ∧ Below w.heap.size w w' :=
  (Decode_any s fm ff cm cc w hl hE).mono fun e w' h => by rw [hd] at h; exact ⟨h.2, h.1⟩
theorem Decode_got (s : ByteArray) (x : Sk) (r : List UInt8) (fm ff cm cc : Addr) (w : World) (hl : s.size < 4294967281) (hE : GE fm ff cm cc w) (hd : decB s.data.toList = .got x r) :
    Calls Tryd.prog 9 #[.string s] w fun e w' => ∃ p : SS, e = .returned (.tuple #[skVal x p, .string ⟨r.toArray⟩, .int .i64 0]) ∧ p.At w'.heap.size w' x ∧ Below w.heap.size w w' :=
  (Decode_any s fm ff cm cc w hl hE).mono fun e w' h => by rw [hd] at h; obtain ⟨h1, p, h2, h3⟩ := h; exact ⟨p, h2, h3, h1⟩
theorem store10_oth {W : World} {B : Nat} (x : Sk) (p : SS) : ∀ j, j ≠ B → (store10 W B x p).heap[j]? = W.heap[j]? := fun j hj => by
  have h := store10_other (W := W) x p j hj
  rw [drew_heap] at h
  exact h
theorem store10_siz (W : World) (B : Nat) (x : Sk) (p : SS) : (store10 W B x p).heap.size = W.heap.size := by
  have h := store10_size W B x p
  rw [drew_heap] at h
  exact h
def skShown : Sk := skNum 1 0 [3, 300]
theorem shown_enc : encS skShown = ⟨#[1, 0, 2, 3, 241, 57]⟩ := by kernel_rfl
theorem shown_ok : encE skShown = 0 := by kernel_rfl
theorem shown_code : decB [4] = .code := by kernel_rfl
theorem shown_more : decB [1, 0, 2] = .more := by kernel_rfl
set_option maxRecDepth 100000 in
set_option maxHeartbeats 4000000 in
theorem shown11_any (fm ff cm cc : Addr) (w : World) (hE : GE fm ff cm cc w) :
    Calls Tryd.prog 6 #[] w fun e w' => e = .returned (.bool true) ∧ Below w.heap.size w w' := by
  have HD1 : Hid (∀ w1, Below w.heap.size w w1 → Calls Tryd.prog 9 #[.string ⟨#[4]⟩] w1 fun e w' => e = .returned (.tuple #[.agg #[.int .i64 0, .int .i64 0, .slice none 0 0, .int .i64 0, .string ⟨#[]⟩, .int .i64 0, .int .i64 0, .slice none 0 0, .int .i64 0, .slice none 0 0], .string ⟨#[4]⟩, .int .i64 110]) ∧ Below w1.heap.size w1 w') := fun w1 hb => Decode_code ⟨#[4]⟩ fm ff cm cc w1 (by decide) (hE.below hb) shown_code
  have HD2 : Hid (∀ w1, Below w.heap.size w w1 → Calls Tryd.prog 9 #[.string ⟨#[1, 0, 2]⟩] w1 fun e w' => e = .returned (.tuple #[.agg #[.int .i64 0, .int .i64 0, .slice none 0 0, .int .i64 0, .string ⟨#[]⟩, .int .i64 0, .int .i64 0, .slice none 0 0, .int .i64 0, .slice none 0 0], .string ⟨#[1, 0, 2]⟩, .int .i64 20]) ∧ Below w1.heap.size w1 w') := fun w1 hb => Decode_more ⟨#[1, 0, 2]⟩ fm ff cm cc w1 (by decide) (hE.below hb) shown_more
  obtain ⟨W0, hW0, hX0, hX1, hB0, hs0⟩ := boxes2 w #[.int .u64 3, .int .u64 300] 46 #[.int .i64 1, .int .i64 0, .slice (some ⟨w.heap.size, 0, none⟩) 2 2, .int .i64 0, .string ⟨#[]⟩, .int .i64 0, .int .i64 0, .slice none 0 0, .int .i64 0, .slice none 0 0] 33
  have hS : SlC encU 1 W0.heap.size W0 (some ⟨w.heap.size, 0, none⟩) 2 2 [3, 300] := by
    refine ⟨⟨rfl, fun j z hz => ⟨w.heap.size, 0, rfl, by omega, fun i hi => ?_⟩⟩, by omega, by unfold maxLen; omega, (fun h => by cases h), fun x hx _ => by cases hx; exact ⟨rfl, by show w.heap.size < _; omega⟩⟩
    obtain rfl : i = 0 := by omega
    have hj := (List.getElem?_eq_some_iff.1 hz).1
    simp only [List.length_cons, List.length_nil] at hj
    rw [cell_of_cells hX0]
    rcases (show j = 0 ∨ j = 1 by omega) with rfl | rfl
    · obtain rfl : 3 = z := by simpa using hz
      rfl
    · obtain rfl : 300 = z := by simpa using hz
      rfl
  have HW0 := Lib.hid hW0
  have hEn := Encode_any skShown ⟨some ⟨w.heap.size, 0, none⟩, 2, 2, none, 0, 0, none, 0, 0⟩ W0 ⟨hS, SlC.nil, SlC.nil⟩ ⟨by show 2 < _; omega, by show 0 < _; omega, by show 0 < _; omega⟩ (fun b hb => by cases hb) ⟨(fun n hn => by simp only [skShown, skNum, List.mem_cons, List.not_mem_nil, or_false] at hn; rcases hn with rfl | rfl <;> exact ⟨by decide, by decide⟩), (fun n hn => by cases hn), (fun n hn => by cases hn)⟩ ⟨by decide, by decide, by decide, by decide⟩
  rw [shown_enc, shown_ok] at hEn
  have hEn2 : Calls Tryd.prog 8 #[.agg #[.int .i64 1, .int .i64 0, .slice (some ⟨w.heap.size, 0, none⟩) 2 2, .int .i64 0, .string ⟨#[]⟩, .int .i64 0, .int .i64 0, .slice none 0 0, .int .i64 0, .slice none 0 0]] W0 fun e w' => e = .returned (.tuple #[.string ⟨#[1, 0, 2, 3, 241, 57]⟩, .int .i64 0]) ∧ Below W0.heap.size W0 w' := hEn
  clear hE hX0 hX1 hS hs0 hEn hW0
  go_enter Tryd.func6, Tryd.ntmps6
  go_wp2_with fail
  rw [HW0.out]
  refine hEn2.mono ?_
  rintro e w1 ⟨rfl, hb1⟩
  have hB1 := hB0.trans (hb1.mono hB0.size)
  go_wp2_with fail
  refine (HD1.out w1 hB1).mono ?_
  rintro e w2 ⟨rfl, hb2⟩
  have hB2 := hB1.trans (hb2.mono hB1.size)
  go_wp2_with fail
  refine (HD2.out _ (hB2.alloc hB2.size _)).mono ?_
  rintro e w3 ⟨rfl, hb3⟩
  have hB3 := (hB2.alloc hB2.size _).trans (hb3.mono (hB2.alloc hB2.size _).size)
  go_wp2_with fail
  go_ret
  exact ⟨rfl, hB3.alloc hB3.size _⟩
end Go.Proofs.YtjpnbkdhmjgdgaaDoor

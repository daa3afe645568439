/- Package label over slices by their elements: Right, Text. -/
import Derived.Test.YthnfhklfmaeccaaGreatDoorL6
namespace Go.Proofs.YthnfhklfmaeccaaGreatDoor
open Go Go.RowKit Go.Shelf

def LabsOk (l : List Lab) : Prop := ∀ x ∈ l, x.ok
theorem labK_of (l : List Lab) (h : LabsOk l) : ∃ ls : List LabK, ls.map (·.1) = l := by
  induction l with
  | nil => exact ⟨[], rfl⟩
  | cons x xs ih =>
    obtain ⟨ls, hls⟩ := ih (fun y hy => h y (List.mem_cons_of_mem _ hy))
    exact ⟨⟨x, h x (List.mem_cons_self ..)⟩ :: ls, by rw [List.map_cons, hls]⟩
theorem labEnc_len (x : Lab) : x.enc.length = 2 := rfl
def textS (l : List Lab) : ByteArray := if labRight l then labText l else ⟨#[]⟩
def textE (l : List Lab) : Int := if labRight l then 0 else 40

theorem label_Right_nil (a0 : Option Addr) (cap : Nat) (w : World) :
    Calls Tryz.prog 24 #[.slice a0 0 cap] w fun e w' => e = .returned (.bool false) ∧ w' = w := by
  refine calls_marks Tryz.func24 rfl ?_
  simp only [Tryz.ntmps24, List.size_toArray, List.length_cons, List.length_nil, Nat.reduceAdd, Nat.reduceSub, Array.replicate_succ, Array.replicate_zero, List.push_toArray, List.append_toArray, List.nil_append, List.cons_append]
  go_wp2_with fail
  go_step3
  go_wp2_with fail
  exact marks_ret0 (results_tmp rfl _ _ _) rfl ⟨rfl, rfl⟩
theorem label_Right_E (a : Option Addr) (len cap : Nat) (l : List Lab) (w : World) (h : SlE Lab.enc 2 w.heap.size w a len l) (ho : LabsOk l) (hG : GW w) (hm : len < 4294967281) :
    Calls Tryz.prog 24 #[.slice a len cap] w fun e w' => e = .returned (.bool (labRight l)) ∧ Below w.heap.size w w' := by
  rcases Nat.eq_zero_or_pos len with h0 | h0
  · subst h0
    obtain rfl : l = [] := List.eq_nil_of_length_eq_zero h.1.symm
    refine (label_Right_nil a cap w).mono ?_
    rintro e w' ⟨rfl, rfl⟩
    exact ⟨rfl, Below.refl _ _⟩
  · have hat := h.to_at (cap := cap) labEnc_len h0
    obtain ⟨ls, rfl⟩ := labK_of l ho
    have hl := h.1
    rw [List.length_map] at hl
    subst hl
    exact label_Right_any a cap ls w hat hG hm
set_option maxHeartbeats 1000000 in
theorem label_Text_nil (a0 : Option Addr) (cap : Nat) (w : World) :
    Calls Tryz.prog 18 #[.slice a0 0 cap] w fun e w' => e = .returned (.tuple #[.string ⟨#[]⟩, .int .i64 40]) ∧ Below w.heap.size w w' := by
  refine calls_marks Tryz.func18 rfl ?_
  simp only [Tryz.ntmps18, List.size_toArray, List.length_cons, List.length_nil, Nat.reduceAdd, Nat.reduceSub, Array.replicate_succ, Array.replicate_zero, List.push_toArray, List.append_toArray, List.nil_append, List.cons_append]
  go_wp2_with (go_at_call 24; refine (label_Right_nil a0 cap _).mono ?_; rintro e w1 ⟨rfl, rfl⟩)
  exact marks_ret0 (results_tmp2 rfl _ _ _) rfl ⟨rfl, Below.refl _ _⟩
theorem label_Text_E (a : Option Addr) (len cap : Nat) (l : List Lab) (w : World) (h : SlE Lab.enc 2 w.heap.size w a len l) (ho : LabsOk l) (hG : GW w) (hm : len < 4294967281) :
    Calls Tryz.prog 18 #[.slice a len cap] w fun e w' => e = .returned (.tuple #[.string (textS l), .int .i64 (textE l)]) ∧ Below w.heap.size w w' := by
  rcases Nat.eq_zero_or_pos len with h0 | h0
  · subst h0
    obtain rfl : l = [] := List.eq_nil_of_length_eq_zero h.1.symm
    exact label_Text_nil a cap w
  · have hat := h.to_at (cap := cap) labEnc_len h0
    obtain ⟨ls, rfl⟩ := labK_of l ho
    have hl := h.1
    rw [List.length_map] at hl
    subst hl
    cases hR : labRight (ls.map (·.1)) with
    | true => rw [textS, textE, if_pos hR, if_pos hR]; exact label_Text_right a cap ls w hat hG hm hR
    | false => rw [textS, textE, hR]; exact label_Text_wrong a cap ls w hat hG hm hR
end Go.Proofs.YthnfhklfmaeccaaGreatDoor

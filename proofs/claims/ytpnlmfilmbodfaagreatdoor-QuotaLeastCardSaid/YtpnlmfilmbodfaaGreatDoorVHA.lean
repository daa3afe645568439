/- Package hll: greater, ahead, Place; registers at work in memory. -/
import Derived.Test.YtpnlmfilmbodfaaGreatDoorVH1
import Derived.Test.YtpnlmfilmbodfaaGreatDoorVXI
import Derived.Test.YtpnlmfilmbodfaaGreatDoorVShelf
import Derived.Laws.BytesArg
import Derived.Lib.ConvBytes
import Derived.Lib.MinMax
namespace Go.Proofs.YtpnlmfilmbodfaaGreatDoor
open Go Go.RowKit Go.Shelf
def RegsAt (W : World) (g : Nat) (r : List Nat) : Prop := ∃ cs fz, W.heap[g]? = some (.cells cs 5 fz) ∧ (∀ (j x : Nat), r[j]? = some x → cs[j]? = some (Value.int .u8 (x : Int))) ∧ (fz = (0, 0) ∨ r.length ≤ fz.1)
theorem RegsAt.lt {W : World} {g : Nat} {r : List Nat} (h : RegsAt W g r) : g < W.heap.size := by
  obtain ⟨cs, fz, h1, -⟩ := h
  exact (Array.getElem?_eq_some_iff.1 h1).1
theorem RegsAt.cell {W : World} {g : Nat} {r : List Nat} (h : RegsAt W g r) {j x : Nat} (hx : r[j]? = some x) : W.cell? ⟨g, j, none⟩ = some (.int .u8 (x : Int)) := by
  obtain ⟨cs, fz, h1, h2, -⟩ := h
  simp [World.cell?, h1, h2 j x hx]
theorem RegsAt.frozen {W : World} {g : Nat} {r : List Nat} (h : RegsAt W g r) {j x : Nat} (hx : r[j]? = some x) : W.frozen? ⟨g, j, none⟩ = false := by
  obtain ⟨cs, fz, h1, h2, h3⟩ := h
  have hj := (List.getElem?_eq_some_iff.1 hx).1
  rcases h3 with rfl | h3
  · simp [World.frozen?, h1]
  · simp [World.frozen?, h1]; omega
theorem RegsAt.block {W W' : World} {g : Nat} {r : List Nat} (h : RegsAt W g r) (hb : W'.heap[g]? = W.heap[g]?) : RegsAt W' g r := by
  obtain ⟨cs, fz, h1, h2⟩ := h
  exact ⟨cs, fz, hb.trans h1, h2⟩
theorem RegsAt.grown {W W' : World} {g : Nat} {r : List Nat} {row : Option Nat} (h : RegsAt W g r) (hg : W.grownBy W' row) (hne : some g ≠ row) : RegsAt W' g r := h.block (hg.block g h.lt hne)
theorem RegsAt.go {W W' : World} {g : Nat} {r : List Nat} (h : RegsAt W g r) (hb : Below W.heap.size W W') : RegsAt W' g r := h.block (hb.block g h.lt)
theorem RegsAt.set {W : World} {g : Nat} {r : List Nat} (h : RegsAt W g r) (p k : Nat) : RegsAt (W.setCell ⟨g, p, none⟩ (.int .u8 (k : Int))) g (r.set p k) := by
  obtain ⟨cs, fz, h1, h2, h3⟩ := h
  refine ⟨_, fz, hSk h1 _, fun j x hx => ?_, by rw [List.length_set]; exact h3⟩
  rw [List.getElem?_set] at hx
  rw [Array.getElem?_setIfInBounds]
  by_cases hp : p = j
  · subst hp
    by_cases hl : p < r.length
    · rw [if_pos rfl, if_pos hl] at hx
      cases hx
      have := h2 p _ (List.getElem?_eq_getElem hl)
      rw [if_pos rfl, if_pos (Array.getElem?_eq_some_iff.1 this).1]
    · rw [if_pos rfl, if_neg hl] at hx
      cases hx
  · rw [if_neg hp] at hx
    rw [if_neg hp]
    exact h2 j x hx
theorem RegsAt.other {W : World} {g b o : Nat} {r : List Nat} (h : RegsAt W g r) (hne : b ≠ g) (v : Value) : RegsAt (W.setCell ⟨b, o, none⟩ v) g r := h.block (heap_set_other (p := ⟨b, o, none⟩) hne v)
theorem greater_any (a b : Int) (w : World) : Calls Tryz.prog 294 #[.int .u8 a, .int .u8 b] w fun e w' => e = .returned (.int .u8 (max a b)) ∧ w' = w := by
  go_enter Tryz.func294, Tryz.ntmps294
  go_wp2
  go_ret
  exact ⟨rfl, rfl⟩
theorem ahead_any (n : Int) (w : World) (h0 : 0 ≤ n) (h1 : n ≤ 18446744073709551615) : Calls Tryz.prog 301 #[.int .u64 n] w fun e w' => e = .returned (.int .i64 (64 - (Lib.bitLen n.toNat : Int))) ∧ w' = w := by
  have hcall := Tryz.bits_LeadingZeros64 n w h0 h1
  generalize Lib.bitLen n.toNat = m at hcall ⊢
  go_enter Tryz.func301, Tryz.ntmps301
  go_wp2_with (go_at_call 304; refine hcall.mono ?_; rintro e w' ⟨rfl, rfl⟩)
  go_ret
  exact ⟨rfl, rfl⟩
theorem wrap_u64_mod (m : Nat) : IntKind.u64.wrap (m : Int) = ((m % 2 ^ 64 : Nat) : Int) := by simp [IntKind.wrap, IntKind.bits, IntKind.signed]
theorem wrap64_nat (m : Nat) (h : m < 2 ^ 63) : wrap64 (m : Int) = m := by unfold wrap64; omega
set_option maxRecDepth 100000 in
set_option maxHeartbeats 1000000 in
theorem Place_any (b : Nat) (n : Int) (w : World) (h1 : 3 ≤ b) (h2 : b ≤ 8) (hn : U64 n) : Calls Tryz.prog 296 #[.int .i64 b, .int .u64 n] w fun e w' => e = .returned (.tuple #[.int .i64 (hlAt b n.toNat : Nat), .int .i64 (hlRank b n.toNat : Nat)]) ∧ w' = w := by
  obtain ⟨m, rfl⟩ := Int.eq_ofNat_of_zero_le hn.1
  have hm : m < 2 ^ 64 := by have := hn.2; omega
  rw [Int.toNat_natCast]
  have hib : ∀ w, Calls Tryz.prog 234 #[.int .i64 b] w fun e w' => e = .returned (.bool true) ∧ w' = w := fun w => (isBits_any b w).mono fun e w' ⟨h3, h4⟩ => ⟨by rw [h3]; simp [isBitsB]; omega, h4.symm⟩
  have hw : IntKind.u64.wrap ((m : Int) * 2 ^ b) = ((m * 2 ^ b % 2 ^ 64 : Nat) : Int) := by
    rw [← wrap_u64_mod]; congr 1
  have hd : wrap64 ((m : Int) / 2 ^ (64 - b)) = ((hlAt b m : Nat) : Int) := by
    have h3 := hlAt_lt b m h2 hm
    have h4 : 2 ^ b ≤ 2 ^ 8 := Nat.pow_le_pow_right (by omega) h2
    rw [← wrap64_nat (hlAt b m) (by omega)]; unfold hlAt; congr 1
  have hk : hlRank b m = if m * 2 ^ b % 2 ^ 64 = 0 then 65 - b else 65 - Lib.bitLen (m * 2 ^ b % 2 ^ 64) := rfl
  have ho64 : m * 2 ^ b % 2 ^ 64 < 2 ^ 64 := Nat.mod_lt _ (by decide)
  generalize m * 2 ^ b % 2 ^ 64 = o at hw hk ho64
  generalize hlAt b m = q at hd ⊢
  generalize hlRank b m = k at hk ⊢
  have HK := Lib.hid hk
  clear hk hn hm
  by_cases h0 : o = 0
  · subst h0
    have HK2 : Hid (((65 : Int) - (b : Int)) = (k : Int)) := by have := HK.out; simp at this; show _ = _; omega
    go_enter Tryz.func296, Tryz.ntmps296
    go_wp2_with (go_at_call 234; refine (hib _).mono ?_; rintro e w' ⟨rfl, rfl⟩)
    go_ret2
    exact ⟨by rw [← HK2.out, ← hd]; rfl, rfl⟩
  · have t0 : ((o : Int) != 0) = true := by rw [bne_iff_ne]; omega
    have hA := ahead_any (o : Int) w (by omega) (by omega)
    rw [Int.toNat_natCast] at hA
    have hlen := bitLen_64 o ho64 h0
    have HK2 : Hid ((64 - (Lib.bitLen o : Int)) + 1 = (k : Int)) := by have := HK.out; rw [if_neg h0] at this; show _ = _; omega
    generalize Lib.bitLen o = z at hA hlen HK2
    have hz : (z : Int) ≤ 64 := by omega
    clear HK ho64 h0
    go_enter Tryz.func296, Tryz.ntmps296
    go_wp2_with (first | (go_at_call 234; refine (hib _).mono ?_; rintro e w' ⟨rfl, rfl⟩) | (go_at_call 301; refine hA.mono ?_; rintro e w' ⟨rfl, rfl⟩))
    go_ret2
    exact ⟨by rw [← HK2.out, ← hd]; rfl, rfl⟩
end Go.Proofs.YtpnlmfilmbodfaaGreatDoor

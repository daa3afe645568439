/- slices.Clone and slices.Equal at []api.Label: printed by wip/tools/gen_l5.py. The references of layers 6 to 8: Right, Numbers, Same. The references of layers 7 and 8: Right, Same. The reference of layer 8: Right, Same. The reference of layer 9: digits, Bucket. -/
import Derived.Test.YthbhmnakmhambaaGreatDoorZL3
import Derived.Test.YthbhmnakmhambaaGreatDoorZT6
import Derived.Test.YthbhmnakmhambaaGreatDoorZRJ
namespace Go.Proofs.YthbhmnakmhambaaGreatDoor
open Go Go.RowKit
set_option maxHeartbeats 1000000 in
theorem clone_lab (a : Option Addr) (len cap : Nat) (l : List Lab) (w : World) (hL : SlE Lab.enc 2 w.heap.size w a len l) (hll : len < 2147483648) :
  Calls Tryz.prog 86 #[.slice a len cap] w fun e w' => ∃ a' cap', e = .returned (.slice a' len cap') ∧ SlC Lab.enc 2 w'.heap.size w' a' len cap' l ∧ (∀ x, a' = some x → w.heap.size ≤ x.block) ∧ Below w.heap.size w w' := by
 have he := eqlnil_lab a len cap
 have hlen := hL.1
 cases a with
 | none =>
  have hl0 : l = [] := by
   cases l with
   | nil => rfl
   | cons y ys => obtain ⟨b, off, e, _⟩ := hL.2 0 y rfl; cases e
  subst hl0
  obtain rfl : len = 0 := hlen
  clear hL
  go_enter Tryz.func86, Tryz.ntmps86
  go_wp2_with fail
  go_ret
  exact ⟨none, 0, rfl, SlC.nil, (fun x h => by cases h), Below.refl _ _⟩
 | some a =>
  have hB1 : Below w.heap.size w (w.alloc (.cells #[] 70)) := (Below.refl _ w).alloc (Nat.le_refl _) _
  have hown : (w.alloc (.cells #[] 70)).ownsRow w.heap.size 70 2 (.slice (some ⟨w.heap.size, 0, none⟩) 0 0) 0 [] := ⟨rfl, .inr ⟨w.heap.size, 0, #[], rfl, Nat.le_refl _, World.alloc_heap_new _ _, Nat.le_refl _, by unfold maxLen; omega, rfl, rfl⟩⟩
  have hL1 := hL.go hB1
  obtain ⟨v4, w4, hap4, hown4, hB4, hz4, -, -⟩ := append_elems Tryz.prog (cap := cap) 40 und_lab info_lab rfl (by decide) hown hB1 (Nat.le_refl _) (by simp) (fun _ => rfl) hL1 one_lab (by omega) hll (by decide)
  rw [Nat.zero_add, List.nil_append, hlen] at hown4
  obtain ⟨a4, c4, hv4, hs4, hb4⟩ := slC_of_owns (enc := Lab.enc) (fun _ => rfl) hown4
  have HS : Hid (SlC Lab.enc 2 w4.heap.size w4 a4 len c4 l) := by rw [Hid, hlen]; exact hs4
  rw [← hlen] at hv4
  subst hv4
  clear hL hL1 hown hs4 hown4 hlen
  go_enter Tryz.func86, Tryz.ntmps86
  go_wp2_with (at_builtin; refine wp_append_eq rfl _ _ _ rfl rfl rfl hap4 ?_)
  go_ret
  exact ⟨_, _, rfl, HS.out, hb4, hB4⟩
end Go.Proofs.YthbhmnakmhambaaGreatDoor
namespace Go.Proofs.YthbhmnakmhambaaGreatDoor
open Go Go.RowKit Go.Shelf
def upB : List Int → Bool
 | x :: y :: r => decide (x < y) && upB (y :: r)
 | _ => true
theorem upB_iff : ∀ l : List Int, upB l = true ↔ Up l
 | [] => by simp [upB, Up]
 | [x] => by simp [upB, Up]
 | x :: y :: r => by
  have ih := upB_iff (y :: r)
  simp only [upB, Bool.and_eq_true, decide_eq_true_eq, ih]
  constructor
  ·rintro ⟨h1, h2⟩
   refine List.pairwise_cons.2 ⟨fun z hz => ?_, h2⟩
   rcases List.mem_cons.1 hz with rfl | hz
   ·exact h1
   ·have := (List.pairwise_cons.1 h2).1 z hz; omega
  ·intro h
   obtain ⟨h1, h2⟩ := List.pairwise_cons.1 h
   exact ⟨h1 y List.mem_cons_self, h2⟩
theorem exRight_upB (l : List Int) : exRight l = (decide (l.length ≤ 64) && upB l) := by
 rw [Bool.eq_iff_iff, Bool.and_eq_true, decide_eq_true_eq, upB_iff]
 exact ⟨fun h => ⟨(exRight_up l h).2, (exRight_up l h).1⟩, fun h => up_right l h.2 h.1⟩
theorem upB_at {l : List Int} {k : Nat} {x y : Int} (hx : l[k]? = some x) (hy : l[k + 1]? = some y) : upB (l.drop k) = (decide (x < y) && upB (l.drop (k + 1))) := by
 rw [drop_cons' hx, drop_cons' hy]; rfl
theorem upB_end {l : List Int} {k : Nat} (h : l.length ≤ k + 1) : upB (l.drop k) = true := by
 have : (l.drop k).length ≤ 1 := by rw [List.length_drop]; omega
 match hl : l.drop k, this with
 | [], _ => rfl
 | [x], _ => rfl
set_option maxRecDepth 100000 in
set_option maxHeartbeats 1000000 in
theorem ref06_Right_any (a : Option Addr) (len cap : Nat) (l : List Int) (w : World) (hL : SlE encU 1 w.heap.size w a len l) (hm : len ≤ maxLen) (hU : U64s l) :
  Calls Tryz.prog 38 #[.agg #[.slice a len cap]] w fun e w' => e = .returned (.bool (exRight l)) ∧ Below w.heap.size w w' := by
 have hlen := hL.1
 unfold maxLen at hm
 obtain ⟨W0, hW0, hX0, hB0, hs0⟩ := boxes1 w #[.slice a len cap] 30
 have HX0 := Lib.hid hX0
 have HL := Lib.hid (hL.go hB0)
 have HU := Lib.hid hU
 have HN := Lib.hid hlen
 have HB0 := Lib.hid hB0
 have HE := Lib.hid (exRight_upB l)
 have hz0 : w.heap.size < W0.heap.size := by omega
 clear hL hB0 hlen hU
 generalize exRight l = bR at HE ⊢
 have c0 : W0.cell? ⟨w.heap.size, 0, none⟩ = some (.slice a len cap) := cCc hX0 0
 clear hX0
 go_enter Tryz.func38, Tryz.ntmps38
 go_wp2_with fail
 go_loopw [3] (fun i wr => ∃ (k : Nat), i = .int .i64 ((k : Int) + 1) ∧ (k ≤ len) ∧ (k = 0 ∨ k < len) ∧ Below W0.heap.size W0 wr ∧ Hid (upB l = upB (l.drop k))) (fun i _ => len + 1 - (intOf i).toNat)
 case atStart => exact ⟨0, rfl, Nat.zero_le _, .inl rfl, Below.refl _ _, rfl⟩
 case round =>
  obtain ⟨k, rfl, hk, hk0, hB, HS⟩ := hrel
  have hsz := hB.size
  have r0 : wr.cell? ⟨w.heap.size, 0, none⟩ = some (.slice a len cap) := (hB.cell (p := ⟨w.heap.size, 0, none⟩) hz0).trans c0
  by_cases hlt : k + 1 < len
  ·obtain ⟨x, b, off, hx, rfl, hbb, hc⟩ := (HL.out.below hB).at (j := k) (by omega)
   obtain ⟨y, b', off', hy, e1, hbb', hc'⟩ := (HL.out.below hB).at (j := k + 1) hlt
   injection e1 with e1
   injection e1 with e1 e2
   subst e1; subst e2
   have p0 : wr.cell? ⟨b, off + k * 1 + 0, none⟩ = some (.int .u64 x) := hc 0 (by omega)
   have q0 : wr.cell? ⟨b, off + (k + 1) * 1 + 0, none⟩ = some (.int .u64 y) := hc' 0 (by omega)
   simp only [Nat.mul_one, Nat.add_zero] at p0 q0
   have HX := Lib.hid (upB_at hx hy)
   obtain ⟨u1, u2⟩ := HU.out x (List.mem_of_getElem? hx)
   obtain ⟨v1, v2⟩ := HU.out y (List.mem_of_getElem? hy)
   have i1 : (k : Int) + 1 < (len : Int) := by omega
   clear hc hc' hx hy
   by_cases hxy : x < y
   ·have t0 : decide (y ≤ x) = false := by simp; omega
    have H9 : Hid (upB l = upB (l.drop (k + 1))) := by rw [Hid, HS.out, HX.out, decide_eq_true hxy]; rfl
    go_wp2_with fail
    go_quiet (fail)
    go_wp2_with fail
    go_roundw
    case rel => exact ⟨k + 1, by go_num, by omega, .inr (by omega), bDr hB _, H9.out⟩
    case measure => simp [intOf]; omega
   ·have t0 : decide (y ≤ x) = true := by simp; omega
    have H9 : Hid (bR = false) := by rw [Hid, HE.out, HS.out, HX.out, decide_eq_false hxy]; simp
    go_wp2_with fail
    go_quiet (fail)
    go_wp2_with fail
    go_ret
    exact ⟨by rw [H9.out]; rfl, HB0.out.trans ((bDr hB _).mono HB0.out.size)⟩
  ·have H9 : Hid (bR = decide ((len : Int) ≤ 64)) := by
    rw [Hid, HE.out, HS.out, upB_end (by rw [← HN.out]; omega), Bool.and_true, ← HN.out]
    exact decide_eq_decide.2 (by omega)
   go_wp2_with fail
   go_ret
   exact ⟨by rw [H9.out]; rfl, HB0.out.trans (hB.mono HB0.out.size)⟩
end Go.Proofs.YthbhmnakmhambaaGreatDoor
namespace Go.Proofs.YthbhmnakmhambaaGreatDoor
open Go Go.RowKit Go.Shelf
theorem ref07_isBits_any (n : Int) (w : World) : Calls Tryz.prog 73 #[.int .i64 n] w fun e w' => e = .returned (.bool (isBitsB n)) ∧ w' = w := by
 have HR : Hid (isBitsB n = (decide (3 ≤ n) && decide (n ≤ 8))) := rfl
 generalize isBitsB n = b at HR ⊢
 by_cases h1 : 3 ≤ n
 ·by_cases h2 : n ≤ 8
  ·have H9 : Hid (b = true) := by rw [Hid, HR.out, decide_eq_true h1, decide_eq_true h2]; rfl
   go_enter Tryz.func73, Tryz.ntmps73
   go_wp2_with fail
   go_ret
   exact ⟨by rw [H9.out]; rfl, rfl⟩
  ·have H9 : Hid (b = false) := by rw [Hid, HR.out, decide_eq_false h2, Bool.and_false]
   go_enter Tryz.func73, Tryz.ntmps73
   go_wp2_with fail
   go_ret
   exact ⟨by rw [H9.out]; rfl, rfl⟩
 ·have H9 : Hid (b = false) := by rw [Hid, HR.out, decide_eq_false h1, Bool.false_and]
  go_enter Tryz.func73, Tryz.ntmps73
  go_wp2_with fail
  go_ret
  exact ⟨by rw [H9.out]; rfl, rfl⟩
theorem regsOk_octs (b : Int) (s : ByteArray) : regsOk b s = okRegs b (octs s) := by
 have h : s.data.toList = (octs s).map (·.2) := by
  apply List.ext_getElem?
  intro i
  by_cases hi : i < s.size
  ·simp [octs, hi]
  ·simp [octs, hi]
 unfold regsOk okRegs
 rw [h, List.all_map]
 rfl
set_option maxRecDepth 100000 in
set_option maxHeartbeats 1000000 in
theorem ref07_Right_mid (b : Nat) (hb1 : 3 ≤ b) (hb2 : b ≤ 8) (s : ByteArray) (q : Int) (hq : q = 2 ^ b) (w : World) :
  Calls Tryz.prog 39 #[.agg #[.int .i64 b, .string s]] w fun e w' => e = .returned (.bool ((s.size : Int) == q && regsOk b s)) ∧ Below w.heap.size w w' := by
 obtain ⟨W0, hW0, hX0, hB0, hs0⟩ := boxes1 w #[.int .i64 b, .string s] 32
 have HIB : Hid (∀ w, Calls Tryz.prog 73 #[.int .i64 b] w fun e w' => e = .returned (.bool true) ∧ w' = w) := fun w => (ref07_isBits_any b w).mono fun e w' ⟨h1, h2⟩ => ⟨by rw [h1]; simp [isBitsB]; omega, h2⟩
 have hq1 : 0 ≤ q ∧ q ≤ 256 := by
  rcases (by omega : b = 3 ∨ b = 4 ∨ b = 5 ∨ b = 6 ∨ b = 7 ∨ b = 8) with rfl | rfl | rfl | rfl | rfl | rfl <;> (rw [hq]; decide)
 obtain ⟨hq1, hq2⟩ := hq1
 have hw : IntKind.i64.wrap (2 ^ b) = q := by rw [← hq]; exact IntWalk.i64_in _ (by omega)
 have hz0 : w.heap.size < W0.heap.size := by omega
 have HB0 := Lib.hid hB0
 have HR : Hid (regsOk b s = okRegs b (octs s)) := regsOk_octs b s
 have HO := Lib.hid (octs_len s)
 obtain ⟨c0, c1⟩ := cl2 hX0
 clear hX0 hB0 hq
 by_cases hs : (s.size : Int) = q
 case neg =>
  have t0 : ((s.size : Int) != q) = true := by rw [bne_iff_ne]; exact hs
  have H9 : Hid (((s.size : Int) == q && regsOk b s) = false) := by rw [Hid, beq_eq_false_iff_ne.2 hs]; rfl
  generalize ((s.size : Int) == q && regsOk b s) = bR at H9 ⊢
  clear hs
  go_enter Tryz.func39, Tryz.ntmps39
  go_wp2_with fail
  go_quiet ((go_at_call 73; exact Calls.quiet_of_same (HIB.out _)))
  go_wp2_with fail
  go_ret
  exact ⟨by rw [H9.out]; rfl, bDr HB0.out _⟩
 have t0 : ((s.size : Int) != q) = false := by rw [bne_eq_false_iff_eq]; exact hs
 have hs256 : s.size ≤ 256 := by omega
 have H8 : Hid (((s.size : Int) == q && regsOk b s) = okRegs b (octs s)) := by rw [Hid, beq_iff_eq.2 hs, Bool.true_and, HR.out]
 generalize ((s.size : Int) == q && regsOk b s) = bR at H8 ⊢
 clear hs
 go_enter Tryz.func39, Tryz.ntmps39
 go_wp2_with fail
 go_quiet ((go_at_call 73; exact Calls.quiet_of_same (HIB.out _)))
 have hBq : Below W0.heap.size W0 (W0.drewN nq) := bDr (Below.refl _ _) _
 go_wp2_with fail
 go_loopw [3] (fun i wr => ∃ (k : Nat), i = .int .i64 k ∧ k ≤ s.size ∧ Below W0.heap.size W0 wr ∧ Hid (okRegs b ((octs s).take k) = true)) (fun i _ => s.size - (intOf i).toNat)
 case atStart => exact ⟨0, rfl, Nat.zero_le _, hBq, rfl⟩
 case round =>
  obtain ⟨k, rfl, hk, hB, HS⟩ := hrel
  have r0 : wr.cell? ⟨w.heap.size, 0, none⟩ = some (.int .i64 b) := (hB.cell (p := ⟨w.heap.size, 0, none⟩) hz0).trans c0
  have r1 : wr.cell? ⟨w.heap.size, 1, none⟩ = some (.string s) := (hB.cell (p := ⟨w.heap.size, 1, none⟩) hz0).trans c1
  by_cases hlt : k < s.size
  ·have HX := Lib.hid (octs_at s k hlt)
   have hx := UInt8.toNat_lt (s[k]'hlt)
   have HT : Hid (okRegs b ((octs s).take (k + 1)) = !decide (65 - (b : Int) < ((s[k]'hlt).toNat : Int))) := by
    rw [Hid, take_snoc' HX.out, okRegs_append, HS.out, okRegs_one, Bool.true_and]
   by_cases ht : 65 - (b : Int) < ((s[k]'hlt).toNat : Int)
   ·have H9 : Hid (bR = false) := by
     have h1 : okRegs b ((octs s).take (k + 1)) = false := by rw [HT.out, decide_eq_true ht]; rfl
     rw [Hid, H8.out]
     cases h2 : okRegs b (octs s) with
     | false => rfl
     | true =>
      rw [← List.take_append_drop (k + 1) (octs s), okRegs_append, h1] at h2
      cases h2
    go_wp2_with fail
    go_quiet (fail)
    go_wp2_with fail
    go_ret
    exact ⟨by rw [H9.out]; rfl, HB0.out.trans ((bDr hB _).mono (by omega))⟩
   ·have H9 : Hid (okRegs b ((octs s).take (k + 1)) = true) := by rw [Hid, HT.out, decide_eq_false ht]; rfl
    go_wp2_with fail
    go_quiet (fail)
    go_wp2_with fail
    go_roundw
    case rel => exact ⟨k + 1, by go_num, by omega, bDr hB _, H9.out⟩
    case measure => simp [intOf]; omega
  ·obtain rfl : k = s.size := by omega
   have H9 : Hid (bR = true) := by rw [Hid, H8.out, ← HS.out, List.take_of_length_le (by rw [HO.out]; exact Nat.le_refl _)]
   go_wp2_with fail
   go_ret
   exact ⟨by rw [H9.out]; rfl, HB0.out.trans (hB.mono (by omega))⟩
set_option maxRecDepth 100000 in
set_option maxHeartbeats 1000000 in
theorem ref07_Right_any (b : Int) (s : ByteArray) (w : World) :
  Calls Tryz.prog 39 #[.agg #[.int .i64 b, .string s]] w fun e w' => e = .returned (.bool (hlRight b s)) ∧ Below w.heap.size w w' := by
 cases hb : isBitsB b with
 | true =>
  have hr : 3 ≤ b ∧ b ≤ 8 := by simpa [isBitsB] using hb
  obtain ⟨n, rfl⟩ : ∃ n : Nat, b = n := ⟨b.toNat, by omega⟩
  have h := ref07_Right_mid n (by omega) (by omega) s _ rfl w
  have e : hlRight n s = ((s.size : Int) == 2 ^ n && regsOk n s) := by unfold hlRight; rw [hb, Bool.true_and, Int.toNat_natCast]
  rw [e]
  exact h
 | false =>
  obtain ⟨W0, hW0, hX0, hB0, hs0⟩ := boxes1 w #[.int .i64 b, .string s] 32
  have HIB : Hid (∀ w, Calls Tryz.prog 73 #[.int .i64 b] w fun e w' => e = .returned (.bool false) ∧ w' = w) := fun w => (ref07_isBits_any b w).mono fun e w' ⟨h1, h2⟩ => ⟨by rw [h1, hb], h2⟩
  have H9 : Hid (hlRight b s = false) := by unfold hlRight; rw [Hid, hb]; rfl
  have HB0 := Lib.hid hB0
  obtain ⟨c0, c1⟩ := cl2 hX0
  clear hX0 hB0 hb
  generalize hlRight b s = bR at H9 ⊢
  go_enter Tryz.func39, Tryz.ntmps39
  go_wp2_with fail
  go_quiet ((go_at_call 73; exact Calls.quiet_of_same (HIB.out _)))
  go_wp2_with fail
  go_ret
  exact ⟨by rw [H9.out]; rfl, bDr HB0.out _⟩
end Go.Proofs.YthbhmnakmhambaaGreatDoor
namespace Go.Proofs.YthbhmnakmhambaaGreatDoor
open Go Go.RowKit Go.Shelf
def is08 (r c : Int) : Bool := (decide (1 ≤ r) && decide (r ≤ 4)) && (((c == 4 || c == 8) || c == 16) || c == 32)
theorem is08_shape (r c : Int) (hc : I64 c) : is08 r c = isShapeB r c := by
 unfold is08 isShapeB
 by_cases h : 4 ≤ c ∧ c ≤ 32
 ·obtain ⟨h1, h2⟩ := h
  obtain ⟨n, rfl⟩ : ∃ n : Nat, c = n := ⟨c.toNat, by omega⟩
  have key : ∀ n ∈ List.range 33, 4 ≤ n → ((((n : Int) == 4 || (n : Int) == 8) || (n : Int) == 16) || (n : Int) == 32) = (bits .and .i64 (n : Int) ((n : Int) - 1) == 0) := by decide +kernel
  rw [key n (List.mem_range.2 (by omega)) (by omega), decide_eq_true h1, decide_eq_true h2, Bool.and_true, Bool.and_true]
 ·have e1 : (((c == 4 || c == 8) || c == 16) || c == 32) = false := by simp; omega
  have e2 : (decide (4 ≤ c) && decide (c ≤ 32)) = false := by simp; omega
  rw [e1, Bool.and_false, Bool.and_assoc (decide (1 ≤ r) && decide (r ≤ 4)), e2, Bool.and_false, Bool.false_and]
set_option maxHeartbeats 1000000 in
theorem ref08_is_any (r c : Int) (w : World) : Calls Tryz.prog 74 #[.int .i64 r, .int .i64 c] w fun e w' => e = .returned (.bool (is08 r c)) ∧ w' = w := by
 by_cases h1 : 1 ≤ r
 case neg =>
  have H9 : Hid (is08 r c = false) := by rw [Hid, is08, decide_eq_false h1]; rfl
  generalize is08 r c = b at H9 ⊢
  go_enter Tryz.func74, Tryz.ntmps74
  go_wp2_with fail
  go_ret
  exact ⟨by rw [H9.out]; rfl, rfl⟩
 by_cases h2 : r ≤ 4
 case neg =>
  have H9 : Hid (is08 r c = false) := by rw [Hid, is08, decide_eq_false h2, Bool.and_false]; rfl
  generalize is08 r c = b at H9 ⊢
  go_enter Tryz.func74, Tryz.ntmps74
  go_wp2_with fail
  go_ret
  exact ⟨by rw [H9.out]; rfl, rfl⟩
 have H9 : Hid (is08 r c = (((c == 4 || c == 8) || c == 16) || c == 32)) := by rw [Hid, is08, decide_eq_true h1, decide_eq_true h2]; rfl
 generalize is08 r c = b at H9 ⊢
 by_cases e4 : c = 4
 ·have H8 : Hid (b = true) := by rw [Hid, H9.out, e4]; rfl
  clear H9
  subst e4
  go_enter Tryz.func74, Tryz.ntmps74
  go_wp2_with fail
  go_ret
  exact ⟨by rw [H8.out]; rfl, rfl⟩
 by_cases e8 : c = 8
 ·have H8 : Hid (b = true) := by rw [Hid, H9.out, e8]; rfl
  clear H9 e4
  subst e8
  go_enter Tryz.func74, Tryz.ntmps74
  go_wp2_with fail
  go_ret
  exact ⟨by rw [H8.out]; rfl, rfl⟩
 by_cases e16 : c = 16
 ·have H8 : Hid (b = true) := by rw [Hid, H9.out, e16]; rfl
  clear H9 e4 e8
  subst e16
  go_enter Tryz.func74, Tryz.ntmps74
  go_wp2_with fail
  go_ret
  exact ⟨by rw [H8.out]; rfl, rfl⟩
 have t4 : (c == 4) = false := beq_eq_false_iff_ne.2 e4
 have t8 : (c == 8) = false := beq_eq_false_iff_ne.2 e8
 have t16 : (c == 16) = false := beq_eq_false_iff_ne.2 e16
 by_cases e32 : c = 32
 ·have H8 : Hid (b = true) := by rw [Hid, H9.out, e32]; rfl
  clear H9 e4 e8 e16 t4 t8 t16
  subst e32
  go_enter Tryz.func74, Tryz.ntmps74
  go_wp2_with fail
  go_ret
  exact ⟨by rw [H8.out]; rfl, rfl⟩
 ·have t32 : (c == 32) = false := beq_eq_false_iff_ne.2 e32
  have H8 : Hid (b = false) := by rw [Hid, H9.out, t4, t8, t16, t32]; rfl
  clear H9 e4 e8 e16 e32
  go_enter Tryz.func74, Tryz.ntmps74
  go_wp2_with fail
  go_ret
  exact ⟨by rw [H8.out]; rfl, rfl⟩
set_option maxRecDepth 100000 in
set_option maxHeartbeats 1000000 in
theorem ref08_Right_any (r c : Int) (a : Option Addr) (len cap : Nat) (l : List Int) (w : World) (hc : I64 c) (hlen : len = l.length) :
  Calls Tryz.prog 40 #[.agg #[.int .i64 r, .int .i64 c, .slice a len cap]] w fun e w' => e = .returned (.bool (cmRight r c l)) ∧ Below w.heap.size w w' := by
 obtain ⟨W0, hW0, hX0, hB0, hs0⟩ := boxes1 w #[.int .i64 r, .int .i64 c, .slice a len cap] 34
 have HIS : Hid (∀ w, Calls Tryz.prog 74 #[.int .i64 r, .int .i64 c] w fun e w' => e = .returned (.bool (is08 r c)) ∧ w' = w) := fun w => ref08_is_any r c w
 have HB0 := Lib.hid hB0
 have HR : Hid (cmRight r c l = (is08 r c && ((len : Int) == r * c))) := by rw [Hid, cmRight, is08_shape r c hc, hlen]
 obtain ⟨d0, d1, d2⟩ := cl3 hX0
 clear hX0 hB0 hlen
 generalize cmRight r c l = bR at HR ⊢
 cases hi : is08 r c with
 | false =>
  rw [hi] at HIS
  have H9 : Hid (bR = false) := by rw [Hid, HR.out, hi]; rfl
  clear hi HR
  go_enter Tryz.func40, Tryz.ntmps40
  go_wp2_with (go_at_call 74; refine (HIS.out _).mono ?_; rintro e w1 ⟨rfl, rfl⟩)
  go_ret
  exact ⟨by rw [H9.out]; rfl, HB0.out⟩
 | true =>
  rw [hi] at HIS
  have h1 : 1 ≤ r ∧ r ≤ 4 ∧ 4 ≤ c ∧ c ≤ 32 := by
   simp only [is08, Bool.and_eq_true, Bool.or_eq_true, decide_eq_true_eq, beq_iff_eq] at hi
   omega
  obtain ⟨r1, r4, c4, c32⟩ := h1
  have hmul : 0 ≤ r * c ∧ r * c ≤ 128 := by
   refine ⟨Int.mul_nonneg (by omega) (by omega), ?_⟩
   calc r * c ≤ 4 * c := Int.mul_le_mul_of_nonneg_right r4 (by omega)
    _ ≤ 128 := by omega
  obtain ⟨m0, m1⟩ := hmul
  have H9 : Hid (bR = ((len : Int) == r * c)) := by rw [Hid, HR.out, hi]; rfl
  generalize hrc : r * c = rc at H9 m0 m1
  have hw : IntKind.i64.wrap (r * c) = rc := by rw [hrc]; exact IntWalk.i64_in _ (by omega)
  clear hi HR
  go_enter Tryz.func40, Tryz.ntmps40
  go_wp2_with (go_at_call 74; refine (HIS.out _).mono ?_; rintro e w1 ⟨rfl, rfl⟩)
  go_ret
  exact ⟨by rw [H9.out]; rfl, HB0.out⟩
end Go.Proofs.YthbhmnakmhambaaGreatDoor
namespace Go.Proofs.YthbhmnakmhambaaGreatDoor
open Go Go.RowKit Go.Shelf
theorem bitLen_half (v : Nat) (h : v < 2 ^ 64) (h0 : v ≠ 0) : Lib.bitLen v = 1 + Lib.bitLen (v / 2) := by
 obtain ⟨a1, a2, a3⟩ := bitLen_bd v h h0
 by_cases h1 : v = 1
 ·subst h1; rfl
 obtain ⟨b1, b2, b3⟩ := bitLen_bd (v / 2) (by omega) (by omega)
 generalize Lib.bitLen v = m at *
 generalize Lib.bitLen (v / 2) = n at *
 obtain ⟨m', rfl⟩ : ∃ m', m = m' + 1 := ⟨m - 1, by omega⟩
 obtain ⟨n', rfl⟩ : ∃ n', n = n' + 1 := ⟨n - 1, by omega⟩
 simp only [Nat.add_sub_cancel, Nat.pow_succ] at *
 have c1 : 2 ^ n' < 2 ^ m' := by
  have : 2 ^ n' * 2 ≤ v := by omega
  have h2 : 2 ^ n' * 2 < 2 ^ m' * 2 := by omega
  omega
 have c2 : m' < n' + 2 := by
  apply (Nat.pow_lt_pow_iff_right (a := 2) (by omega)).1
  rw [Nat.pow_succ, Nat.pow_succ]
  omega
 have c3 := (Nat.pow_lt_pow_iff_right (a := 2) (by omega)).1 c1
 omega
theorem bitLen_0 : Lib.bitLen 0 = 0 := rfl
theorem ref09_digits_any (v : Nat) (hv : v < 2 ^ 64) (w : World) : Calls Tryz.prog 130 #[.int .u64 v] w fun e w' => e = .returned (.int .i64 (Lib.bitLen v)) ∧ w' = w := by
 have h64 : Lib.bitLen v ≤ 64 := by
  by_cases h : v = 0
  ·subst h; decide
  ·exact bitLen_64 v hv h
 have HD : Hid (Lib.bitLen v = 0 + Lib.bitLen v) := by rw [Hid, Nat.zero_add]
 have HV : Hid (v < 2 ^ 64) := hv
 generalize hd : Lib.bitLen v = d at h64 HD ⊢
 have HD2 : Hid (d = 0 + Lib.bitLen v) := by rw [Hid, Nat.zero_add, hd]
 clear HD hd hv
 go_enter Tryz.func130, Tryz.ntmps130
 go_wp2_with fail
 go_loopw [0, 3] (fun x n wr => ∃ (k u : Nat), x = .int .u64 u ∧ n = .int .i64 k ∧ Hid (u < 2 ^ 64) ∧ Hid (d = k + Lib.bitLen u) ∧ wr = w) (fun _ n _ => 65 - (intOf n).toNat)
 case atStart => exact ⟨0, v, rfl, rfl, HV, HD2, rfl⟩
 case round =>
  obtain ⟨k, u, rfl, rfl, HU, HK, rfl⟩ := hrel
  by_cases hu : u = 0
  ·subst hu
   have H9 : Hid (d = k) := by rw [Hid, HK.out, bitLen_0]; rfl
   go_wp2_with fail
   go_ret
   exact ⟨by rw [H9.out]; rfl, rfl⟩
  ·have H9 : Hid (d = k + 1 + Lib.bitLen (u / 2)) := by rw [Hid, HK.out, bitLen_half u HU.out hu]; omega
   have hu0 : (0 : Int) < u := by omega
   have hk : k < 64 := by
    have := H9.out
    omega
   have H8 : Hid (u / 2 < 2 ^ 64) := by have := HU.out; rw [Hid]; omega
   have hu64 : (u : Int) ≤ 18446744073709551615 := by have := HU.out; omega
   go_wp2_with fail
   go_roundw
   case rel => exact ⟨k + 1, u / 2, by go_num, by go_num, H8, H9, trivial⟩
   case measure => simp [intOf]; omega
def bkB (v i : Nat) : Nat := v * 2 ^ (64 - (Lib.bitLen v - 1)) % 2 ^ 64 / 2 ^ (64 - i)
theorem bkB_0 (v : Nat) : bkB v 0 = 0 := Nat.div_eq_of_lt (Nat.mod_lt _ (by decide))
theorem bkB_lt (v i : Nat) (hi : i ≤ 3) : bkB v i < 2 ^ i := by
 unfold bkB
 rw [Nat.div_lt_iff_lt_mul (Nat.two_pow_pos _), ← Nat.pow_add, show i + (64 - i) = 64 by omega]
 exact Nat.mod_lt _ (by decide)
theorem bkB_le (v i : Nat) (hi : i ≤ 3) : bkB v i < 8 := by
 have h := bkB_lt v i hi
 have : 2 ^ i ≤ 2 ^ 3 := Nat.pow_le_pow_right (by omega) hi
 omega
theorem bkB_succ (v i : Nat) (hi : i < 3) : bkB v (i + 1) = 2 * bkB v i + v * 2 ^ (64 - (Lib.bitLen v - 1)) / 2 ^ (63 - i) % 2 := by
 unfold bkB
 generalize v * 2 ^ (64 - (Lib.bitLen v - 1)) = y
 rcases (by omega : i = 0 ∨ i = 1 ∨ i = 2) with rfl | rfl | rfl <;> simp only [Nat.reduceSub, Nat.reduceAdd, Nat.reducePow] <;> omega
theorem bkB_one (v i : Nat) (h0 : 1 ≤ Lib.bitLen v) (hb : i + 2 ≤ Lib.bitLen v) (h64 : Lib.bitLen v ≤ 64) : v * 2 ^ (64 - (Lib.bitLen v - 1)) / 2 ^ (63 - i) = v / 2 ^ (Lib.bitLen v - 2 - i) := by
 generalize Lib.bitLen v = b at *
 have e : 63 - i = (64 - (b - 1)) + (b - 2 - i) := by omega
 rw [e, Nat.pow_add, ← Nat.div_div_eq_div_mul, Nat.mul_div_cancel _ (Nat.two_pow_pos _)]
theorem bkB_nil (v i : Nat) (h0 : 1 ≤ Lib.bitLen v) (hb : Lib.bitLen v < i + 2) (hi : i < 3) : v * 2 ^ (64 - (Lib.bitLen v - 1)) / 2 ^ (63 - i) % 2 = 0 := by
 generalize Lib.bitLen v = b at *
 have e : 64 - (b - 1) = (63 - i) + ((i + 1 - b) + 1) := by omega
 rw [e, Nat.pow_add, ← Nat.mul_assoc, Nat.mul_comm v, Nat.mul_assoc, Nat.mul_div_cancel_left _ (Nat.two_pow_pos _), Nat.pow_succ, ← Nat.mul_assoc, Nat.mul_mod_left]
theorem hiBk_eq (f v : Nat) (h : v ≠ 0) : hiBk f v = 1 + (((Lib.bitLen v - 1) * 2 ^ f + bkB v f : Nat) : Int) := by
 unfold hiBk bkB
 rw [if_neg h, Int.toNat_natCast]
set_option maxHeartbeats 1000000 in
theorem ref09_Bucket_any (f v : Nat) (hf : f ≤ 3) (hv : v < 2 ^ 64) (w : World) : Calls Tryz.prog 109 #[.int .i64 f, .int .u64 v] w fun e w' => e = .returned (.int .i64 (hiBk f v)) ∧ w' = w := by
 by_cases h0 : v = 0
 ·subst h0
  have H9 : Hid (hiBk f 0 = 0) := by rw [Hid]; rfl
  generalize hiBk f 0 = r at H9 ⊢
  have hf0 : (0 : Int) ≤ f ∧ (f : Int) ≤ 3 := by omega
  obtain ⟨g1, g2⟩ := hf0
  go_enter Tryz.func109, Tryz.ntmps109
  go_wp2_with fail
  go_ret
  exact ⟨by rw [H9.out]; rfl, rfl⟩
 obtain ⟨b1, -, -⟩ := bitLen_bd v hv h0
 have b2 := bitLen_64 v hv h0
 have HE := Lib.hid (hiBk_eq f v h0)
 generalize hiBk f v = r at HE ⊢
 have HDi := Lib.hid (ref09_digits_any v hv)
 have HS : Hid (∀ j, j < 3 → bkB v (j + 1) = 2 * bkB v j + (if j + 2 ≤ Lib.bitLen v then v / 2 ^ (Lib.bitLen v - 2 - j) % 2 else 0)) := fun j hj => by
  rw [bkB_succ v j hj]
  split
  ·rename_i h; rw [bkB_one v j b1 h b2]
  ·rename_i h; rw [bkB_nil v j b1 (by omega) hj]
 have HB0 := Lib.hid (bkB_0 v)
 have HBl : Hid (∀ j, j ≤ 3 → bkB v j < 8) := fun j hj => bkB_le v j hj
 generalize Lib.bitLen v = b at *
 have hv0 : (0 : Int) < v := by omega
 have hv64 : (v : Int) ≤ 18446744073709551615 := by omega
 have hf0 : (0 : Int) ≤ f ∧ (f : Int) ≤ 3 := by omega
 obtain ⟨g1, g2⟩ := hf0
 have hne : ((v : Int) == 0) = false := by rw [beq_eq_false_iff_ne]; omega
 clear h0 hv
 go_enter Tryz.func109, Tryz.ntmps109
 go_wp2_with (go_at_call 130; refine (HDi.out _).mono ?_; rintro e w1 ⟨rfl, rfl⟩)
 go_loopw [6, 7] (fun x i wr => ∃ (j u : Nat), i = .int .i64 ((j : Int) + 1) ∧ x = .int .i64 u ∧ j ≤ f ∧ Hid (u = bkB v j) ∧ u < 8 ∧ wr = w1) (fun _ i _ => 4 - (intOf i).toNat)
 case atStart => exact ⟨0, 0, rfl, rfl, Nat.zero_le _, HB0.out.symm, by omega, rfl⟩
 case round =>
  obtain ⟨j, u, rfl, rfl, hj, HU, hu8, rfl⟩ := hrel
  by_cases hlt : j < f
  ·have HN := Lib.hid (HS.out j (by omega))
   have HN8 := HBl.out (j + 1) (by omega)
   by_cases hc : j + 2 ≤ b
   ·obtain ⟨c, rfl⟩ : ∃ c, b = c + j + 2 := ⟨b - 2 - j, by omega⟩
    have e0 : (((c + j + 2 : Nat) : Int) - 1 - ((j : Int) + 1)) = (c : Int) := by omega
    have H9 : Hid (bkB v (j + 1) = 2 * u + v / 2 ^ c % 2) := by rw [Hid, HN.out, if_pos hc, ← HU.out, show c + j + 2 - 2 - j = c by omega]
    generalize hd : v / 2 ^ c = d at H9
    have hd2 : (v : Int) / 2 ^ c = (d : Int) := by rw [← hd]; simp
    go_wp2_with fail
    go_roundw
    case rel => exact ⟨j + 1, 2 * u + d % 2, by go_num, by go_num, by omega, H9.out.symm, by rw [← H9.out]; exact HN8, trivial⟩
    case measure => simp [intOf]; omega
   ·have H9 : Hid (bkB v (j + 1) = 2 * u) := by rw [Hid, HN.out, if_neg hc, ← HU.out]; rfl
    go_wp2_with fail
    go_roundw
    case rel => exact ⟨j + 1, 2 * u, by go_num, by go_num, by omega, H9.out.symm, by rw [← H9.out]; exact HN8, trivial⟩
    case measure => simp [intOf]; omega
  ·obtain rfl : j = f := by omega
   have H9 : Hid (r = 1 + (((b - 1) * 2 ^ j + u : Nat) : Int)) := by rw [Hid, HE.out, ← HU.out]
   rcases (by omega : j = 0 ∨ j = 1 ∨ j = 2 ∨ j = 3) with rfl | rfl | rfl | rfl
   all_goals go_wp2_with fail
   all_goals go_ret
   all_goals exact ⟨by rw [H9.out]; congr 1; show Value.int .i64 _ = Value.int .i64 _; congr 1; omega, rfl⟩
end Go.Proofs.YthbhmnakmhambaaGreatDoor

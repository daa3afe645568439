/- Package field: Put: printed by wip/tools/gen_y1.py. -/
import Derived.Test.YtjpnbkdhmjgdgaaDoorShelf
import Derived.Test.YtjpnbkdhmjgdgaaDoorXL
import Derived.Test.YtjpnbkdhmjgdgaaDoorB0
import Derived.Laws.BytesArg
namespace Go.Proofs.YtjpnbkdhmjgdgaaDoor
open Go Go.RowKit

theorem und_u8 : Tryd.prog.underlying 5 = some (.int .u8) := by kernel_rfl
theorem und_string : Tryd.prog.underlying 9 = some .string := by kernel_rfl
theorem conv_at {w : World} {g cap : Nat} (xs : List Int) (h : ∀ i, i < xs.length → w.cell? ⟨g, i, none⟩ = some (.int .u8 (xs.getD i 0))) :
    (convert 53 9 (.slice (some ⟨g, 0, none⟩) xs.length cap)).run Tryd.prog w = .ok (.string (strOfNums xs)) w :=
  run_convert_bytes_arg w _ _ und_bytes und_u8 g 0 xs.length cap xs rfl (fun i hi => by rw [Nat.zero_add]; exact h i hi) _ und_string
theorem conv_new (w : World) (xs : List Int) (c : Nat) :
    (convert 53 9 (.slice (some ⟨w.heap.size, 0, none⟩) xs.length c)).run Tryd.prog (w.alloc (.cells (xs.map (Value.int .u8)).toArray 5)) = .ok (.string (strOfNums xs)) (w.alloc (.cells (xs.map (Value.int .u8)).toArray 5)) :=
  conv_at xs (fun i hi => by
    rw [cell_of_cells (World.alloc_heap_new w _)]
    simp [List.getElem?_eq_getElem hi])
theorem conv_own {w : World} {base n : Nat} {v : Value} (xs : List Int) (hn : n = xs.length) (hp : 0 < n) (h : w.ownsRow base 5 1 v n (xs.map (Value.int .u8))) :
    (convert 53 9 v).run Tryd.prog w = .ok (.string (strOfNums xs)) w := by
  subst hn
  rcases h.2 with ⟨rfl, h0⟩ | ⟨g, cap, cur, rfl, _, hg, _⟩
  · omega
  · refine conv_at xs (fun i hi => ?_)
    have := h.cells (g := g) rfl i (.int .u8 (xs[i])) (by simp [List.getElem?_eq_getElem hi])
    rw [show (⟨g, 0, none⟩ : Addr).add i = ⟨g, i, none⟩ by unfold Addr.add; split <;> simp_all] at this
    rw [this]
    simp [List.getElem?_eq_getElem hi]

set_option maxRecDepth 100000 in
set_option maxHeartbeats 4000000 in
theorem put_one (n : Int) (w : World) (h0 : 0 ≤ n) (h1 : n ≤ 240) :
    Calls Tryd.prog 30 #[.int .u64 n] w fun e w' => e = .returned (.string (strOfNums [n])) ∧ Below w.heap.size w w' := by
  have hc := conv_new w [n] 1
  simp only [List.map_cons, List.map_nil, List.length_cons, List.length_nil, Nat.zero_add] at hc
  go_enter Tryd.func30, Tryd.ntmps30
  go_wp2_with fail
  go_ret
  exact ⟨rfl, (Below.refl _ w).alloc (Nat.le_refl _) _⟩
set_option maxRecDepth 100000 in
set_option maxHeartbeats 4000000 in
theorem put_two (n : Int) (w : World) (h0 : 240 < n) (h1 : n ≤ 2287) :
    Calls Tryd.prog 30 #[.int .u64 n] w fun e w' => e = .returned (.string (strOfNums [241 + (n - 240) / 256, (n - 240) % 256])) ∧ Below w.heap.size w w' := by
  have hc := conv_new w [241 + (n - 240) / 256, (n - 240) % 256] 2
  simp only [List.map_cons, List.map_nil, List.length_cons, List.length_nil, Nat.zero_add] at hc
  go_enter Tryd.func30, Tryd.ntmps30
  go_wp2_with fail
  go_ret
  exact ⟨rfl, (Below.refl _ w).alloc (Nat.le_refl _) _⟩
set_option maxRecDepth 100000 in
set_option maxHeartbeats 4000000 in
theorem put_three (n : Int) (w : World) (h0 : 2287 < n) (h1 : n ≤ 67823) :
    Calls Tryd.prog 30 #[.int .u64 n] w fun e w' => e = .returned (.string (strOfNums [249, (n - 2288) / 256, (n - 2288) % 256])) ∧ Below w.heap.size w w' := by
  have hc := conv_new w [249, (n - 2288) / 256, (n - 2288) % 256] 3
  simp only [List.map_cons, List.map_nil, List.length_cons, List.length_nil, Nat.zero_add] at hc
  go_enter Tryd.func30, Tryd.ntmps30
  go_wp2_with fail
  go_ret
  exact ⟨rfl, (Below.refl _ w).alloc (Nat.le_refl _) _⟩
theorem bitLen_ge : ∀ n : Fin 256, n.val = 0 ∨ 1 ≤ Lib.bitLen n.val := by decide +kernel
theorem bitLen_pos8 (n : Nat) (h0 : 1 ≤ n) (h1 : n ≤ 255) : 1 ≤ Lib.bitLen n ∧ Lib.bitLen n ≤ 8 := by
  have h2 := bitLen_ge ⟨n, by omega⟩
  have h3 := Lib.bitLen_le8 ⟨n, by omega⟩
  dsimp only at h2 h3
  omega
theorem owns_new {W : World} {b : Nat} {x : Int} (h : W.heap[b]? = some (.cells #[.int .u8 x] 5 (0, 0))) : W.ownsRow b 5 1 (.slice (some ⟨b, 0, none⟩) 1 1) 1 ([x].map (Value.int .u8)) :=
  ⟨rfl, .inr ⟨b, 1, _, rfl, Nat.le_refl _, h, Nat.le_refl _, by unfold maxLen; omega, rfl, rfl⟩⟩
theorem owns_go8 {A B : World} {base e size n : Nat} {v : Value} {xs : List Value} (h : A.ownsRow base e size v n xs) (hb : Below A.heap.size A B) : B.ownsRow base e size v n xs :=
  ⟨h.1, h.2.imp id (fun ⟨g, cap, cur, h1, h2, h3, h4⟩ => ⟨g, cap, cur, h1, h2, known hb (Nat.le_refl _) h3, h4⟩)⟩
theorem slAt_new {W : World} {b : Nat} {x y z : Value} {t : TypeId} (h : W.heap[b]? = some (.cells #[x, y, z] t (0, 0))) : SlAt W.heap.size W (.slice (some ⟨b, 0, none⟩) 3 3) 3 [x, y, z] :=
  .inr ⟨b, 0, 3, rfl, (Array.getElem?_eq_some_iff.1 h).1, fun i _ => by rw [cell_of_cells h, Nat.zero_add]; simp⟩
attribute [-go_sem] Builtin.append_
set_option maxRecDepth 100000 in
set_option maxHeartbeats 4000000 in
theorem put_big3 (n : Int) (w : World) (h0 : 67824 ≤ n) (h1 : n ≤ 16777215) :
    Calls Tryd.prog 30 #[.int .u64 n] w fun e w' => e = .returned (.string (strOfNums [250, n / 65536, n / 256 % 256, n % 256])) ∧ Below w.heap.size w w' := by
  have hL : 17 ≤ Lib.bitLen n.toNat ∧ Lib.bitLen n.toNat ≤ 24 := by
    rw [Lib.bitLen_shift16 n.toNat (by omega) (by omega)]
    have h2 := bitLen_pos8 (n.toNat / 65536) (by omega) (by omega)
    omega
  have hcall := Tryd.bits_Len64 n w (by omega) (by omega)
  generalize Lib.bitLen n.toNat = L at hL hcall
  have hq : ((L : Int) + 7) / 8 = 3 := by omega
  obtain ⟨W0, hW0, hX0, hB0, hz0⟩ := boxes1 w #[.int .u8 250] 5
  replace hz0 : w.heap.size < W0.heap.size := by omega
  have hown0 : W0.ownsRow w.heap.size 5 1 (.slice (some ⟨w.heap.size, 0, none⟩) 1 1) 1 ([250].map (Value.int .u8)) := owns_new hX0
  obtain ⟨V, hV, hXV, hBV, hzV⟩ := boxes1 W0 #[.int .u8 (n / 65536), .int .u8 (n / 256 % 256), .int .u8 (n % 256)] 5
  replace hzV : W0.heap.size < V.heap.size := by omega
  have hownV := owns_go8 hown0 hBV
  obtain ⟨v9, W9, hap9, hown9, hB9, hz9, -, -⟩ := append_list Tryd.prog 53 und_bytes info_byte rfl (by decide) hownV (hB0.trans (hBV.mono (by omega))) (Nat.le_refl _) (by omega) (slAt_new hXV) rfl (by simp [Value.oneCell']) (by omega) (by omega) (by decide)
  have hcv := conv_own [250, n / 65536, n / 256 % 256, n % 256] rfl (by simp) hown9
  clear hown9 hownV hXV hX0 hown0
  go_enter Tryd.func30, Tryd.ntmps30
  go_wp2_with (go_at_call 43; refine hcall.mono ?_; rintro e w' ⟨rfl, rfl⟩)
  go_ret
  exact ⟨rfl, hB9⟩
set_option maxRecDepth 100000 in
set_option maxHeartbeats 4000000 in
theorem put_big4 (n : Int) (w : World) (h0 : 16777216 ≤ n) (h1 : n ≤ 4294967295) :
    Calls Tryd.prog 30 #[.int .u64 n] w fun e w' => e = .returned (.string (strOfNums [251, n / 16777216, n / 65536 % 256, n / 256 % 256, n % 256])) ∧ Below w.heap.size w w' := by
  have hL : 25 ≤ Lib.bitLen n.toNat ∧ Lib.bitLen n.toNat ≤ 32 := by
    rw [Lib.bitLen_shift24 n.toNat (by omega) (by omega)]
    have h2 := bitLen_pos8 (n.toNat / 16777216) (by omega) (by omega)
    omega
  have hcall := Tryd.bits_Len64 n w (by omega) (by omega)
  generalize Lib.bitLen n.toNat = L at hL hcall
  have hq : ((L : Int) + 7) / 8 = 4 := by omega
  obtain ⟨W0, hW0, hX0, hB0, hz0⟩ := boxes1 w #[.int .u8 251] 5
  replace hz0 : w.heap.size < W0.heap.size := by omega
  have hown0 : W0.ownsRow w.heap.size 5 1 (.slice (some ⟨w.heap.size, 0, none⟩) 1 1) 1 ([251].map (Value.int .u8)) := owns_new hX0
  obtain ⟨g1, c1, W1, hap1, hown1, hB1, hz1, -, -⟩ := append_one Tryd.prog 53 und_bytes info_byte rfl (by decide) (W := W0) hown0 hB0 (Nat.le_refl _) (by omega) [.int .u8 (n / 16777216)] rfl (by simp [Value.oneCell']) (by omega) (by decide)
  rw [show ([251].map (Value.int .u8)) ++ [Value.int .u8 (n / 16777216)] = [251, n / 16777216].map (Value.int .u8) from rfl] at hown1
  obtain ⟨V, hV, hXV, hBV, hzV⟩ := boxes1 W1 #[.int .u8 (n / 65536 % 256), .int .u8 (n / 256 % 256), .int .u8 (n % 256)] 5
  replace hzV : W1.heap.size < V.heap.size := by omega
  have hownV := owns_go8 hown1 hBV
  obtain ⟨v9, W9, hap9, hown9, hB9, hz9, -, -⟩ := append_list Tryd.prog 53 und_bytes info_byte rfl (by decide) hownV (hB1.trans (hBV.mono (by omega))) (Nat.le_refl _) (by omega) (slAt_new hXV) rfl (by simp [Value.oneCell']) (by omega) (by omega) (by decide)
  have hcv := conv_own [251, n / 16777216, n / 65536 % 256, n / 256 % 256, n % 256] rfl (by simp) hown9
  clear hown9 hownV hXV hX0 hown0
  go_enter Tryd.func30, Tryd.ntmps30
  go_wp2_with (go_at_call 43; refine hcall.mono ?_; rintro e w' ⟨rfl, rfl⟩)
  go_ret
  exact ⟨rfl, hB9⟩
set_option maxRecDepth 100000 in
set_option maxHeartbeats 4000000 in
theorem put_big5 (n : Int) (w : World) (h0 : 4294967296 ≤ n) (h1 : n ≤ 1099511627775) :
    Calls Tryd.prog 30 #[.int .u64 n] w fun e w' => e = .returned (.string (strOfNums [252, n / 4294967296, n / 16777216 % 256, n / 65536 % 256, n / 256 % 256, n % 256])) ∧ Below w.heap.size w w' := by
  have hL : 33 ≤ Lib.bitLen n.toNat ∧ Lib.bitLen n.toNat ≤ 40 := by
    rw [Lib.bitLen_shift32 n.toNat (by omega) (by omega)]
    have h2 := bitLen_pos8 (n.toNat / 4294967296) (by omega) (by omega)
    omega
  have hcall := Tryd.bits_Len64 n w (by omega) (by omega)
  generalize Lib.bitLen n.toNat = L at hL hcall
  have hq : ((L : Int) + 7) / 8 = 5 := by omega
  obtain ⟨W0, hW0, hX0, hB0, hz0⟩ := boxes1 w #[.int .u8 252] 5
  replace hz0 : w.heap.size < W0.heap.size := by omega
  have hown0 : W0.ownsRow w.heap.size 5 1 (.slice (some ⟨w.heap.size, 0, none⟩) 1 1) 1 ([252].map (Value.int .u8)) := owns_new hX0
  obtain ⟨g1, c1, W1, hap1, hown1, hB1, hz1, -, -⟩ := append_one Tryd.prog 53 und_bytes info_byte rfl (by decide) (W := W0) hown0 hB0 (Nat.le_refl _) (by omega) [.int .u8 (n / 4294967296)] rfl (by simp [Value.oneCell']) (by omega) (by decide)
  rw [show ([252].map (Value.int .u8)) ++ [Value.int .u8 (n / 4294967296)] = [252, n / 4294967296].map (Value.int .u8) from rfl] at hown1
  obtain ⟨g2, c2, W2, hap2, hown2, hB2, hz2, -, -⟩ := append_one Tryd.prog 53 und_bytes info_byte rfl (by decide) (W := W1) hown1 hB1 (Nat.le_refl _) (by omega) [.int .u8 (n / 16777216 % 256)] rfl (by simp [Value.oneCell']) (by omega) (by decide)
  rw [show ([252, n / 4294967296].map (Value.int .u8)) ++ [Value.int .u8 (n / 16777216 % 256)] = [252, n / 4294967296, n / 16777216 % 256].map (Value.int .u8) from rfl] at hown2
  obtain ⟨V, hV, hXV, hBV, hzV⟩ := boxes1 W2 #[.int .u8 (n / 65536 % 256), .int .u8 (n / 256 % 256), .int .u8 (n % 256)] 5
  replace hzV : W2.heap.size < V.heap.size := by omega
  have hownV := owns_go8 hown2 hBV
  obtain ⟨v9, W9, hap9, hown9, hB9, hz9, -, -⟩ := append_list Tryd.prog 53 und_bytes info_byte rfl (by decide) hownV (hB2.trans (hBV.mono (by omega))) (Nat.le_refl _) (by omega) (slAt_new hXV) rfl (by simp [Value.oneCell']) (by omega) (by omega) (by decide)
  have hcv := conv_own [252, n / 4294967296, n / 16777216 % 256, n / 65536 % 256, n / 256 % 256, n % 256] rfl (by simp) hown9
  clear hown9 hownV hXV hX0 hown0
  go_enter Tryd.func30, Tryd.ntmps30
  go_wp2_with (go_at_call 43; refine hcall.mono ?_; rintro e w' ⟨rfl, rfl⟩)
  go_ret
  exact ⟨rfl, hB9⟩
set_option maxRecDepth 100000 in
set_option maxHeartbeats 4000000 in
theorem put_big6 (n : Int) (w : World) (h0 : 1099511627776 ≤ n) (h1 : n ≤ 281474976710655) :
    Calls Tryd.prog 30 #[.int .u64 n] w fun e w' => e = .returned (.string (strOfNums [253, n / 1099511627776, n / 4294967296 % 256, n / 16777216 % 256, n / 65536 % 256, n / 256 % 256, n % 256])) ∧ Below w.heap.size w w' := by
  have hL : 41 ≤ Lib.bitLen n.toNat ∧ Lib.bitLen n.toNat ≤ 48 := by
    rw [Lib.bitLen_shift40 n.toNat (by omega) (by omega)]
    have h2 := bitLen_pos8 (n.toNat / 1099511627776) (by omega) (by omega)
    omega
  have hcall := Tryd.bits_Len64 n w (by omega) (by omega)
  generalize Lib.bitLen n.toNat = L at hL hcall
  have hq : ((L : Int) + 7) / 8 = 6 := by omega
  obtain ⟨W0, hW0, hX0, hB0, hz0⟩ := boxes1 w #[.int .u8 253] 5
  replace hz0 : w.heap.size < W0.heap.size := by omega
  have hown0 : W0.ownsRow w.heap.size 5 1 (.slice (some ⟨w.heap.size, 0, none⟩) 1 1) 1 ([253].map (Value.int .u8)) := owns_new hX0
  obtain ⟨g1, c1, W1, hap1, hown1, hB1, hz1, -, -⟩ := append_one Tryd.prog 53 und_bytes info_byte rfl (by decide) (W := W0) hown0 hB0 (Nat.le_refl _) (by omega) [.int .u8 (n / 1099511627776)] rfl (by simp [Value.oneCell']) (by omega) (by decide)
  rw [show ([253].map (Value.int .u8)) ++ [Value.int .u8 (n / 1099511627776)] = [253, n / 1099511627776].map (Value.int .u8) from rfl] at hown1
  obtain ⟨g2, c2, W2, hap2, hown2, hB2, hz2, -, -⟩ := append_one Tryd.prog 53 und_bytes info_byte rfl (by decide) (W := W1) hown1 hB1 (Nat.le_refl _) (by omega) [.int .u8 (n / 4294967296 % 256)] rfl (by simp [Value.oneCell']) (by omega) (by decide)
  rw [show ([253, n / 1099511627776].map (Value.int .u8)) ++ [Value.int .u8 (n / 4294967296 % 256)] = [253, n / 1099511627776, n / 4294967296 % 256].map (Value.int .u8) from rfl] at hown2
  obtain ⟨g3, c3, W3, hap3, hown3, hB3, hz3, -, -⟩ := append_one Tryd.prog 53 und_bytes info_byte rfl (by decide) (W := W2) hown2 hB2 (Nat.le_refl _) (by omega) [.int .u8 (n / 16777216 % 256)] rfl (by simp [Value.oneCell']) (by omega) (by decide)
  rw [show ([253, n / 1099511627776, n / 4294967296 % 256].map (Value.int .u8)) ++ [Value.int .u8 (n / 16777216 % 256)] = [253, n / 1099511627776, n / 4294967296 % 256, n / 16777216 % 256].map (Value.int .u8) from rfl] at hown3
  obtain ⟨V, hV, hXV, hBV, hzV⟩ := boxes1 W3 #[.int .u8 (n / 65536 % 256), .int .u8 (n / 256 % 256), .int .u8 (n % 256)] 5
  replace hzV : W3.heap.size < V.heap.size := by omega
  have hownV := owns_go8 hown3 hBV
  obtain ⟨v9, W9, hap9, hown9, hB9, hz9, -, -⟩ := append_list Tryd.prog 53 und_bytes info_byte rfl (by decide) hownV (hB3.trans (hBV.mono (by omega))) (Nat.le_refl _) (by omega) (slAt_new hXV) rfl (by simp [Value.oneCell']) (by omega) (by omega) (by decide)
  have hcv := conv_own [253, n / 1099511627776, n / 4294967296 % 256, n / 16777216 % 256, n / 65536 % 256, n / 256 % 256, n % 256] rfl (by simp) hown9
  clear hown9 hownV hXV hX0 hown0
  go_enter Tryd.func30, Tryd.ntmps30
  go_wp2_with (go_at_call 43; refine hcall.mono ?_; rintro e w' ⟨rfl, rfl⟩)
  go_ret
  exact ⟨rfl, hB9⟩
set_option maxRecDepth 100000 in
set_option maxHeartbeats 4000000 in
theorem put_big7 (n : Int) (w : World) (h0 : 281474976710656 ≤ n) (h1 : n ≤ 72057594037927935) :
    Calls Tryd.prog 30 #[.int .u64 n] w fun e w' => e = .returned (.string (strOfNums [254, n / 281474976710656, n / 1099511627776 % 256, n / 4294967296 % 256, n / 16777216 % 256, n / 65536 % 256, n / 256 % 256, n % 256])) ∧ Below w.heap.size w w' := by
  have hL : 49 ≤ Lib.bitLen n.toNat ∧ Lib.bitLen n.toNat ≤ 56 := by
    rw [Lib.bitLen_shift48 n.toNat (by omega) (by omega)]
    have h2 := bitLen_pos8 (n.toNat / 281474976710656) (by omega) (by omega)
    omega
  have hcall := Tryd.bits_Len64 n w (by omega) (by omega)
  generalize Lib.bitLen n.toNat = L at hL hcall
  have hq : ((L : Int) + 7) / 8 = 7 := by omega
  obtain ⟨W0, hW0, hX0, hB0, hz0⟩ := boxes1 w #[.int .u8 254] 5
  replace hz0 : w.heap.size < W0.heap.size := by omega
  have hown0 : W0.ownsRow w.heap.size 5 1 (.slice (some ⟨w.heap.size, 0, none⟩) 1 1) 1 ([254].map (Value.int .u8)) := owns_new hX0
  obtain ⟨g1, c1, W1, hap1, hown1, hB1, hz1, -, -⟩ := append_one Tryd.prog 53 und_bytes info_byte rfl (by decide) (W := W0) hown0 hB0 (Nat.le_refl _) (by omega) [.int .u8 (n / 281474976710656)] rfl (by simp [Value.oneCell']) (by omega) (by decide)
  rw [show ([254].map (Value.int .u8)) ++ [Value.int .u8 (n / 281474976710656)] = [254, n / 281474976710656].map (Value.int .u8) from rfl] at hown1
  obtain ⟨g2, c2, W2, hap2, hown2, hB2, hz2, -, -⟩ := append_one Tryd.prog 53 und_bytes info_byte rfl (by decide) (W := W1) hown1 hB1 (Nat.le_refl _) (by omega) [.int .u8 (n / 1099511627776 % 256)] rfl (by simp [Value.oneCell']) (by omega) (by decide)
  rw [show ([254, n / 281474976710656].map (Value.int .u8)) ++ [Value.int .u8 (n / 1099511627776 % 256)] = [254, n / 281474976710656, n / 1099511627776 % 256].map (Value.int .u8) from rfl] at hown2
  obtain ⟨g3, c3, W3, hap3, hown3, hB3, hz3, -, -⟩ := append_one Tryd.prog 53 und_bytes info_byte rfl (by decide) (W := W2) hown2 hB2 (Nat.le_refl _) (by omega) [.int .u8 (n / 4294967296 % 256)] rfl (by simp [Value.oneCell']) (by omega) (by decide)
  rw [show ([254, n / 281474976710656, n / 1099511627776 % 256].map (Value.int .u8)) ++ [Value.int .u8 (n / 4294967296 % 256)] = [254, n / 281474976710656, n / 1099511627776 % 256, n / 4294967296 % 256].map (Value.int .u8) from rfl] at hown3
  obtain ⟨g4, c4, W4, hap4, hown4, hB4, hz4, -, -⟩ := append_one Tryd.prog 53 und_bytes info_byte rfl (by decide) (W := W3) hown3 hB3 (Nat.le_refl _) (by omega) [.int .u8 (n / 16777216 % 256)] rfl (by simp [Value.oneCell']) (by omega) (by decide)
  rw [show ([254, n / 281474976710656, n / 1099511627776 % 256, n / 4294967296 % 256].map (Value.int .u8)) ++ [Value.int .u8 (n / 16777216 % 256)] = [254, n / 281474976710656, n / 1099511627776 % 256, n / 4294967296 % 256, n / 16777216 % 256].map (Value.int .u8) from rfl] at hown4
  obtain ⟨V, hV, hXV, hBV, hzV⟩ := boxes1 W4 #[.int .u8 (n / 65536 % 256), .int .u8 (n / 256 % 256), .int .u8 (n % 256)] 5
  replace hzV : W4.heap.size < V.heap.size := by omega
  have hownV := owns_go8 hown4 hBV
  obtain ⟨v9, W9, hap9, hown9, hB9, hz9, -, -⟩ := append_list Tryd.prog 53 und_bytes info_byte rfl (by decide) hownV (hB4.trans (hBV.mono (by omega))) (Nat.le_refl _) (by omega) (slAt_new hXV) rfl (by simp [Value.oneCell']) (by omega) (by omega) (by decide)
  have hcv := conv_own [254, n / 281474976710656, n / 1099511627776 % 256, n / 4294967296 % 256, n / 16777216 % 256, n / 65536 % 256, n / 256 % 256, n % 256] rfl (by simp) hown9
  clear hown9 hownV hXV hX0 hown0
  go_enter Tryd.func30, Tryd.ntmps30
  go_wp2_with (go_at_call 43; refine hcall.mono ?_; rintro e w' ⟨rfl, rfl⟩)
  go_ret
  exact ⟨rfl, hB9⟩
set_option maxRecDepth 100000 in
set_option maxHeartbeats 4000000 in
theorem put_big8 (n : Int) (w : World) (h0 : 72057594037927936 ≤ n) (h1 : n ≤ 18446744073709551615) :
    Calls Tryd.prog 30 #[.int .u64 n] w fun e w' => e = .returned (.string (strOfNums [255, n / 72057594037927936, n / 281474976710656 % 256, n / 1099511627776 % 256, n / 4294967296 % 256, n / 16777216 % 256, n / 65536 % 256, n / 256 % 256, n % 256])) ∧ Below w.heap.size w w' := by
  have hL : 57 ≤ Lib.bitLen n.toNat ∧ Lib.bitLen n.toNat ≤ 64 := by
    rw [Lib.bitLen_shift56 n.toNat (by omega) (by omega)]
    have h2 := bitLen_pos8 (n.toNat / 72057594037927936) (by omega) (by omega)
    omega
  have hcall := Tryd.bits_Len64 n w (by omega) (by omega)
  generalize Lib.bitLen n.toNat = L at hL hcall
  have hq : ((L : Int) + 7) / 8 = 8 := by omega
  obtain ⟨W0, hW0, hX0, hB0, hz0⟩ := boxes1 w #[.int .u8 255] 5
  replace hz0 : w.heap.size < W0.heap.size := by omega
  have hown0 : W0.ownsRow w.heap.size 5 1 (.slice (some ⟨w.heap.size, 0, none⟩) 1 1) 1 ([255].map (Value.int .u8)) := owns_new hX0
  obtain ⟨g1, c1, W1, hap1, hown1, hB1, hz1, -, -⟩ := append_one Tryd.prog 53 und_bytes info_byte rfl (by decide) (W := W0) hown0 hB0 (Nat.le_refl _) (by omega) [.int .u8 (n / 72057594037927936)] rfl (by simp [Value.oneCell']) (by omega) (by decide)
  rw [show ([255].map (Value.int .u8)) ++ [Value.int .u8 (n / 72057594037927936)] = [255, n / 72057594037927936].map (Value.int .u8) from rfl] at hown1
  obtain ⟨g2, c2, W2, hap2, hown2, hB2, hz2, -, -⟩ := append_one Tryd.prog 53 und_bytes info_byte rfl (by decide) (W := W1) hown1 hB1 (Nat.le_refl _) (by omega) [.int .u8 (n / 281474976710656 % 256)] rfl (by simp [Value.oneCell']) (by omega) (by decide)
  rw [show ([255, n / 72057594037927936].map (Value.int .u8)) ++ [Value.int .u8 (n / 281474976710656 % 256)] = [255, n / 72057594037927936, n / 281474976710656 % 256].map (Value.int .u8) from rfl] at hown2
  obtain ⟨g3, c3, W3, hap3, hown3, hB3, hz3, -, -⟩ := append_one Tryd.prog 53 und_bytes info_byte rfl (by decide) (W := W2) hown2 hB2 (Nat.le_refl _) (by omega) [.int .u8 (n / 1099511627776 % 256)] rfl (by simp [Value.oneCell']) (by omega) (by decide)
  rw [show ([255, n / 72057594037927936, n / 281474976710656 % 256].map (Value.int .u8)) ++ [Value.int .u8 (n / 1099511627776 % 256)] = [255, n / 72057594037927936, n / 281474976710656 % 256, n / 1099511627776 % 256].map (Value.int .u8) from rfl] at hown3
  obtain ⟨g4, c4, W4, hap4, hown4, hB4, hz4, -, -⟩ := append_one Tryd.prog 53 und_bytes info_byte rfl (by decide) (W := W3) hown3 hB3 (Nat.le_refl _) (by omega) [.int .u8 (n / 4294967296 % 256)] rfl (by simp [Value.oneCell']) (by omega) (by decide)
  rw [show ([255, n / 72057594037927936, n / 281474976710656 % 256, n / 1099511627776 % 256].map (Value.int .u8)) ++ [Value.int .u8 (n / 4294967296 % 256)] = [255, n / 72057594037927936, n / 281474976710656 % 256, n / 1099511627776 % 256, n / 4294967296 % 256].map (Value.int .u8) from rfl] at hown4
  obtain ⟨g5, c5, W5, hap5, hown5, hB5, hz5, -, -⟩ := append_one Tryd.prog 53 und_bytes info_byte rfl (by decide) (W := W4) hown4 hB4 (Nat.le_refl _) (by omega) [.int .u8 (n / 16777216 % 256)] rfl (by simp [Value.oneCell']) (by omega) (by decide)
  rw [show ([255, n / 72057594037927936, n / 281474976710656 % 256, n / 1099511627776 % 256, n / 4294967296 % 256].map (Value.int .u8)) ++ [Value.int .u8 (n / 16777216 % 256)] = [255, n / 72057594037927936, n / 281474976710656 % 256, n / 1099511627776 % 256, n / 4294967296 % 256, n / 16777216 % 256].map (Value.int .u8) from rfl] at hown5
  obtain ⟨V, hV, hXV, hBV, hzV⟩ := boxes1 W5 #[.int .u8 (n / 65536 % 256), .int .u8 (n / 256 % 256), .int .u8 (n % 256)] 5
  replace hzV : W5.heap.size < V.heap.size := by omega
  have hownV := owns_go8 hown5 hBV
  obtain ⟨v9, W9, hap9, hown9, hB9, hz9, -, -⟩ := append_list Tryd.prog 53 und_bytes info_byte rfl (by decide) hownV (hB5.trans (hBV.mono (by omega))) (Nat.le_refl _) (by omega) (slAt_new hXV) rfl (by simp [Value.oneCell']) (by omega) (by omega) (by decide)
  have hcv := conv_own [255, n / 72057594037927936, n / 281474976710656 % 256, n / 1099511627776 % 256, n / 4294967296 % 256, n / 16777216 % 256, n / 65536 % 256, n / 256 % 256, n % 256] rfl (by simp) hown9
  clear hown9 hownV hXV hX0 hown0
  go_enter Tryd.func30, Tryd.ntmps30
  go_wp2_with (go_at_call 43; refine hcall.mono ?_; rintro e w' ⟨rfl, rfl⟩)
  go_ret
  exact ⟨rfl, hB9⟩
/-- A number's bytes. -/
def putNums (n : Int) : List Int :=
  if n ≤ 240 then [n] else if n ≤ 2287 then [241 + (n - 240) / 256, (n - 240) % 256] else if n ≤ 67823 then [249, (n - 2288) / 256, (n - 2288) % 256]
  else if n ≤ 16777215 then [250, n / 65536, n / 256 % 256, n % 256]
  else if n ≤ 4294967295 then [251, n / 16777216, n / 65536 % 256, n / 256 % 256, n % 256]
  else if n ≤ 1099511627775 then [252, n / 4294967296, n / 16777216 % 256, n / 65536 % 256, n / 256 % 256, n % 256]
  else if n ≤ 281474976710655 then [253, n / 1099511627776, n / 4294967296 % 256, n / 16777216 % 256, n / 65536 % 256, n / 256 % 256, n % 256]
  else if n ≤ 72057594037927935 then [254, n / 281474976710656, n / 1099511627776 % 256, n / 4294967296 % 256, n / 16777216 % 256, n / 65536 % 256, n / 256 % 256, n % 256]
  else [255, n / 72057594037927936, n / 281474976710656 % 256, n / 1099511627776 % 256, n / 4294967296 % 256, n / 16777216 % 256, n / 65536 % 256, n / 256 % 256, n % 256]
theorem field_Put_any (n : Int) (w : World) (h : U64 n) :
    Calls Tryd.prog 30 #[.int .u64 n] w fun e w' => e = .returned (.string (strOfNums (putNums n))) ∧ Below w.heap.size w w' := by
  obtain ⟨h0, h1⟩ := h
  unfold putNums
  by_cases c0 : n ≤ 240
  · rw [if_pos c0]; exact put_one n w h0 c0
  rw [if_neg c0]
  by_cases c1 : n ≤ 2287
  · rw [if_pos c1]; exact put_two n w (by omega) c1
  rw [if_neg c1]
  by_cases c2 : n ≤ 67823
  · rw [if_pos c2]; exact put_three n w (by omega) c2
  rw [if_neg c2]
  by_cases c3 : n ≤ 16777215
  · rw [if_pos c3]; exact put_big3 n w (by omega) c3
  rw [if_neg c3]
  by_cases c4 : n ≤ 4294967295
  · rw [if_pos c4]; exact put_big4 n w (by omega) c4
  rw [if_neg c4]
  by_cases c5 : n ≤ 1099511627775
  · rw [if_pos c5]; exact put_big5 n w (by omega) c5
  rw [if_neg c5]
  by_cases c6 : n ≤ 281474976710655
  · rw [if_pos c6]; exact put_big6 n w (by omega) c6
  rw [if_neg c6]
  by_cases c7 : n ≤ 72057594037927935
  · rw [if_pos c7]; exact put_big7 n w (by omega) c7
  rw [if_neg c7]
  exact put_big8 n w (by omega) (by omega)
end Go.Proofs.YtjpnbkdhmjgdgaaDoor

/- Package field: Put: printed by wip/tools/gen_y1.py. Bytes of numbers, one behind the other: plain. Package wire: the writer in memory; strings.Builder in it. (Began as Y2, by a program.) Numbers read from bytes: plain words, of no program. A log as plain data: entries and their sums, which logs are right, what an append does. What sums bytes is left open. No program in sight. -/
import Derived.Laws.BytesArg
import Derived.Test.YtpklkhgnjbopnaaGreatDoorVL6
namespace Go.Proofs.YtpklkhgnjbopnaaGreatDoor
open Go Go.RowKit
theorem und_u8 : Tryz.prog.underlying 5 = some (.int .u8) := by kernel_rfl
theorem und_string : Tryz.prog.underlying 9 = some .string := by kernel_rfl
theorem conv_at {w : World} {g cap : Nat} (xs : List Int) (h : ∀ i, i < xs.length → w.cell? ⟨g, i, none⟩ = some (.int .u8 (xs.getD i 0))) :
  (convert 84 9 (.slice (some ⟨g, 0, none⟩) xs.length cap)).run Tryz.prog w = .ok (.string (strOfNums xs)) w :=
 run_convert_bytes_arg w _ _ und_bytes und_u8 g 0 xs.length cap xs rfl (fun i hi => by rw [Nat.zero_add]; exact h i hi) _ und_string
theorem conv_new (w : World) (xs : List Int) (c : Nat) :
  (convert 84 9 (.slice (some ⟨w.heap.size, 0, none⟩) xs.length c)).run Tryz.prog (w.alloc (.cells (xs.map (Value.int .u8)).toArray 5)) = .ok (.string (strOfNums xs)) (w.alloc (.cells (xs.map (Value.int .u8)).toArray 5)) :=
 conv_at xs (fun i hi => by
  rw [cCc (World.alloc_heap_new w _)]
  simp [List.getElem?_eq_getElem hi])
theorem conv_own {w : World} {base n : Nat} {v : Value} (xs : List Int) (hn : n = xs.length) (hp : 0 < n) (h : w.ownsRow base 5 1 v n (xs.map (Value.int .u8))) :
  (convert 84 9 v).run Tryz.prog w = .ok (.string (strOfNums xs)) w := by
 subst hn
 rcases h.2 with ⟨rfl, h0⟩ | ⟨g, cap, cur, rfl, _, hg, _⟩
 ·omega
 ·refine conv_at xs (fun i hi => ?_)
  have := h.cells (g := g) rfl i (.int .u8 (xs[i])) (by simp [List.getElem?_eq_getElem hi])
  rw [show (⟨g, 0, none⟩ : Addr).add i = ⟨g, i, none⟩ by unfold Addr.add; split <;> simp_all] at this
  rw [this]
  simp [List.getElem?_eq_getElem hi]
set_option maxRecDepth 100000 in
set_option maxHeartbeats 4000000 in
theorem put_one (n : Int) (w : World) (h0 : 0 ≤ n) (h1 : n ≤ 240) :
  Calls Tryz.prog 50 #[.int .u64 n] w fun e w' => e = .returned (.string (strOfNums [n])) ∧ Below w.heap.size w w' := by
 have hc := conv_new w [n] 1
 simp only [List.map_cons, List.map_nil, List.length_cons, List.length_nil, Nat.zero_add] at hc
 go_enter Tryz.func50, Tryz.ntmps50
 go_wp2_with fail
 go_ret
 exact ⟨rfl, (Below.refl _ w).alloc (Nat.le_refl _) _⟩
set_option maxRecDepth 100000 in
set_option maxHeartbeats 4000000 in
theorem put_two (n : Int) (w : World) (h0 : 240 < n) (h1 : n ≤ 2287) :
  Calls Tryz.prog 50 #[.int .u64 n] w fun e w' => e = .returned (.string (strOfNums [241 + (n - 240) / 256, (n - 240) % 256])) ∧ Below w.heap.size w w' := by
 have hc := conv_new w [241 + (n - 240) / 256, (n - 240) % 256] 2
 simp only [List.map_cons, List.map_nil, List.length_cons, List.length_nil, Nat.zero_add] at hc
 go_enter Tryz.func50, Tryz.ntmps50
 go_wp2_with fail
 go_ret
 exact ⟨rfl, (Below.refl _ w).alloc (Nat.le_refl _) _⟩
set_option maxRecDepth 100000 in
set_option maxHeartbeats 4000000 in
theorem put_three (n : Int) (w : World) (h0 : 2287 < n) (h1 : n ≤ 67823) :
  Calls Tryz.prog 50 #[.int .u64 n] w fun e w' => e = .returned (.string (strOfNums [249, (n - 2288) / 256, (n - 2288) % 256])) ∧ Below w.heap.size w w' := by
 have hc := conv_new w [249, (n - 2288) / 256, (n - 2288) % 256] 3
 simp only [List.map_cons, List.map_nil, List.length_cons, List.length_nil, Nat.zero_add] at hc
 go_enter Tryz.func50, Tryz.ntmps50
 go_wp2_with fail
 go_ret
 exact ⟨rfl, (Below.refl _ w).alloc (Nat.le_refl _) _⟩
theorem bitLen_ge : ∀ n : Fin 256, n.val = 0 ∨ 1 ≤ Lib.bitLen n.val := by decide +kernel
theorem bitLen_pos8 (n : Nat) (h0 : 1 ≤ n) (h1 : n ≤ 255) : 1 ≤ Lib.bitLen n ∧ Lib.bitLen n ≤ 8 := by
 have h2 := bitLen_ge ⟨n, by omega⟩
 have h3 := Lib.bitLen_le8 ⟨n, by omega⟩
 dsimp only at h2 h3
 omega
theorem owns_new {W : World} {b : Nat} {x : Int} (h : W.heap[b]? = some (.cells #[.int .u8 x] 5 (0, 0))) : W.ownsRow b 5 1 (.slice (some ⟨b, 0, none⟩) 1 1) 1 ([x].map (Value.int .u8)) :=
 ⟨rfl, .inr ⟨b, 1, _, rfl, Nat.le_refl _, h, Nat.le_refl _, by unfold maxLen; omega, rfl, rfl⟩⟩
theorem owns_go8 {A B : World} {base e size n : Nat} {v : Value} {xs : List Value} (h : A.ownsRow base e size v n xs) (hb : Below A.heap.size A B) : B.ownsRow base e size v n xs :=
 ⟨h.1, h.2.imp id (fun ⟨g, cap, cur, h1, h2, h3, h4⟩ => ⟨g, cap, cur, h1, h2, known hb (Nat.le_refl _) h3, h4⟩)⟩
theorem slAt_new {W : World} {b : Nat} {x y z : Value} {t : TypeId} (h : W.heap[b]? = some (.cells #[x, y, z] t (0, 0))) : SlAt W.heap.size W (.slice (some ⟨b, 0, none⟩) 3 3) 3 [x, y, z] :=
 .inr ⟨b, 0, 3, rfl, (Array.getElem?_eq_some_iff.1 h).1, fun i _ => by rw [cCc h, Nat.zero_add]; simp⟩
attribute [-go_sem] Builtin.append_
set_option maxRecDepth 100000 in
set_option maxHeartbeats 4000000 in
theorem put_big3 (n : Int) (w : World) (h0 : 67824 ≤ n) (h1 : n ≤ 16777215) :
  Calls Tryz.prog 50 #[.int .u64 n] w fun e w' => e = .returned (.string (strOfNums [250, n / 65536, n / 256 % 256, n % 256])) ∧ Below w.heap.size w w' := by
 have hL : 17 ≤ Lib.bitLen n.toNat ∧ Lib.bitLen n.toNat ≤ 24 := by
  rw [Lib.bitLen_shift16 n.toNat (by omega) (by omega)]
  have h2 := bitLen_pos8 (n.toNat / 65536) (by omega) (by omega)
  omega
 have hcall := Tryz.bits_Len64 n w (by omega) (by omega)
 generalize Lib.bitLen n.toNat = L at hL hcall
 have hq : ((L : Int) + 7) / 8 = 3 := by omega
 obtain ⟨W0, hW0, hX0, hB0, hz0⟩ := boxes1 w #[.int .u8 250] 5
 replace hz0 : w.heap.size < W0.heap.size := by omega
 have hown0 : W0.ownsRow w.heap.size 5 1 (.slice (some ⟨w.heap.size, 0, none⟩) 1 1) 1 ([250].map (Value.int .u8)) := owns_new hX0
 obtain ⟨V, hV, hXV, hBV, hzV⟩ := boxes1 W0 #[.int .u8 (n / 65536), .int .u8 (n / 256 % 256), .int .u8 (n % 256)] 5
 replace hzV : W0.heap.size < V.heap.size := by omega
 have hownV := owns_go8 hown0 hBV
 obtain ⟨v9, W9, hap9, hown9, hB9, hz9, -, -⟩ := append_list Tryz.prog 84 und_bytes info_byte rfl (by decide) hownV (hB0.trans (hBV.mono (by omega))) (Nat.le_refl _) (by omega) (slAt_new hXV) rfl (by simp [Value.oneCell']) (by omega) (by omega) (by decide)
 have hcv := conv_own [250, n / 65536, n / 256 % 256, n % 256] rfl (by simp) hown9
 clear hown9 hownV hXV hX0 hown0
 go_enter Tryz.func50, Tryz.ntmps50
 go_wp2_with (go_at_call 87; refine hcall.mono ?_; rintro e w' ⟨rfl, rfl⟩)
 go_ret
 exact ⟨rfl, hB9⟩
set_option maxRecDepth 100000 in
set_option maxHeartbeats 4000000 in
theorem put_big4 (n : Int) (w : World) (h0 : 16777216 ≤ n) (h1 : n ≤ 4294967295) :
  Calls Tryz.prog 50 #[.int .u64 n] w fun e w' => e = .returned (.string (strOfNums [251, n / 16777216, n / 65536 % 256, n / 256 % 256, n % 256])) ∧ Below w.heap.size w w' := by
 have hL : 25 ≤ Lib.bitLen n.toNat ∧ Lib.bitLen n.toNat ≤ 32 := by
  rw [Lib.bitLen_shift24 n.toNat (by omega) (by omega)]
  have h2 := bitLen_pos8 (n.toNat / 16777216) (by omega) (by omega)
  omega
 have hcall := Tryz.bits_Len64 n w (by omega) (by omega)
 generalize Lib.bitLen n.toNat = L at hL hcall
 have hq : ((L : Int) + 7) / 8 = 4 := by omega
 obtain ⟨W0, hW0, hX0, hB0, hz0⟩ := boxes1 w #[.int .u8 251] 5
 replace hz0 : w.heap.size < W0.heap.size := by omega
 have hown0 : W0.ownsRow w.heap.size 5 1 (.slice (some ⟨w.heap.size, 0, none⟩) 1 1) 1 ([251].map (Value.int .u8)) := owns_new hX0
 obtain ⟨g1, c1, W1, hap1, hown1, hB1, hz1, -, -⟩ := append_one Tryz.prog 84 und_bytes info_byte rfl (by decide) (W := W0) hown0 hB0 (Nat.le_refl _) (by omega) [.int .u8 (n / 16777216)] rfl (by simp [Value.oneCell']) (by omega) (by decide)
 rw [show ([251].map (Value.int .u8)) ++ [Value.int .u8 (n / 16777216)] = [251, n / 16777216].map (Value.int .u8) from rfl] at hown1
 obtain ⟨V, hV, hXV, hBV, hzV⟩ := boxes1 W1 #[.int .u8 (n / 65536 % 256), .int .u8 (n / 256 % 256), .int .u8 (n % 256)] 5
 replace hzV : W1.heap.size < V.heap.size := by omega
 have hownV := owns_go8 hown1 hBV
 obtain ⟨v9, W9, hap9, hown9, hB9, hz9, -, -⟩ := append_list Tryz.prog 84 und_bytes info_byte rfl (by decide) hownV (hB1.trans (hBV.mono (by omega))) (Nat.le_refl _) (by omega) (slAt_new hXV) rfl (by simp [Value.oneCell']) (by omega) (by omega) (by decide)
 have hcv := conv_own [251, n / 16777216, n / 65536 % 256, n / 256 % 256, n % 256] rfl (by simp) hown9
 clear hown9 hownV hXV hX0 hown0
 go_enter Tryz.func50, Tryz.ntmps50
 go_wp2_with (go_at_call 87; refine hcall.mono ?_; rintro e w' ⟨rfl, rfl⟩)
 go_ret
 exact ⟨rfl, hB9⟩
set_option maxRecDepth 100000 in
set_option maxHeartbeats 4000000 in
theorem put_big5 (n : Int) (w : World) (h0 : 4294967296 ≤ n) (h1 : n ≤ 1099511627775) :
  Calls Tryz.prog 50 #[.int .u64 n] w fun e w' => e = .returned (.string (strOfNums [252, n / 4294967296, n / 16777216 % 256, n / 65536 % 256, n / 256 % 256, n % 256])) ∧ Below w.heap.size w w' := by
 have hL : 33 ≤ Lib.bitLen n.toNat ∧ Lib.bitLen n.toNat ≤ 40 := by
  rw [Lib.bitLen_shift32 n.toNat (by omega) (by omega)]
  have h2 := bitLen_pos8 (n.toNat / 4294967296) (by omega) (by omega)
  omega
 have hcall := Tryz.bits_Len64 n w (by omega) (by omega)
 generalize Lib.bitLen n.toNat = L at hL hcall
 have hq : ((L : Int) + 7) / 8 = 5 := by omega
 obtain ⟨W0, hW0, hX0, hB0, hz0⟩ := boxes1 w #[.int .u8 252] 5
 replace hz0 : w.heap.size < W0.heap.size := by omega
 have hown0 : W0.ownsRow w.heap.size 5 1 (.slice (some ⟨w.heap.size, 0, none⟩) 1 1) 1 ([252].map (Value.int .u8)) := owns_new hX0
 obtain ⟨g1, c1, W1, hap1, hown1, hB1, hz1, -, -⟩ := append_one Tryz.prog 84 und_bytes info_byte rfl (by decide) (W := W0) hown0 hB0 (Nat.le_refl _) (by omega) [.int .u8 (n / 4294967296)] rfl (by simp [Value.oneCell']) (by omega) (by decide)
 rw [show ([252].map (Value.int .u8)) ++ [Value.int .u8 (n / 4294967296)] = [252, n / 4294967296].map (Value.int .u8) from rfl] at hown1
 obtain ⟨g2, c2, W2, hap2, hown2, hB2, hz2, -, -⟩ := append_one Tryz.prog 84 und_bytes info_byte rfl (by decide) (W := W1) hown1 hB1 (Nat.le_refl _) (by omega) [.int .u8 (n / 16777216 % 256)] rfl (by simp [Value.oneCell']) (by omega) (by decide)
 rw [show ([252, n / 4294967296].map (Value.int .u8)) ++ [Value.int .u8 (n / 16777216 % 256)] = [252, n / 4294967296, n / 16777216 % 256].map (Value.int .u8) from rfl] at hown2
 obtain ⟨V, hV, hXV, hBV, hzV⟩ := boxes1 W2 #[.int .u8 (n / 65536 % 256), .int .u8 (n / 256 % 256), .int .u8 (n % 256)] 5
 replace hzV : W2.heap.size < V.heap.size := by omega
 have hownV := owns_go8 hown2 hBV
 obtain ⟨v9, W9, hap9, hown9, hB9, hz9, -, -⟩ := append_list Tryz.prog 84 und_bytes info_byte rfl (by decide) hownV (hB2.trans (hBV.mono (by omega))) (Nat.le_refl _) (by omega) (slAt_new hXV) rfl (by simp [Value.oneCell']) (by omega) (by omega) (by decide)
 have hcv := conv_own [252, n / 4294967296, n / 16777216 % 256, n / 65536 % 256, n / 256 % 256, n % 256] rfl (by simp) hown9
 clear hown9 hownV hXV hX0 hown0
 go_enter Tryz.func50, Tryz.ntmps50
 go_wp2_with (go_at_call 87; refine hcall.mono ?_; rintro e w' ⟨rfl, rfl⟩)
 go_ret
 exact ⟨rfl, hB9⟩
set_option maxRecDepth 100000 in
set_option maxHeartbeats 4000000 in
theorem put_big6 (n : Int) (w : World) (h0 : 1099511627776 ≤ n) (h1 : n ≤ 281474976710655) :
  Calls Tryz.prog 50 #[.int .u64 n] w fun e w' => e = .returned (.string (strOfNums [253, n / 1099511627776, n / 4294967296 % 256, n / 16777216 % 256, n / 65536 % 256, n / 256 % 256, n % 256])) ∧ Below w.heap.size w w' := by
 have hL : 41 ≤ Lib.bitLen n.toNat ∧ Lib.bitLen n.toNat ≤ 48 := by
  rw [Lib.bitLen_shift40 n.toNat (by omega) (by omega)]
  have h2 := bitLen_pos8 (n.toNat / 1099511627776) (by omega) (by omega)
  omega
 have hcall := Tryz.bits_Len64 n w (by omega) (by omega)
 generalize Lib.bitLen n.toNat = L at hL hcall
 have hq : ((L : Int) + 7) / 8 = 6 := by omega
 obtain ⟨W0, hW0, hX0, hB0, hz0⟩ := boxes1 w #[.int .u8 253] 5
 replace hz0 : w.heap.size < W0.heap.size := by omega
 have hown0 : W0.ownsRow w.heap.size 5 1 (.slice (some ⟨w.heap.size, 0, none⟩) 1 1) 1 ([253].map (Value.int .u8)) := owns_new hX0
 obtain ⟨g1, c1, W1, hap1, hown1, hB1, hz1, -, -⟩ := append_one Tryz.prog 84 und_bytes info_byte rfl (by decide) (W := W0) hown0 hB0 (Nat.le_refl _) (by omega) [.int .u8 (n / 1099511627776)] rfl (by simp [Value.oneCell']) (by omega) (by decide)
 rw [show ([253].map (Value.int .u8)) ++ [Value.int .u8 (n / 1099511627776)] = [253, n / 1099511627776].map (Value.int .u8) from rfl] at hown1
 obtain ⟨g2, c2, W2, hap2, hown2, hB2, hz2, -, -⟩ := append_one Tryz.prog 84 und_bytes info_byte rfl (by decide) (W := W1) hown1 hB1 (Nat.le_refl _) (by omega) [.int .u8 (n / 4294967296 % 256)] rfl (by simp [Value.oneCell']) (by omega) (by decide)
 rw [show ([253, n / 1099511627776].map (Value.int .u8)) ++ [Value.int .u8 (n / 4294967296 % 256)] = [253, n / 1099511627776, n / 4294967296 % 256].map (Value.int .u8) from rfl] at hown2
 obtain ⟨g3, c3, W3, hap3, hown3, hB3, hz3, -, -⟩ := append_one Tryz.prog 84 und_bytes info_byte rfl (by decide) (W := W2) hown2 hB2 (Nat.le_refl _) (by omega) [.int .u8 (n / 16777216 % 256)] rfl (by simp [Value.oneCell']) (by omega) (by decide)
 rw [show ([253, n / 1099511627776, n / 4294967296 % 256].map (Value.int .u8)) ++ [Value.int .u8 (n / 16777216 % 256)] = [253, n / 1099511627776, n / 4294967296 % 256, n / 16777216 % 256].map (Value.int .u8) from rfl] at hown3
 obtain ⟨V, hV, hXV, hBV, hzV⟩ := boxes1 W3 #[.int .u8 (n / 65536 % 256), .int .u8 (n / 256 % 256), .int .u8 (n % 256)] 5
 replace hzV : W3.heap.size < V.heap.size := by omega
 have hownV := owns_go8 hown3 hBV
 obtain ⟨v9, W9, hap9, hown9, hB9, hz9, -, -⟩ := append_list Tryz.prog 84 und_bytes info_byte rfl (by decide) hownV (hB3.trans (hBV.mono (by omega))) (Nat.le_refl _) (by omega) (slAt_new hXV) rfl (by simp [Value.oneCell']) (by omega) (by omega) (by decide)
 have hcv := conv_own [253, n / 1099511627776, n / 4294967296 % 256, n / 16777216 % 256, n / 65536 % 256, n / 256 % 256, n % 256] rfl (by simp) hown9
 clear hown9 hownV hXV hX0 hown0
 go_enter Tryz.func50, Tryz.ntmps50
 go_wp2_with (go_at_call 87; refine hcall.mono ?_; rintro e w' ⟨rfl, rfl⟩)
 go_ret
 exact ⟨rfl, hB9⟩
set_option maxRecDepth 100000 in
set_option maxHeartbeats 4000000 in
theorem put_big7 (n : Int) (w : World) (h0 : 281474976710656 ≤ n) (h1 : n ≤ 72057594037927935) :
  Calls Tryz.prog 50 #[.int .u64 n] w fun e w' => e = .returned (.string (strOfNums [254, n / 281474976710656, n / 1099511627776 % 256, n / 4294967296 % 256, n / 16777216 % 256, n / 65536 % 256, n / 256 % 256, n % 256])) ∧ Below w.heap.size w w' := by
 have hL : 49 ≤ Lib.bitLen n.toNat ∧ Lib.bitLen n.toNat ≤ 56 := by
  rw [Lib.bitLen_shift48 n.toNat (by omega) (by omega)]
  have h2 := bitLen_pos8 (n.toNat / 281474976710656) (by omega) (by omega)
  omega
 have hcall := Tryz.bits_Len64 n w (by omega) (by omega)
 generalize Lib.bitLen n.toNat = L at hL hcall
 have hq : ((L : Int) + 7) / 8 = 7 := by omega
 obtain ⟨W0, hW0, hX0, hB0, hz0⟩ := boxes1 w #[.int .u8 254] 5
 replace hz0 : w.heap.size < W0.heap.size := by omega
 have hown0 : W0.ownsRow w.heap.size 5 1 (.slice (some ⟨w.heap.size, 0, none⟩) 1 1) 1 ([254].map (Value.int .u8)) := owns_new hX0
 obtain ⟨g1, c1, W1, hap1, hown1, hB1, hz1, -, -⟩ := append_one Tryz.prog 84 und_bytes info_byte rfl (by decide) (W := W0) hown0 hB0 (Nat.le_refl _) (by omega) [.int .u8 (n / 281474976710656)] rfl (by simp [Value.oneCell']) (by omega) (by decide)
 rw [show ([254].map (Value.int .u8)) ++ [Value.int .u8 (n / 281474976710656)] = [254, n / 281474976710656].map (Value.int .u8) from rfl] at hown1
 obtain ⟨g2, c2, W2, hap2, hown2, hB2, hz2, -, -⟩ := append_one Tryz.prog 84 und_bytes info_byte rfl (by decide) (W := W1) hown1 hB1 (Nat.le_refl _) (by omega) [.int .u8 (n / 1099511627776 % 256)] rfl (by simp [Value.oneCell']) (by omega) (by decide)
 rw [show ([254, n / 281474976710656].map (Value.int .u8)) ++ [Value.int .u8 (n / 1099511627776 % 256)] = [254, n / 281474976710656, n / 1099511627776 % 256].map (Value.int .u8) from rfl] at hown2
 obtain ⟨g3, c3, W3, hap3, hown3, hB3, hz3, -, -⟩ := append_one Tryz.prog 84 und_bytes info_byte rfl (by decide) (W := W2) hown2 hB2 (Nat.le_refl _) (by omega) [.int .u8 (n / 4294967296 % 256)] rfl (by simp [Value.oneCell']) (by omega) (by decide)
 rw [show ([254, n / 281474976710656, n / 1099511627776 % 256].map (Value.int .u8)) ++ [Value.int .u8 (n / 4294967296 % 256)] = [254, n / 281474976710656, n / 1099511627776 % 256, n / 4294967296 % 256].map (Value.int .u8) from rfl] at hown3
 obtain ⟨g4, c4, W4, hap4, hown4, hB4, hz4, -, -⟩ := append_one Tryz.prog 84 und_bytes info_byte rfl (by decide) (W := W3) hown3 hB3 (Nat.le_refl _) (by omega) [.int .u8 (n / 16777216 % 256)] rfl (by simp [Value.oneCell']) (by omega) (by decide)
 rw [show ([254, n / 281474976710656, n / 1099511627776 % 256, n / 4294967296 % 256].map (Value.int .u8)) ++ [Value.int .u8 (n / 16777216 % 256)] = [254, n / 281474976710656, n / 1099511627776 % 256, n / 4294967296 % 256, n / 16777216 % 256].map (Value.int .u8) from rfl] at hown4
 obtain ⟨V, hV, hXV, hBV, hzV⟩ := boxes1 W4 #[.int .u8 (n / 65536 % 256), .int .u8 (n / 256 % 256), .int .u8 (n % 256)] 5
 replace hzV : W4.heap.size < V.heap.size := by omega
 have hownV := owns_go8 hown4 hBV
 obtain ⟨v9, W9, hap9, hown9, hB9, hz9, -, -⟩ := append_list Tryz.prog 84 und_bytes info_byte rfl (by decide) hownV (hB4.trans (hBV.mono (by omega))) (Nat.le_refl _) (by omega) (slAt_new hXV) rfl (by simp [Value.oneCell']) (by omega) (by omega) (by decide)
 have hcv := conv_own [254, n / 281474976710656, n / 1099511627776 % 256, n / 4294967296 % 256, n / 16777216 % 256, n / 65536 % 256, n / 256 % 256, n % 256] rfl (by simp) hown9
 clear hown9 hownV hXV hX0 hown0
 go_enter Tryz.func50, Tryz.ntmps50
 go_wp2_with (go_at_call 87; refine hcall.mono ?_; rintro e w' ⟨rfl, rfl⟩)
 go_ret
 exact ⟨rfl, hB9⟩
set_option maxRecDepth 100000 in
set_option maxHeartbeats 4000000 in
theorem put_big8 (n : Int) (w : World) (h0 : 72057594037927936 ≤ n) (h1 : n ≤ 18446744073709551615) :
  Calls Tryz.prog 50 #[.int .u64 n] w fun e w' => e = .returned (.string (strOfNums [255, n / 72057594037927936, n / 281474976710656 % 256, n / 1099511627776 % 256, n / 4294967296 % 256, n / 16777216 % 256, n / 65536 % 256, n / 256 % 256, n % 256])) ∧ Below w.heap.size w w' := by
 have hL : 57 ≤ Lib.bitLen n.toNat ∧ Lib.bitLen n.toNat ≤ 64 := by
  rw [Lib.bitLen_shift56 n.toNat (by omega) (by omega)]
  have h2 := bitLen_pos8 (n.toNat / 72057594037927936) (by omega) (by omega)
  omega
 have hcall := Tryz.bits_Len64 n w (by omega) (by omega)
 generalize Lib.bitLen n.toNat = L at hL hcall
 have hq : ((L : Int) + 7) / 8 = 8 := by omega
 obtain ⟨W0, hW0, hX0, hB0, hz0⟩ := boxes1 w #[.int .u8 255] 5
 replace hz0 : w.heap.size < W0.heap.size := by omega
 have hown0 : W0.ownsRow w.heap.size 5 1 (.slice (some ⟨w.heap.size, 0, none⟩) 1 1) 1 ([255].map (Value.int .u8)) := owns_new hX0
 obtain ⟨g1, c1, W1, hap1, hown1, hB1, hz1, -, -⟩ := append_one Tryz.prog 84 und_bytes info_byte rfl (by decide) (W := W0) hown0 hB0 (Nat.le_refl _) (by omega) [.int .u8 (n / 72057594037927936)] rfl (by simp [Value.oneCell']) (by omega) (by decide)
 rw [show ([255].map (Value.int .u8)) ++ [Value.int .u8 (n / 72057594037927936)] = [255, n / 72057594037927936].map (Value.int .u8) from rfl] at hown1
 obtain ⟨g2, c2, W2, hap2, hown2, hB2, hz2, -, -⟩ := append_one Tryz.prog 84 und_bytes info_byte rfl (by decide) (W := W1) hown1 hB1 (Nat.le_refl _) (by omega) [.int .u8 (n / 281474976710656 % 256)] rfl (by simp [Value.oneCell']) (by omega) (by decide)
 rw [show ([255, n / 72057594037927936].map (Value.int .u8)) ++ [Value.int .u8 (n / 281474976710656 % 256)] = [255, n / 72057594037927936, n / 281474976710656 % 256].map (Value.int .u8) from rfl] at hown2
 obtain ⟨g3, c3, W3, hap3, hown3, hB3, hz3, -, -⟩ := append_one Tryz.prog 84 und_bytes info_byte rfl (by decide) (W := W2) hown2 hB2 (Nat.le_refl _) (by omega) [.int .u8 (n / 1099511627776 % 256)] rfl (by simp [Value.oneCell']) (by omega) (by decide)
 rw [show ([255, n / 72057594037927936, n / 281474976710656 % 256].map (Value.int .u8)) ++ [Value.int .u8 (n / 1099511627776 % 256)] = [255, n / 72057594037927936, n / 281474976710656 % 256, n / 1099511627776 % 256].map (Value.int .u8) from rfl] at hown3
 obtain ⟨g4, c4, W4, hap4, hown4, hB4, hz4, -, -⟩ := append_one Tryz.prog 84 und_bytes info_byte rfl (by decide) (W := W3) hown3 hB3 (Nat.le_refl _) (by omega) [.int .u8 (n / 4294967296 % 256)] rfl (by simp [Value.oneCell']) (by omega) (by decide)
 rw [show ([255, n / 72057594037927936, n / 281474976710656 % 256, n / 1099511627776 % 256].map (Value.int .u8)) ++ [Value.int .u8 (n / 4294967296 % 256)] = [255, n / 72057594037927936, n / 281474976710656 % 256, n / 1099511627776 % 256, n / 4294967296 % 256].map (Value.int .u8) from rfl] at hown4
 obtain ⟨g5, c5, W5, hap5, hown5, hB5, hz5, -, -⟩ := append_one Tryz.prog 84 und_bytes info_byte rfl (by decide) (W := W4) hown4 hB4 (Nat.le_refl _) (by omega) [.int .u8 (n / 16777216 % 256)] rfl (by simp [Value.oneCell']) (by omega) (by decide)
 rw [show ([255, n / 72057594037927936, n / 281474976710656 % 256, n / 1099511627776 % 256, n / 4294967296 % 256].map (Value.int .u8)) ++ [Value.int .u8 (n / 16777216 % 256)] = [255, n / 72057594037927936, n / 281474976710656 % 256, n / 1099511627776 % 256, n / 4294967296 % 256, n / 16777216 % 256].map (Value.int .u8) from rfl] at hown5
 obtain ⟨V, hV, hXV, hBV, hzV⟩ := boxes1 W5 #[.int .u8 (n / 65536 % 256), .int .u8 (n / 256 % 256), .int .u8 (n % 256)] 5
 replace hzV : W5.heap.size < V.heap.size := by omega
 have hownV := owns_go8 hown5 hBV
 obtain ⟨v9, W9, hap9, hown9, hB9, hz9, -, -⟩ := append_list Tryz.prog 84 und_bytes info_byte rfl (by decide) hownV (hB5.trans (hBV.mono (by omega))) (Nat.le_refl _) (by omega) (slAt_new hXV) rfl (by simp [Value.oneCell']) (by omega) (by omega) (by decide)
 have hcv := conv_own [255, n / 72057594037927936, n / 281474976710656 % 256, n / 1099511627776 % 256, n / 4294967296 % 256, n / 16777216 % 256, n / 65536 % 256, n / 256 % 256, n % 256] rfl (by simp) hown9
 clear hown9 hownV hXV hX0 hown0
 go_enter Tryz.func50, Tryz.ntmps50
 go_wp2_with (go_at_call 87; refine hcall.mono ?_; rintro e w' ⟨rfl, rfl⟩)
 go_ret
 exact ⟨rfl, hB9⟩
def putNums (n : Int) : List Int :=
 if n ≤ 240 then [n] else if n ≤ 2287 then [241 + (n - 240) / 256, (n - 240) % 256] else if n ≤ 67823 then [249, (n - 2288) / 256, (n - 2288) % 256]
 else if n ≤ 16777215 then [250, n / 65536, n / 256 % 256, n % 256]
 else if n ≤ 4294967295 then [251, n / 16777216, n / 65536 % 256, n / 256 % 256, n % 256]
 else if n ≤ 1099511627775 then [252, n / 4294967296, n / 16777216 % 256, n / 65536 % 256, n / 256 % 256, n % 256]
 else if n ≤ 281474976710655 then [253, n / 1099511627776, n / 4294967296 % 256, n / 16777216 % 256, n / 65536 % 256, n / 256 % 256, n % 256]
 else if n ≤ 72057594037927935 then [254, n / 281474976710656, n / 1099511627776 % 256, n / 4294967296 % 256, n / 16777216 % 256, n / 65536 % 256, n / 256 % 256, n % 256]
 else [255, n / 72057594037927936, n / 281474976710656 % 256, n / 1099511627776 % 256, n / 4294967296 % 256, n / 16777216 % 256, n / 65536 % 256, n / 256 % 256, n % 256]
theorem field_Put_any (n : Int) (w : World) (h : U64 n) :
  Calls Tryz.prog 50 #[.int .u64 n] w fun e w' => e = .returned (.string (strOfNums (putNums n))) ∧ Below w.heap.size w w' := by
 obtain ⟨h0, h1⟩ := h
 unfold putNums
 by_cases c0 : n ≤ 240
 ·rw [if_pos c0]; exact put_one n w h0 c0
 rw [if_neg c0]
 by_cases c1 : n ≤ 2287
 ·rw [if_pos c1]; exact put_two n w (by omega) c1
 rw [if_neg c1]
 by_cases c2 : n ≤ 67823
 ·rw [if_pos c2]; exact put_three n w (by omega) c2
 rw [if_neg c2]
 by_cases c3 : n ≤ 16777215
 ·rw [if_pos c3]; exact put_big3 n w (by omega) c3
 rw [if_neg c3]
 by_cases c4 : n ≤ 4294967295
 ·rw [if_pos c4]; exact put_big4 n w (by omega) c4
 rw [if_neg c4]
 by_cases c5 : n ≤ 1099511627775
 ·rw [if_pos c5]; exact put_big5 n w (by omega) c5
 rw [if_neg c5]
 by_cases c6 : n ≤ 281474976710655
 ·rw [if_pos c6]; exact put_big6 n w (by omega) c6
 rw [if_neg c6]
 by_cases c7 : n ≤ 72057594037927935
 ·rw [if_pos c7]; exact put_big7 n w (by omega) c7
 rw [if_neg c7]
 exact put_big8 n w (by omega) (by omega)
end Go.Proofs.YtpklkhgnjbopnaaGreatDoor
namespace Go.Proofs.YtpklkhgnjbopnaaGreatDoor
open Go Go.RowKit
def numsB (l : List Int) : List UInt8 := l.flatMap fun n => (putNums n).map fun k => UInt8.ofNat k.toNat
theorem strCells_nums (xs : List Int) : Lib.strCells (strOfNums xs) = Lib.byteCells (xs.map fun k => UInt8.ofNat k.toNat) := by
 rw [Lib.strCells, strOfNums_data]; rfl
theorem putNums_len (n : Int) : 1 ≤ (putNums n).length ∧ (putNums n).length ≤ 9 := by
 unfold putNums
 repeat' split
 all_goals simp
theorem numsB_append (a b : List Int) : numsB (a ++ b) = numsB a ++ numsB b := by simp [numsB]
theorem numsB_len (l : List Int) : l.length ≤ (numsB l).length ∧ (numsB l).length ≤ 9 * l.length := by
 induction l with
 | nil => simp [numsB]
 | cons x l ih =>
  have := putNums_len x
  rw [show numsB (x :: l) = (putNums x).map (fun k => UInt8.ofNat k.toNat) ++ numsB l from rfl, List.length_append, List.length_map, List.length_cons]
  omega
theorem byteCells_append (a b : List UInt8) : Lib.byteCells (a ++ b) = Lib.byteCells a ++ Lib.byteCells b := by simp [Lib.byteCells]
def WK (B b : Nat) (w w' : World) : Prop := Below B w w' ∧ Lib.OthersKept 5 (some b) w w'
theorem WK.refl (B b : Nat) (w : World) : WK B b w w := ⟨Below.refl _ _, Lib.OthersKept.refl _ _ _⟩
theorem WK.trans {B b : Nat} {w w' w'' : World} (h : WK B b w w') (h' : WK B b w' w'') : WK B b w w'' := ⟨h.1.trans h'.1, h.2.trans h'.2⟩
theorem WK.of_below {B b : Nat} {w w' : World} (h : Below w.heap.size w w') (hB : B ≤ w.heap.size) : WK B b w w' := ⟨h.mono hB, fun _ _ hk _ _ => known h (Nat.le_refl _) hk⟩
theorem owns_goF {A B : World} {base e size n : Nat} {v : Value} {xs : List Value} (h : A.ownsRowF base e size v n xs) (hb : Below A.heap.size A B) : B.ownsRowF base e size v n xs :=
 ⟨h.1, h.2.imp id (fun ⟨g, cap, cur, fz, h1, h2, h3, h4⟩ => ⟨g, cap, cur, fz, h1, h2, known hb (Nat.le_refl _) h3, h4⟩)⟩
end Go.Proofs.YtpklkhgnjbopnaaGreatDoor
namespace Go.Proofs.YtpklkhgnjbopnaaGreatDoor
open Go Go.RowKit
def WAt (B b : Nat) (p : Value) (bs : List Value) (wr : Bool) (w : World) : Prop :=
 B ≤ b ∧ ∃ v, w.heap[b]? = some (.cells #[p, v, .bool wr] 119 (0, 0)) ∧ w.ownsRowF B 5 1 v bs.length bs ∧ v.ownBlock ≠ some b
def WIs (B b : Nat) (bs : List Value) (wr : Bool) (w : World) : Prop := WAt B b (.pointer none) bs wr w ∨ WAt B b (.pointer (some ⟨b, 0, none⟩)) bs wr w
section
variable {B b : Nat} {p v' : Value} {bs bs' : List Value} {wr : Bool} {w : World}
theorem WAt.cell0 (h : WAt B b p bs wr w) : w.cell? ⟨b, 0, none⟩ = some p := by obtain ⟨-, v, hb, -⟩ := h; rw [Lib.cell_of_heap hb]; rfl
theorem WAt.shape (h : WAt B b p bs wr w) : w.shape? b = some (119, 3) := by obtain ⟨-, v, hb, -⟩ := h; simp [World.shape?, hb]
theorem WAt.frozen0 (h : WAt B b p bs wr w) : w.frozen? ⟨b, 0, none⟩ = false := by obtain ⟨-, v, hb, -⟩ := h; exact Lib.frozen_of_heap hb 0
theorem WAt.keep {w2 : World} (hB : B ≤ b) {q v : Value} (hb : w2.heap[b]? = some (.cells #[q, v, .bool wr] 119 (0, 0))) (hown : w.ownsRowF B 5 1 v bs.length bs) (hs : w2.os = w.os ∧ w2.tape = w.tape ∧ w2.output = w.output ∧ w.heap.size ≤ w2.heap.size ∧ ∀ k, k < w.heap.size → k ≠ b → w2.heap[k]? = w.heap[k]?) (hne : v.ownBlock ≠ some b) : WAt B b q bs wr w2 :=
 ⟨hB, v, hb, hown.kept (row := some b) ⟨hs.1, hs.2.1, hs.2.2.1, hs.2.2.2.1, fun k hk hkb => hs.2.2.2.2 k hk (fun e => hkb (by simp [e]))⟩ (.inr hne), hne⟩
theorem WAt.used (h : WAt B b p bs wr w) (q : Value) : WAt B b q bs wr (w.setCell ⟨b, 0, none⟩ q) := by
 obtain ⟨hB, v, hb, hown, hne⟩ := h
 exact WAt.keep hB (by simp [World.setCell, Array.getElem?_modify, hb]) hown ⟨rfl, rfl, rfl, by simp [World.setCell], fun k _ hk => Below.heap_setCell _ _ _ _ hk⟩ hne
theorem WAt.put (hB : B ≤ b) {v : Value} (hb : w.heap[b]? = some (.cells #[p, v, .bool wr] 119 (0, 0))) (hown : w.ownsRowF B 5 1 v' bs'.length bs') : WAt B b p bs' wr (w.setCell ⟨b, 1, none⟩ v') := by
 have hne := Lib.ownBlock_neF hown hb (by decide)
 exact WAt.keep hB (by simp [World.setCell, Array.getElem?_modify, hb]) hown ⟨rfl, rfl, rfl, by simp [World.setCell], fun k _ hk => Below.heap_setCell _ _ _ _ hk⟩ hne
theorem WAt.bad (h : WAt B b p bs wr w) : WAt B b p bs true (w.setCell ⟨b, 2, none⟩ (.bool true)) := by
 obtain ⟨hB, v, hb, hown, hne⟩ := h
 exact WAt.keep hB (by simp [World.setCell, Array.getElem?_modify, hb]) hown ⟨rfl, rfl, rfl, by simp [World.setCell], fun k _ hk => Below.heap_setCell _ _ _ _ hk⟩ hne
theorem WAt.go {A W : World} (h : WAt B b p bs wr A) (hb : Below A.heap.size A W) : WAt B b p bs wr W := by
 obtain ⟨hB, v, h1, h2, h3⟩ := h
 exact ⟨hB, v, known hb (Nat.le_refl _) h1, owns_goF h2 hb, h3⟩
theorem WIs.go {A W : World} (h : WIs B b bs wr A) (hb : Below A.heap.size A W) : WIs B b bs wr W := h.imp (·.go hb) (·.go hb)
theorem WIs.lt (h : WIs B b bs wr w) : b < w.heap.size := by
 rcases h with ⟨-, v, h, -⟩ | ⟨-, v, h, -⟩ <;> exact (Array.getElem?_eq_some_iff.1 h).1
theorem WIs.cell2 (h : WIs B b bs wr w) : w.cell? ⟨b, 2, none⟩ = some (.bool wr) ∧ w.frozen? ⟨b, 2, none⟩ = false := by
 rcases h with ⟨-, v, h, -⟩ | ⟨-, v, h, -⟩ <;> exact ⟨by rw [Lib.cell_of_heap h]; rfl, Lib.frozen_of_heap h 2⟩
end
theorem lies_x : liesAt Tryz.prog Tryz.prog.depth 119 (3 / Tryz.prog.cellsOf 119) 0 86 1 = true := by kernel_rfl
set_option maxHeartbeats 1000000 in
set_option maxRecDepth 100000 in
theorem copyCheck_fresh_x (b : Nat) (w : World) (h0 : w.cell? ⟨b, 0, none⟩ = some (.pointer none)) (hsh : w.shape? b = some (119, 3)) (hfz : w.frozen? ⟨b, 0, none⟩ = false) :
  Calls Tryz.prog 72 #[.pointer (some ⟨b, 0, none⟩)] w fun e w' => e = .returned (.tuple #[]) ∧ w' = w.setCell ⟨b, 0, none⟩ (.pointer (some ⟨b, 0, none⟩)) := by
 obtain ⟨j, hj, hjs⟩ := Option.map_eq_some_iff.1 size_b
 go_enter Tryz.func72, Tryz.ntmps72
 go_wp2
 rw [Lib.run_to_unsafe w ⟨b, 0, none⟩ und_bp und_up hj (by rw [hjs]; decide) hsh (Nat.zero_lt_succ 2)]
 simp only [Result.andThen]
 rw [Oper.upon_value]
 go_wp2
 rw [run_callFunc_extern Tryz.func99 (by kernel_rfl) (by kernel_rfl) (by kernel_rfl) (e := Extern.AbiNoEscape.same) (by kernel_rfl)]
 rw [Lib.run_noEscape]
 simp only [Result.andThen]
 rw [Oper.upon_value]
 go_wp2
 rw [Lib.run_from_unsafe w ⟨b, 0, none⟩ und_up und_bp hj hsh lies_x]
 simp only [Result.andThen]
 rw [Oper.upon_value]
 go_wp2
 go_end0
 exact ⟨rfl, rfl⟩
set_option maxHeartbeats 1000000 in
theorem copyCheck_used_x (b : Nat) (w : World) (h0 : w.cell? ⟨b, 0, none⟩ = some (.pointer (some ⟨b, 0, none⟩))) :
  Calls Tryz.prog 72 #[.pointer (some ⟨b, 0, none⟩)] w fun e w' => e = .returned (.tuple #[]) ∧ w' = w := by
 obtain ⟨j, hj, hjs⟩ := Option.map_eq_some_iff.1 size_b
 have hn := Lib.run_neq_ptr_same (P := Tryz.prog) w ⟨b, 0, none⟩ und_bp hj
 go_enter Tryz.func72, Tryz.ntmps72
 go_wp2
 go_end0
 exact ⟨rfl, rfl⟩
theorem copyCheck_any_x (B b : Nat) (bs : List Value) (wr : Bool) (w : World) (h : WIs B b bs wr w) :
  Calls Tryz.prog 72 #[.pointer (some ⟨b, 0, none⟩)] w fun e w' => e = .returned (.tuple #[]) ∧ (WAt B b (.pointer (some ⟨b, 0, none⟩)) bs wr w' ∧ Below B w w' ∧ Lib.OthersKept 5 (some b) w w') := by
 rcases h with h | h
 ·refine (copyCheck_fresh_x b w h.cell0 h.shape h.frozen0).mono ?_
  rintro e w' ⟨rfl, rfl⟩
  exact ⟨rfl, h.used _, (Below.refl B w).setCell (p := ⟨b, 0, none⟩) h.1 _, (Lib.OthersKept.refl _ _ w).setCell ⟨b, 0, none⟩ rfl _⟩
 ·refine (copyCheck_used_x b w h.cell0).mono ?_
  rintro e w' ⟨rfl, rfl⟩
  exact ⟨rfl, h, Below.refl B _, Lib.OthersKept.refl _ _ _⟩
set_option maxHeartbeats 2000000 in
set_option maxRecDepth 100000 in
theorem WriteString_any_x (B b : Nat) (bs : List Value) (wr : Bool) (s : ByteArray) (w : World) (h : WIs B b bs wr w) (hlen : bs.length + s.size ≤ 140737488355328) (hBw : B ≤ w.heap.size) :
  Calls Tryz.prog 36 #[.pointer (some ⟨b, 0, none⟩), .string s] w fun e w' => e = .returned (.tuple #[.int .i64 s.size, .nilIface]) ∧ (WAt B b (.pointer (some ⟨b, 0, none⟩)) (bs ++ Lib.strCells s) wr w' ∧ Below B w w' ∧ Lib.OthersKept 5 (some b) w w') := by
 obtain ⟨i0, hi, hz0, hz1, hz2⟩ := info_parts info_byte
 go_enter Tryz.func36, Tryz.ntmps36
 go_wp2_with fail
 refine (copyCheck_any_x B b bs wr _ h).mono ?_
 rintro e w1 ⟨rfl, h1, hb1, hk1⟩
 obtain ⟨hB, v, hbk, hown, hne⟩ := h1
 have c0 : w1.cell? ⟨b, 0, none⟩ = some (.pointer (some ⟨b, 0, none⟩)) := by rw [Lib.cell_of_heap hbk]; rfl
 have c1 : w1.cell? ⟨b, 1, none⟩ = some v := by rw [Lib.cell_of_heap hbk]; rfl
 go_wp2_with (at_builtin; refine Lib.wpList_append_own_stringF _ rfl _ _ 84 9 rfl B 5 i0 und_bytes Tryz.underlying9 hi hz0 hz1 hz2 _ _ _ rfl hown s rfl ?c3 ?c4 ?c5 ?_)
 case c3 => unfold maxLen; omega
 case c4 => omega
 case c5 => have := hb1.size; omega
 intro v' w2 hown' hgrow _
 have hlt : b < w1.heap.size := (Array.getElem?_eq_some_iff.1 hbk).1
 have hb2 : w2.heap[b]? = some (.cells #[.pointer (some ⟨b, 0, none⟩), v, .bool wr] 119 (0, 0)) := by
  rw [hgrow.block b hlt (fun e => hne e.symm)]
  exact hbk
 have d0 : w2.cell? ⟨b, 0, none⟩ = some (.pointer (some ⟨b, 0, none⟩)) := by rw [Lib.cell_of_heap hb2]; rfl
 have d1 : w2.cell? ⟨b, 1, none⟩ = some v := by rw [Lib.cell_of_heap hb2]; rfl
 have f1 : w2.frozen? ⟨b, 1, none⟩ = false := Lib.frozen_of_heap hb2 1
 obtain ⟨ao, n', cap, rfl⟩ : ∃ ao n' cap, v' = .slice ao n' cap := by
  rcases hown'.2 with ⟨hv, _⟩ | ⟨g, cap, cur, fz, hv, _⟩
  ·exact ⟨_, _, _, hv⟩
  ·exact ⟨_, _, _, hv⟩
 go_wp2
 go_ret2
 refine ⟨rfl, ?_, ?_, (hk1.grown hgrow (Lib.ownsRowF_kind hown)).setCell ⟨b, 1, none⟩ rfl _⟩
 ·exact WAt.put hB hb2 (bs' := bs ++ Lib.strCells s) (by simpa [Lib.strCells_length] using hown')
 ·exact (hb1.grown hgrow (by have := hb1.size; omega) (fun k hk => (hown.lt k hk).1)).setCell (p := ⟨b, 1, none⟩) hB _
theorem cells_byte_x : Tryz.prog.cellsOf 5 = 1 := by kernel_rfl
set_option maxHeartbeats 2000000 in
set_option maxRecDepth 100000 in
theorem String_x (B b : Nat) (l : List UInt8) (wr : Bool) (w : World) (h : WIs B b (Lib.byteCells l) wr w) (h0 : l ≠ []) :
  Calls Tryz.prog 39 #[.pointer (some ⟨b, 0, none⟩)] w fun e w' => e = .returned (.string ⟨l.toArray⟩) ∧ Below B w w' := by
 obtain ⟨p, hAt⟩ : ∃ p, WAt B b p (Lib.byteCells l) wr w := by
  rcases h with h | h
  ·exact ⟨_, h⟩
  ·exact ⟨_, h⟩
 obtain ⟨hB, v, hbk, hown, hne⟩ := hAt
 have hl0 : l.length ≠ 0 := by simpa using h0
 rw [Lib.byteCells_length] at hown
 rcases hown.2 with ⟨_, hz⟩ | ⟨g, cap, cur, fz, rfl, hbg, hg, hfz, hnc, hcm, hcs, htake⟩
 ·exact absurd hz hl0
 have c1 : w.drew.cell? ⟨b, 1, none⟩ = some (.slice (some ⟨g, 0, none⟩) l.length cap) := by
  have : w.drew.heap[b]? = some (.cells #[p, .slice (some ⟨g, 0, none⟩) l.length cap, .bool wr] 119 (0, 0)) := hbk
  rw [Lib.cell_of_heap this]; rfl
 have hSD : (Builtin.unsafeSliceData_ #[84] 154 #[.slice (some ⟨g, 0, none⟩) l.length cap]).run Tryz.prog w.drew = .ok (.pointer (some ⟨g, 0, none⟩)) w.drew :=
  Lib.run_unsafeSliceData_row _ _ _ _ _ _ (by omega)
 have hUS : (Builtin.unsafeString_ #[154, 3] 9 #[.pointer (some ⟨g, 0, none⟩), .int .i64 l.length]).run Tryz.prog w.drew = .ok (.string ⟨l.toArray⟩) (w.drew.freeze ⟨g, 0, none⟩ l.length) := by
  refine Lib.run_unsafeString_row w.drew 154 3 9 5 (by kernel_rfl) cells_byte_x g cur.size (by have hg' : w.drew.heap[g]? = some (.cells cur 5 fz) := hg; simp [World.shape?, hg']) l h0 (by omega) (by unfold maxLen at hcm; omega) ?_
  intro j x hx
  have := hown.cells (g := g) rfl j (.int .u8 x.toNat) (by simp [Lib.byteCells, hx])
  exact this
 have hF := Lib.below_freeze (Below.drew (Below.refl B w)) (p := ⟨g, 0, none⟩) hbg l.length
 clear hown hne htake hbk hg
 have mixed : Tryz.prog.follows .mixedOrders = true := by kernel_rfl
 go_enter Tryz.func39, Tryz.ntmps39
 go_wp2
 go_region_o
 all_goals (go_wp2; go_ret; exact ⟨rfl, hF⟩)
end Go.Proofs.YtpklkhgnjbopnaaGreatDoor
namespace Go.Proofs.YtpklkhgnjbopnaaGreatDoor
open Go Go.RowKit
inductive NumR where
 | got (n : Int) (r : List UInt8)
 | more
 | bad
def behindN (f : Nat) : Nat := if f ≤ 240 then 0 else if f ≤ 248 then 1 else if f = 249 then 2 else f - 247
def beGo : Int → List UInt8 → Int
 | n, [] => n
 | n, b :: r => beGo (n * 256 + b.toNat) r
def rawN (f : Nat) (t : List UInt8) : Int := if f ≤ 240 then f else if f ≤ 248 then beGo 0 t + (240 + 256 * ((f : Int) - 241)) else if f = 249 then beGo 0 t + 2288 else beGo 0 t
def getN : List UInt8 → NumR
 | [] => .more
 | f :: t => if t.length < behindN f.toNat then .more else
   if (putNums (rawN f.toNat (t.take (behindN f.toNat)))).length = 1 + behindN f.toNat then .got (rawN f.toNat (t.take (behindN f.toNat))) (t.drop (behindN f.toNat)) else .bad
theorem numsB_one (n : Int) : numsB [n] = (putNums n).map (fun k => UInt8.ofNat k.toNat) := by simp [numsB]
theorem u8_nat (n : Nat) (h : n < 256) : (UInt8.ofNat n).toNat = n := by simp; omega
theorem putNums_0 {n : Int} (h : n ≤ 240) : putNums n = [n] := by
 unfold putNums
 rw [if_pos (by omega)]
theorem putNums_1 {n : Int} (h : 240 < n ∧ n ≤ 2287) : putNums n = [241 + (n - 240) / 256, (n - 240) % 256] := by
 unfold putNums
 rw [if_neg (by omega), if_pos (by omega)]
theorem putNums_2 {n : Int} (h : 2287 < n ∧ n ≤ 67823) : putNums n = [249, (n - 2288) / 256, (n - 2288) % 256] := by
 unfold putNums
 rw [if_neg (by omega), if_neg (by omega), if_pos (by omega)]
theorem putNums_3 {n : Int} (h : 67823 < n ∧ n ≤ 16777215) : putNums n = [250, n / 65536, n / 256 % 256, n % 256] := by
 unfold putNums
 rw [if_neg (by omega), if_neg (by omega), if_neg (by omega), if_pos (by omega)]
theorem putNums_4 {n : Int} (h : 16777215 < n ∧ n ≤ 4294967295) : putNums n = [251, n / 16777216, n / 65536 % 256, n / 256 % 256, n % 256] := by
 unfold putNums
 rw [if_neg (by omega), if_neg (by omega), if_neg (by omega), if_neg (by omega), if_pos (by omega)]
theorem putNums_5 {n : Int} (h : 4294967295 < n ∧ n ≤ 1099511627775) : putNums n = [252, n / 4294967296, n / 16777216 % 256, n / 65536 % 256, n / 256 % 256, n % 256] := by
 unfold putNums
 rw [if_neg (by omega), if_neg (by omega), if_neg (by omega), if_neg (by omega), if_neg (by omega), if_pos (by omega)]
theorem putNums_6 {n : Int} (h : 1099511627775 < n ∧ n ≤ 281474976710655) : putNums n = [253, n / 1099511627776, n / 4294967296 % 256, n / 16777216 % 256, n / 65536 % 256, n / 256 % 256, n % 256] := by
 unfold putNums
 rw [if_neg (by omega), if_neg (by omega), if_neg (by omega), if_neg (by omega), if_neg (by omega), if_neg (by omega), if_pos (by omega)]
theorem putNums_7 {n : Int} (h : 281474976710655 < n ∧ n ≤ 72057594037927935) : putNums n = [254, n / 281474976710656, n / 1099511627776 % 256, n / 4294967296 % 256, n / 16777216 % 256, n / 65536 % 256, n / 256 % 256, n % 256] := by
 unfold putNums
 rw [if_neg (by omega), if_neg (by omega), if_neg (by omega), if_neg (by omega), if_neg (by omega), if_neg (by omega), if_neg (by omega), if_pos (by omega)]
theorem putNums_8 {n : Int} (h : 72057594037927935 < n) : putNums n = [255, n / 72057594037927936, n / 281474976710656 % 256, n / 1099511627776 % 256, n / 4294967296 % 256, n / 16777216 % 256, n / 65536 % 256, n / 256 % 256, n % 256] := by
 unfold putNums
 rw [if_neg (by omega), if_neg (by omega), if_neg (by omega), if_neg (by omega), if_neg (by omega), if_neg (by omega), if_neg (by omega), if_neg (by omega)]
theorem getN_cons (f : UInt8) (t r : List UInt8) (fn k : Nat) (n : Int) (hf : f.toNat = fn) (hk : behindN fn = k) (ht : t.length = k) (hn : rawN fn t = n) (hp : (putNums n).length = 1 + k) : getN (f :: (t ++ r)) = .got n r := by
 subst ht
 simp only [getN, hf, hk, List.length_append, List.take_left, List.drop_left, hn, hp, if_true]
 rw [if_neg (by omega)]
theorem hu8 (m : Int) (h0 : 0 ≤ m) (h1 : m < 256) : ((UInt8.ofNat m.toNat).toNat : Int) = m := by
 rw [u8_nat m.toNat (by omega)]; omega
theorem hv8 (m : Int) : ((UInt8.ofNat (m % 256).toNat).toNat : Int) = m % 256 := hu8 _ (by omega) (by omega)
theorem beGo_one (n : Int) (b : UInt8) (l : List UInt8) : beGo n (b :: l) = beGo (n * 256 + b.toNat) l := rfl
theorem beGo_nil (n : Int) : beGo n [] = n := rfl
theorem getN_put (n : Int) (h : U64 n) (r : List UInt8) : getN (numsB [n] ++ r) = .got n r := by
 obtain ⟨h0, h1⟩ := h
 rw [numsB_one]
 have hu := fun (m : Int) (h0 : 0 ≤ m) (h1 : m < 256) => u8_nat m.toNat (by omega)
 by_cases c0 : n ≤ 240
 ·have e := putNums_0 (n := n) (by omega)
  rw [e]
  exact getN_cons _ [] r n.toNat 0 n (hu n (by omega) (by omega)) (by unfold behindN; rw [if_pos (by omega)]) rfl (by unfold rawN; rw [if_pos (by omega)]; omega) (by rw [e]; rfl)
 by_cases c1 : n ≤ 2287
 ·have e := putNums_1 (n := n) (by omega)
  rw [e]
  refine getN_cons _ [_] r (241 + (n - 240) / 256).toNat 1 n (hu _ (by omega) (by omega)) (by unfold behindN; rw [if_neg (by omega), if_pos (by omega)]) rfl ?_ (by rw [e]; rfl)
  unfold rawN
  rw [if_neg (by omega), if_pos (by omega), beGo_one, beGo_nil, hv8]
  omega
 by_cases c2 : n ≤ 67823
 ·have e := putNums_2 (n := n) (by omega)
  rw [e]
  refine getN_cons _ [_, _] r 249 2 n (hu 249 (by omega) (by omega)) (by decide) rfl ?_ (by rw [e]; rfl)
  unfold rawN
  rw [if_neg (by omega), if_neg (by omega), if_pos rfl, beGo_one, beGo_one, beGo_nil, hv8, hu8 _ (by omega) (by omega)]
  omega
 by_cases c3 : n ≤ 16777215
 ·have e := putNums_3 (n := n) (by omega)
  rw [e]
  refine getN_cons _ [_, _, _] r 250 3 n (hu 250 (by omega) (by omega)) (by decide) rfl ?_ (by rw [e]; rfl)
  unfold rawN
  rw [if_neg (by omega), if_neg (by omega), if_neg (by omega), beGo_one, beGo_one, beGo_one, beGo_nil, hu8 (n / 65536) (by omega) (by omega), hv8 (n / 256), hv8 n, Int.zero_mul, Int.zero_add, show n / 65536 * 256 + n / 256 % 256 = n / 256 by omega, show n / 256 * 256 + n % 256 = n by omega]
 by_cases c4 : n ≤ 4294967295
 ·have e := putNums_4 (n := n) (by omega)
  rw [e]
  refine getN_cons _ [_, _, _, _] r 251 4 n (hu 251 (by omega) (by omega)) (by decide) rfl ?_ (by rw [e]; rfl)
  unfold rawN
  rw [if_neg (by omega), if_neg (by omega), if_neg (by omega), beGo_one, beGo_one, beGo_one, beGo_one, beGo_nil, hu8 (n / 16777216) (by omega) (by omega), hv8 (n / 65536), hv8 (n / 256), hv8 n, Int.zero_mul, Int.zero_add, show n / 16777216 * 256 + n / 65536 % 256 = n / 65536 by omega, show n / 65536 * 256 + n / 256 % 256 = n / 256 by omega, show n / 256 * 256 + n % 256 = n by omega]
 by_cases c5 : n ≤ 1099511627775
 ·have e := putNums_5 (n := n) (by omega)
  rw [e]
  refine getN_cons _ [_, _, _, _, _] r 252 5 n (hu 252 (by omega) (by omega)) (by decide) rfl ?_ (by rw [e]; rfl)
  unfold rawN
  rw [if_neg (by omega), if_neg (by omega), if_neg (by omega), beGo_one, beGo_one, beGo_one, beGo_one, beGo_one, beGo_nil, hu8 (n / 4294967296) (by omega) (by omega), hv8 (n / 16777216), hv8 (n / 65536), hv8 (n / 256), hv8 n, Int.zero_mul, Int.zero_add, show n / 4294967296 * 256 + n / 16777216 % 256 = n / 16777216 by omega, show n / 16777216 * 256 + n / 65536 % 256 = n / 65536 by omega, show n / 65536 * 256 + n / 256 % 256 = n / 256 by omega, show n / 256 * 256 + n % 256 = n by omega]
 by_cases c6 : n ≤ 281474976710655
 ·have e := putNums_6 (n := n) (by omega)
  rw [e]
  refine getN_cons _ [_, _, _, _, _, _] r 253 6 n (hu 253 (by omega) (by omega)) (by decide) rfl ?_ (by rw [e]; rfl)
  unfold rawN
  rw [if_neg (by omega), if_neg (by omega), if_neg (by omega), beGo_one, beGo_one, beGo_one, beGo_one, beGo_one, beGo_one, beGo_nil, hu8 (n / 1099511627776) (by omega) (by omega), hv8 (n / 4294967296), hv8 (n / 16777216), hv8 (n / 65536), hv8 (n / 256), hv8 n, Int.zero_mul, Int.zero_add, show n / 1099511627776 * 256 + n / 4294967296 % 256 = n / 4294967296 by omega, show n / 4294967296 * 256 + n / 16777216 % 256 = n / 16777216 by omega, show n / 16777216 * 256 + n / 65536 % 256 = n / 65536 by omega, show n / 65536 * 256 + n / 256 % 256 = n / 256 by omega, show n / 256 * 256 + n % 256 = n by omega]
 by_cases c7 : n ≤ 72057594037927935
 ·have e := putNums_7 (n := n) (by omega)
  rw [e]
  refine getN_cons _ [_, _, _, _, _, _, _] r 254 7 n (hu 254 (by omega) (by omega)) (by decide) rfl ?_ (by rw [e]; rfl)
  unfold rawN
  rw [if_neg (by omega), if_neg (by omega), if_neg (by omega), beGo_one, beGo_one, beGo_one, beGo_one, beGo_one, beGo_one, beGo_one, beGo_nil, hu8 (n / 281474976710656) (by omega) (by omega), hv8 (n / 1099511627776), hv8 (n / 4294967296), hv8 (n / 16777216), hv8 (n / 65536), hv8 (n / 256), hv8 n, Int.zero_mul, Int.zero_add, show n / 281474976710656 * 256 + n / 1099511627776 % 256 = n / 1099511627776 by omega, show n / 1099511627776 * 256 + n / 4294967296 % 256 = n / 4294967296 by omega, show n / 4294967296 * 256 + n / 16777216 % 256 = n / 16777216 by omega, show n / 16777216 * 256 + n / 65536 % 256 = n / 65536 by omega, show n / 65536 * 256 + n / 256 % 256 = n / 256 by omega, show n / 256 * 256 + n % 256 = n by omega]
 have e := putNums_8 (n := n) (by omega)
 rw [e]
 refine getN_cons _ [_, _, _, _, _, _, _, _] r 255 8 n (hu 255 (by omega) (by omega)) (by decide) rfl ?_ (by rw [e]; rfl)
 unfold rawN
 rw [if_neg (by omega), if_neg (by omega), if_neg (by omega), beGo_one, beGo_one, beGo_one, beGo_one, beGo_one, beGo_one, beGo_one, beGo_one, beGo_nil, hu8 (n / 72057594037927936) (by omega) (by omega), hv8 (n / 281474976710656), hv8 (n / 1099511627776), hv8 (n / 4294967296), hv8 (n / 16777216), hv8 (n / 65536), hv8 (n / 256), hv8 n, Int.zero_mul, Int.zero_add, show n / 72057594037927936 * 256 + n / 281474976710656 % 256 = n / 281474976710656 by omega, show n / 281474976710656 * 256 + n / 1099511627776 % 256 = n / 1099511627776 by omega, show n / 1099511627776 * 256 + n / 4294967296 % 256 = n / 4294967296 by omega, show n / 4294967296 * 256 + n / 16777216 % 256 = n / 16777216 by omega, show n / 16777216 * 256 + n / 65536 % 256 = n / 65536 by omega, show n / 65536 * 256 + n / 256 % 256 = n / 256 by omega, show n / 256 * 256 + n % 256 = n by omega]
theorem beGo_le : ∀ (l : List UInt8) (n : Int), 0 ≤ n → 0 ≤ beGo n l ∧ beGo n l < (n + 1) * 256 ^ l.length
 | [], n, h => by simp only [beGo, List.length_nil]; omega
 | b :: r, n, h => by
  have hb := UInt8.toNat_lt b
  obtain ⟨h1, h2⟩ := beGo_le r (n * 256 + b.toNat) (by omega)
  refine ⟨h1, Int.lt_of_lt_of_le h2 ?_⟩
  rw [List.length_cons, Int.pow_succ, Int.mul_comm (256 ^ r.length), ← Int.mul_assoc]
  have h3 : (0 : Int) ≤ 256 ^ r.length := Int.pow_nonneg (by omega)
  exact Int.mul_le_mul_of_nonneg_right (by omega) h3
set_option maxRecDepth 100000 in
theorem rawN_u64 (f : UInt8) (t : List UInt8) (ht : t.length = behindN f.toNat) : U64 (rawN f.toNat t) := by
 have hf := UInt8.toNat_lt f
 obtain ⟨h1, h2⟩ := beGo_le t 0 (by omega)
 rw [ht] at h2
 unfold rawN
 unfold behindN at h2
 split
 ·unfold U64; omega
 split
 ·rename_i h3 h4
  rw [if_neg h3, if_pos h4] at h2
  unfold U64; omega
 split
 ·rename_i h3 h4 h5
  rw [if_neg h3, if_neg h4, if_pos h5] at h2
  unfold U64; omega
 ·rename_i h3 h4 h5
  rw [if_neg h3, if_neg h4, if_neg h5] at h2
  have h6 : (256 : Int) ^ (f.toNat - 247) ≤ 256 ^ 8 := by
   have : (256 : Nat) ^ (f.toNat - 247) ≤ 256 ^ 8 := Nat.pow_le_pow_right (by omega) (by omega)
   exact_mod_cast this
  unfold U64; omega
theorem getN_got {l : List UInt8} {n : Int} {r : List UInt8} (h : getN l = .got n r) : U64 n ∧ r.length < l.length := by
 cases l with
 | nil => cases h
 | cons f t =>
  rw [getN] at h
  split at h
  ·cases h
  rename_i h1
  split at h
  ·injection h with h2 h3
   subst h2; subst h3
   refine ⟨rawN_u64 f _ (by rw [List.length_take]; omega), by rw [List.length_drop, List.length_cons]; omega⟩
  ·cases h
theorem ofNat_of {b : UInt8} {n : Int} (h : n = b.toNat) : UInt8.ofNat n.toNat = b := by
 subst h; simp
theorem putNums_size (n : Int) : ((putNums n).length = 1 → n ≤ 240) ∧ ((putNums n).length = 2 → 240 < n ∧ n ≤ 2287) ∧ ((putNums n).length = 3 → 2287 < n ∧ n ≤ 67823) ∧ ((putNums n).length = 4 → 67823 < n ∧ n ≤ 16777215) ∧ ((putNums n).length = 5 → 16777215 < n ∧ n ≤ 4294967295) ∧
  ((putNums n).length = 6 → 4294967295 < n ∧ n ≤ 1099511627775) ∧ ((putNums n).length = 7 → 1099511627775 < n ∧ n ≤ 281474976710655) ∧ ((putNums n).length = 8 → 281474976710655 < n ∧ n ≤ 72057594037927935) ∧ ((putNums n).length = 9 → 72057594037927935 < n) := by
 unfold putNums
 repeat' split
 all_goals simp only [List.length_cons, List.length_nil]; omega
set_option maxHeartbeats 4000000 in
theorem getN_inv {l : List UInt8} {n : Int} {r : List UInt8} (h : getN l = .got n r) : l = numsB [n] ++ r := by
 cases l with
 | nil => cases h
 | cons f t =>
  rw [getN] at h
  split at h
  ·cases h
  rename_i h1
  split at h
  case isFalse => cases h
  rename_i h2
  injection h with h3 h4
  obtain ⟨ts, hts⟩ : ∃ ts, t.take (behindN f.toNat) = ts := ⟨_, rfl⟩
  have htl : ts.length = behindN f.toNat := by rw [← hts, List.length_take]; omega
  have htt : t = ts ++ r := by rw [← h4, ← hts, List.take_append_drop]
  rw [hts] at h2 h3
  have hu := rawN_u64 f ts htl
  rw [h3] at h2 hu
  have hs := putNums_size n
  obtain ⟨s1, s2, s3, s4, s5, s6, s7, s8, s9⟩ := hs
  obtain ⟨hu0, hu1⟩ := hu
  have hf := UInt8.toNat_lt f
  rw [htt, numsB_one, ← List.cons_append]
  congr 1
  clear h4 htt hts h1
  by_cases c0 : f.toNat ≤ 240
  ·have hb : behindN f.toNat = 0 := by unfold behindN; rw [if_pos c0]
   rw [hb] at htl h2
   obtain rfl : ts = [] := List.eq_nil_of_length_eq_zero htl
   unfold rawN at h3
   rw [if_pos c0] at h3
   have s := s1 h2
   rw [putNums_0 s]
   simp only [List.map_cons, List.map_nil]
   rw [ofNat_of (b := f) (by omega)]
  by_cases c1 : f.toNat ≤ 248
  ·have hb : behindN f.toNat = 1 := by unfold behindN; rw [if_neg c0, if_pos c1]
   rw [hb] at htl h2
   match ts, htl with
   | [b0], _ =>
    unfold rawN at h3
    rw [if_neg c0, if_pos c1] at h3
    simp only [beGo] at h3
    have q0 := UInt8.toNat_lt b0
    have s := s2 h2
    rw [putNums_1 s]
    simp only [List.map_cons, List.map_nil]
    rw [ofNat_of (b := f) (by omega), ofNat_of (b := b0) (by omega)]
  by_cases c2 : f.toNat = 249
  ·have hb : behindN f.toNat = 2 := by unfold behindN; rw [if_neg c0, if_neg c1, if_pos c2]
   rw [hb] at htl h2
   match ts, htl with
   | [b0, b1], _ =>
    unfold rawN at h3
    rw [if_neg c0, if_neg c1, if_pos c2] at h3
    simp only [beGo] at h3
    have q0 := UInt8.toNat_lt b0
    have q1 := UInt8.toNat_lt b1
    have s := s3 h2
    rw [putNums_2 s]
    simp only [List.map_cons, List.map_nil]
    rw [ofNat_of (b := f) (by omega), ofNat_of (b := b0) (by omega), ofNat_of (b := b1) (by omega)]
  have hb : behindN f.toNat = f.toNat - 247 := by unfold behindN; rw [if_neg c0, if_neg c1, if_neg c2]
  rw [hb] at htl h2
  unfold rawN at h3
  rw [if_neg c0, if_neg c1, if_neg c2] at h3
  by_cases d3 : f.toNat = 250
  ·rw [d3] at htl h2
   match ts, htl with
   | [b0, b1, b2], _ =>
    simp only [beGo] at h3
    have qb0 := UInt8.toNat_lt b0
    have qb1 := UInt8.toNat_lt b1
    have qb2 := UInt8.toNat_lt b2
    have s := s4 h2
    rw [putNums_3 s]
    simp only [List.map_cons, List.map_nil]
    rw [ofNat_of (b := f) (by omega), ofNat_of (b := b0) (by omega), ofNat_of (b := b1) (by omega), ofNat_of (b := b2) (by omega)]
  by_cases d4 : f.toNat = 251
  ·rw [d4] at htl h2
   match ts, htl with
   | [b0, b1, b2, b3], _ =>
    simp only [beGo] at h3
    have qb0 := UInt8.toNat_lt b0
    have qb1 := UInt8.toNat_lt b1
    have qb2 := UInt8.toNat_lt b2
    have qb3 := UInt8.toNat_lt b3
    have s := s5 h2
    rw [putNums_4 s]
    simp only [List.map_cons, List.map_nil]
    rw [ofNat_of (b := f) (by omega), ofNat_of (b := b0) (by omega), ofNat_of (b := b1) (by omega), ofNat_of (b := b2) (by omega), ofNat_of (b := b3) (by omega)]
  by_cases d5 : f.toNat = 252
  ·rw [d5] at htl h2
   match ts, htl with
   | [b0, b1, b2, b3, b4], _ =>
    simp only [beGo] at h3
    have qb0 := UInt8.toNat_lt b0
    have qb1 := UInt8.toNat_lt b1
    have qb2 := UInt8.toNat_lt b2
    have qb3 := UInt8.toNat_lt b3
    have qb4 := UInt8.toNat_lt b4
    have s := s6 h2
    rw [putNums_5 s]
    simp only [List.map_cons, List.map_nil]
    rw [ofNat_of (b := f) (by omega), ofNat_of (b := b0) (by omega), ofNat_of (b := b1) (by omega), ofNat_of (b := b2) (by omega), ofNat_of (b := b3) (by omega), ofNat_of (b := b4) (by omega)]
  by_cases d6 : f.toNat = 253
  ·rw [d6] at htl h2
   match ts, htl with
   | [b0, b1, b2, b3, b4, b5], _ =>
    simp only [beGo] at h3
    have qb0 := UInt8.toNat_lt b0
    have qb1 := UInt8.toNat_lt b1
    have qb2 := UInt8.toNat_lt b2
    have qb3 := UInt8.toNat_lt b3
    have qb4 := UInt8.toNat_lt b4
    have qb5 := UInt8.toNat_lt b5
    have s := s7 h2
    rw [putNums_6 s]
    simp only [List.map_cons, List.map_nil]
    rw [ofNat_of (b := f) (by omega), ofNat_of (b := b0) (by omega), ofNat_of (b := b1) (by omega), ofNat_of (b := b2) (by omega), ofNat_of (b := b3) (by omega), ofNat_of (b := b4) (by omega), ofNat_of (b := b5) (by omega)]
  by_cases d7 : f.toNat = 254
  ·rw [d7] at htl h2
   match ts, htl with
   | [b0, b1, b2, b3, b4, b5, b6], _ =>
    simp only [beGo] at h3
    have qb0 := UInt8.toNat_lt b0
    have qb1 := UInt8.toNat_lt b1
    have qb2 := UInt8.toNat_lt b2
    have qb3 := UInt8.toNat_lt b3
    have qb4 := UInt8.toNat_lt b4
    have qb5 := UInt8.toNat_lt b5
    have qb6 := UInt8.toNat_lt b6
    have s := s8 h2
    rw [putNums_7 s]
    simp only [List.map_cons, List.map_nil]
    rw [ofNat_of (b := f) (by omega), ofNat_of (b := b0) (by omega), ofNat_of (b := b1) (by omega), ofNat_of (b := b2) (by omega), ofNat_of (b := b3) (by omega), ofNat_of (b := b4) (by omega), ofNat_of (b := b5) (by omega), ofNat_of (b := b6) (by omega)]
  have d8 : f.toNat = 255 := by omega
  rw [d8] at htl h2
  match ts, htl with
  | [b0, b1, b2, b3, b4, b5, b6, b7], _ =>
   simp only [beGo] at h3
   have qb0 := UInt8.toNat_lt b0
   have qb1 := UInt8.toNat_lt b1
   have qb2 := UInt8.toNat_lt b2
   have qb3 := UInt8.toNat_lt b3
   have qb4 := UInt8.toNat_lt b4
   have qb5 := UInt8.toNat_lt b5
   have qb6 := UInt8.toNat_lt b6
   have qb7 := UInt8.toNat_lt b7
   have s := s9 h2
   rw [putNums_8 s]
   simp only [List.map_cons, List.map_nil]
   rw [ofNat_of (b := f) (by omega), ofNat_of (b := b0) (by omega), ofNat_of (b := b1) (by omega), ofNat_of (b := b2) (by omega), ofNat_of (b := b3) (by omega), ofNat_of (b := b4) (by omega), ofNat_of (b := b5) (by omega), ofNat_of (b := b6) (by omega), ofNat_of (b := b7) (by omega)]
end Go.Proofs.YtpklkhgnjbopnaaGreatDoor
namespace Go.Proofs.YtpklkhgnjbopnaaGreatDoor
open Go Go.RowKit
structure Ent where
 seq : Int
 tm : Int
 text : ByteArray
 sum : Int
def Ent.enc (x : Ent) : List Value := [.int .u64 x.seq, .int .u64 x.tm, .string x.text, .int .u64 x.sum]
end Go.Proofs.YtpklkhgnjbopnaaGreatDoor

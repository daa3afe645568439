/- References: aviaryref02.greatest, Put; aviaryref20.num. Printed by gen_ws.py. Package aviarylaw20: cut, Few. Printed by gen_wba.py. Package wire: the wire in memory; New, Open, close. Printed by gen_wq.py. Package wire: Feed, Open, Who of a nil wire, and of a connection that is none. -/
import Derived.Test.YtpklkhgnjbopnaaGreatDoorZG2
namespace Go.Proofs.YtpklkhgnjbopnaaGreatDoor
open Go Go.RowKit Go.Shelf
def gB (n : Int) (k : Nat) : Int := n / (256 ^ k : Nat) % 256
def gS (n : Int) : Nat → ByteArray
 | 0 => ⟨#[]⟩
 | k + 1 => strOfNums [gB n k] ++ gS n k
theorem gS_size (n : Int) (k : Nat) : (gS n k).size = k := by
 induction k with
 | zero => rfl
 | succ k ih =>
  show (strOfNums [gB n k] ++ gS n k).size = _
  rw [ByteArray.size_append, ih, strOfNums_size]
  show 1 + k = k + 1
  omega
set_option maxRecDepth 100000 in
set_option maxHeartbeats 2000000 in
theorem greatest_any (n : Int) (size : Nat) (hn : U64 n) (hs : size ≤ 8) (w : World) : CR 89 #[.int .u64 n, .int .i64 size] w (.string (gS n size)) := by
 obtain ⟨hn0, hn1⟩ := hn
 go_enter Tryz.func89, Tryz.ntmps89
 go_wp2_with fail
 go_loopw [5, 6] (fun s i wr => ∃ k : Nat, s = .string (gS n k) ∧ i = .int .i64 k ∧ k ≤ size ∧ Hid (Below w.heap.size w wr)) (fun _ i _ => size - (intOf i).toNat)
 case atStart => exact ⟨0, rfl, rfl, Nat.zero_le _, Below.refl _ _⟩
 case round =>
  obtain ⟨k, rfl, rfl, hk, HB⟩ := hrel
  by_cases hlt : k < size
  ·have hgz := gS_size n k
   obtain ⟨T, hT⟩ : ∃ T, gS n k = T := ⟨_, rfl⟩
   rw [hT] at hgz ⊢
   have HT := Lib.hid hT
   clear hT
   rcases (by omega : k = 0 ∨ k = 1 ∨ k = 2 ∨ k = 3 ∨ k = 4 ∨ k = 5 ∨ k = 6 ∨ k = 7) with rfl | rfl | rfl | rfl | rfl | rfl | rfl | rfl
   ·have hg : gB n 0 = n % 256 := by
     unfold gB
     rw [show ((256 ^ 0 : Nat) : Int) = 1 from rfl]
     rw [Int.ediv_one]
    have hcv : (convert 84 9 (.slice (some ⟨wr.heap.size, 0, none⟩) 1 1)).run Tryz.prog (wr.alloc (.cells #[.int .u8 (n % 256)] 5)) = .ok (.string (strOfNums [n % 256])) (wr.alloc (.cells #[.int .u8 (n % 256)] 5)) := conv_new wr [n % 256] 1
    obtain ⟨W1, hW1, -, hB1, -⟩ := boxes1 wr #[.int .u8 (n % 256)] 5
    rw [hW1] at hcv
    have HB1 : Hid (Below w.heap.size w W1) := HB.out.trans (hB1.mono HB.out.size)
    obtain ⟨U, hU⟩ : ∃ U, strOfNums [n % 256] = U := ⟨_, rfl⟩
    have hUz : U.size = 1 := by rw [← hU, strOfNums_size]; rfl
    rw [hU] at hcv
    have HU : Hid (U ++ T = gS n (0 + 1)) := by rw [Hid, ← hU, ← HT.out, ← hg]; rfl
    have hc : ¬ 9223372036854775807 < U.size + T.size := by omega
    clear hg hB1 hU
    go_wp2_with fail
    exact ⟨⟨0 + 1, by rw [HU.out], by go_num, by omega, HB1.out⟩, by simp [intOf]; omega⟩
   ·have hg : gB n 1 = n / 256 % 256 := by
     unfold gB
     rw [show ((256 ^ 1 : Nat) : Int) = 256 from rfl]
    have hcv : (convert 84 9 (.slice (some ⟨wr.heap.size, 0, none⟩) 1 1)).run Tryz.prog (wr.alloc (.cells #[.int .u8 (n / 256 % 256)] 5)) = .ok (.string (strOfNums [n / 256 % 256])) (wr.alloc (.cells #[.int .u8 (n / 256 % 256)] 5)) := conv_new wr [n / 256 % 256] 1
    obtain ⟨W1, hW1, -, hB1, -⟩ := boxes1 wr #[.int .u8 (n / 256 % 256)] 5
    rw [hW1] at hcv
    have HB1 : Hid (Below w.heap.size w W1) := HB.out.trans (hB1.mono HB.out.size)
    obtain ⟨U, hU⟩ : ∃ U, strOfNums [n / 256 % 256] = U := ⟨_, rfl⟩
    have hUz : U.size = 1 := by rw [← hU, strOfNums_size]; rfl
    rw [hU] at hcv
    have HU : Hid (U ++ T = gS n (1 + 1)) := by rw [Hid, ← hU, ← HT.out, ← hg]; rfl
    have hc : ¬ 9223372036854775807 < U.size + T.size := by omega
    clear hg hB1 hU
    go_wp2_with fail
    exact ⟨⟨1 + 1, by rw [HU.out], by go_num, by omega, HB1.out⟩, by simp [intOf]; omega⟩
   ·have hg : gB n 2 = n / 65536 % 256 := by
     unfold gB
     rw [show ((256 ^ 2 : Nat) : Int) = 65536 from rfl]
    have hcv : (convert 84 9 (.slice (some ⟨wr.heap.size, 0, none⟩) 1 1)).run Tryz.prog (wr.alloc (.cells #[.int .u8 (n / 65536 % 256)] 5)) = .ok (.string (strOfNums [n / 65536 % 256])) (wr.alloc (.cells #[.int .u8 (n / 65536 % 256)] 5)) := conv_new wr [n / 65536 % 256] 1
    obtain ⟨W1, hW1, -, hB1, -⟩ := boxes1 wr #[.int .u8 (n / 65536 % 256)] 5
    rw [hW1] at hcv
    have HB1 : Hid (Below w.heap.size w W1) := HB.out.trans (hB1.mono HB.out.size)
    obtain ⟨U, hU⟩ : ∃ U, strOfNums [n / 65536 % 256] = U := ⟨_, rfl⟩
    have hUz : U.size = 1 := by rw [← hU, strOfNums_size]; rfl
    rw [hU] at hcv
    have HU : Hid (U ++ T = gS n (2 + 1)) := by rw [Hid, ← hU, ← HT.out, ← hg]; rfl
    have hc : ¬ 9223372036854775807 < U.size + T.size := by omega
    clear hg hB1 hU
    go_wp2_with fail
    exact ⟨⟨2 + 1, by rw [HU.out], by go_num, by omega, HB1.out⟩, by simp [intOf]; omega⟩
   ·have hg : gB n 3 = n / 16777216 % 256 := by
     unfold gB
     rw [show ((256 ^ 3 : Nat) : Int) = 16777216 from rfl]
    have hcv : (convert 84 9 (.slice (some ⟨wr.heap.size, 0, none⟩) 1 1)).run Tryz.prog (wr.alloc (.cells #[.int .u8 (n / 16777216 % 256)] 5)) = .ok (.string (strOfNums [n / 16777216 % 256])) (wr.alloc (.cells #[.int .u8 (n / 16777216 % 256)] 5)) := conv_new wr [n / 16777216 % 256] 1
    obtain ⟨W1, hW1, -, hB1, -⟩ := boxes1 wr #[.int .u8 (n / 16777216 % 256)] 5
    rw [hW1] at hcv
    have HB1 : Hid (Below w.heap.size w W1) := HB.out.trans (hB1.mono HB.out.size)
    obtain ⟨U, hU⟩ : ∃ U, strOfNums [n / 16777216 % 256] = U := ⟨_, rfl⟩
    have hUz : U.size = 1 := by rw [← hU, strOfNums_size]; rfl
    rw [hU] at hcv
    have HU : Hid (U ++ T = gS n (3 + 1)) := by rw [Hid, ← hU, ← HT.out, ← hg]; rfl
    have hc : ¬ 9223372036854775807 < U.size + T.size := by omega
    clear hg hB1 hU
    go_wp2_with fail
    exact ⟨⟨3 + 1, by rw [HU.out], by go_num, by omega, HB1.out⟩, by simp [intOf]; omega⟩
   ·have hg : gB n 4 = n / 4294967296 % 256 := by
     unfold gB
     rw [show ((256 ^ 4 : Nat) : Int) = 4294967296 from rfl]
    have hcv : (convert 84 9 (.slice (some ⟨wr.heap.size, 0, none⟩) 1 1)).run Tryz.prog (wr.alloc (.cells #[.int .u8 (n / 4294967296 % 256)] 5)) = .ok (.string (strOfNums [n / 4294967296 % 256])) (wr.alloc (.cells #[.int .u8 (n / 4294967296 % 256)] 5)) := conv_new wr [n / 4294967296 % 256] 1
    obtain ⟨W1, hW1, -, hB1, -⟩ := boxes1 wr #[.int .u8 (n / 4294967296 % 256)] 5
    rw [hW1] at hcv
    have HB1 : Hid (Below w.heap.size w W1) := HB.out.trans (hB1.mono HB.out.size)
    obtain ⟨U, hU⟩ : ∃ U, strOfNums [n / 4294967296 % 256] = U := ⟨_, rfl⟩
    have hUz : U.size = 1 := by rw [← hU, strOfNums_size]; rfl
    rw [hU] at hcv
    have HU : Hid (U ++ T = gS n (4 + 1)) := by rw [Hid, ← hU, ← HT.out, ← hg]; rfl
    have hc : ¬ 9223372036854775807 < U.size + T.size := by omega
    clear hg hB1 hU
    go_wp2_with fail
    exact ⟨⟨4 + 1, by rw [HU.out], by go_num, by omega, HB1.out⟩, by simp [intOf]; omega⟩
   ·have hg : gB n 5 = n / 1099511627776 % 256 := by
     unfold gB
     rw [show ((256 ^ 5 : Nat) : Int) = 1099511627776 from rfl]
    have hcv : (convert 84 9 (.slice (some ⟨wr.heap.size, 0, none⟩) 1 1)).run Tryz.prog (wr.alloc (.cells #[.int .u8 (n / 1099511627776 % 256)] 5)) = .ok (.string (strOfNums [n / 1099511627776 % 256])) (wr.alloc (.cells #[.int .u8 (n / 1099511627776 % 256)] 5)) := conv_new wr [n / 1099511627776 % 256] 1
    obtain ⟨W1, hW1, -, hB1, -⟩ := boxes1 wr #[.int .u8 (n / 1099511627776 % 256)] 5
    rw [hW1] at hcv
    have HB1 : Hid (Below w.heap.size w W1) := HB.out.trans (hB1.mono HB.out.size)
    obtain ⟨U, hU⟩ : ∃ U, strOfNums [n / 1099511627776 % 256] = U := ⟨_, rfl⟩
    have hUz : U.size = 1 := by rw [← hU, strOfNums_size]; rfl
    rw [hU] at hcv
    have HU : Hid (U ++ T = gS n (5 + 1)) := by rw [Hid, ← hU, ← HT.out, ← hg]; rfl
    have hc : ¬ 9223372036854775807 < U.size + T.size := by omega
    clear hg hB1 hU
    go_wp2_with fail
    exact ⟨⟨5 + 1, by rw [HU.out], by go_num, by omega, HB1.out⟩, by simp [intOf]; omega⟩
   ·have hg : gB n 6 = n / 281474976710656 % 256 := by
     unfold gB
     rw [show ((256 ^ 6 : Nat) : Int) = 281474976710656 from rfl]
    have hcv : (convert 84 9 (.slice (some ⟨wr.heap.size, 0, none⟩) 1 1)).run Tryz.prog (wr.alloc (.cells #[.int .u8 (n / 281474976710656 % 256)] 5)) = .ok (.string (strOfNums [n / 281474976710656 % 256])) (wr.alloc (.cells #[.int .u8 (n / 281474976710656 % 256)] 5)) := conv_new wr [n / 281474976710656 % 256] 1
    obtain ⟨W1, hW1, -, hB1, -⟩ := boxes1 wr #[.int .u8 (n / 281474976710656 % 256)] 5
    rw [hW1] at hcv
    have HB1 : Hid (Below w.heap.size w W1) := HB.out.trans (hB1.mono HB.out.size)
    obtain ⟨U, hU⟩ : ∃ U, strOfNums [n / 281474976710656 % 256] = U := ⟨_, rfl⟩
    have hUz : U.size = 1 := by rw [← hU, strOfNums_size]; rfl
    rw [hU] at hcv
    have HU : Hid (U ++ T = gS n (6 + 1)) := by rw [Hid, ← hU, ← HT.out, ← hg]; rfl
    have hc : ¬ 9223372036854775807 < U.size + T.size := by omega
    clear hg hB1 hU
    go_wp2_with fail
    exact ⟨⟨6 + 1, by rw [HU.out], by go_num, by omega, HB1.out⟩, by simp [intOf]; omega⟩
   ·have hg : gB n 7 = n / 72057594037927936 := by
     unfold gB
     rw [show ((256 ^ 7 : Nat) : Int) = 72057594037927936 from rfl]
     omega
    have hcv : (convert 84 9 (.slice (some ⟨wr.heap.size, 0, none⟩) 1 1)).run Tryz.prog (wr.alloc (.cells #[.int .u8 (n / 72057594037927936)] 5)) = .ok (.string (strOfNums [n / 72057594037927936])) (wr.alloc (.cells #[.int .u8 (n / 72057594037927936)] 5)) := conv_new wr [n / 72057594037927936] 1
    obtain ⟨W1, hW1, -, hB1, -⟩ := boxes1 wr #[.int .u8 (n / 72057594037927936)] 5
    rw [hW1] at hcv
    have HB1 : Hid (Below w.heap.size w W1) := HB.out.trans (hB1.mono HB.out.size)
    obtain ⟨U, hU⟩ : ∃ U, strOfNums [n / 72057594037927936] = U := ⟨_, rfl⟩
    have hUz : U.size = 1 := by rw [← hU, strOfNums_size]; rfl
    rw [hU] at hcv
    have HU : Hid (U ++ T = gS n (7 + 1)) := by rw [Hid, ← hU, ← HT.out, ← hg]; rfl
    have hc : ¬ 9223372036854775807 < U.size + T.size := by omega
    clear hg hB1 hU
    go_wp2_with fail
    exact ⟨⟨7 + 1, by rw [HU.out], by go_num, by omega, HB1.out⟩, by simp [intOf]; omega⟩
  ·obtain rfl : k = size := by omega
   go_wp2_with fail
   go_ret
   exact ⟨rfl, HB.out⟩
def sizeR (n : Int) : Nat := if n < 16777216 then 3 else if n < 4294967296 then 4 else if n < 1099511627776 then 5 else if n < 281474976710656 then 6 else if n < 72057594037927936 then 7 else 8
def putR (n : Int) : ByteArray := if n ≤ 240 then gS n 1 else if n ≤ 2287 then gS (241 + (n - 240) / 256) 1 ++ gS (n - 240) 1 else if n ≤ 67823 then gS 249 1 ++ gS (n - 2288) 2 else gS (247 + sizeR n) 1 ++ gS n (sizeR n)
theorem sizeR_le (n : Int) : 3 ≤ sizeR n ∧ sizeR n ≤ 8 := by
 unfold sizeR
 repeat' split
 all_goals omega
theorem putR_size (n : Int) : (putR n).size ≤ 9 := by
 unfold putR
 repeat' split
 all_goals (try rw [ByteArray.size_append]); (try simp only [gS_size]); (have := sizeR_le n); omega
set_option maxRecDepth 100000 in
set_option maxHeartbeats 2000000 in
theorem refPut_any (n : Int) (hn : U64 n) (w : World) : CR 57 #[.int .u64 n] w (.string (putR n)) := by
 obtain ⟨hn0, hn1⟩ := hn
 have HG := Lib.hid fun m k (hm : U64 m) (hk : k ≤ 8) V => greatest_any m k hm hk V
 unfold putR
 by_cases h1 : n ≤ 240
 ·rw [if_pos h1]
  go_enter Tryz.func57, Tryz.ntmps57
  go_wp2_with fail
  refine (HG.out n 1 ⟨hn0, hn1⟩ (by decide) _).mono ?_
  rintro e w1 ⟨rfl, hb⟩
  have HB := Lib.hid hb
  clear hb
  go_wp2_with fail
  go_ret
  exact ⟨rfl, HB.out⟩
 ·rw [if_neg h1]
  by_cases h2 : n ≤ 2287
  ·rw [if_pos h2]
   have HG1 := Lib.hid fun V => HG.out (241 + (n - 240) / 256) 1 ⟨by omega, by omega⟩ (by decide) V
   have HG2 := Lib.hid fun V => HG.out (n - 240) 1 ⟨by omega, by omega⟩ (by decide) V
   have hz1 := gS_size (241 + (n - 240) / 256) 1
   have hz2 := gS_size (n - 240) 1
   obtain ⟨T1, hT1⟩ : ∃ T, gS (241 + (n - 240) / 256) 1 = T := ⟨_, rfl⟩
   obtain ⟨T2, hT2⟩ : ∃ T, gS (n - 240) 1 = T := ⟨_, rfl⟩
   rw [hT1] at HG1 hz1 ⊢
   rw [hT2] at HG2 hz2 ⊢
   have hc : ¬ 9223372036854775807 < T1.size + T2.size := by omega
   clear hT1 hT2
   go_enter Tryz.func57, Tryz.ntmps57
   go_wp2_with fail
   refine (HG1.out _).mono ?_
   rintro e w1 ⟨rfl, hb⟩
   have HB1 := Lib.hid hb
   clear hb
   go_wp2_with fail
   refine (HG2.out _).mono ?_
   rintro e w2 ⟨rfl, hb⟩
   have HB2 : Hid (Below w.heap.size w w2) := HB1.out.trans (hb.mono HB1.out.size)
   clear hb
   go_wp2_with fail
   go_ret
   exact ⟨rfl, HB2.out⟩
  ·rw [if_neg h2]
   by_cases h3 : n ≤ 67823
   ·rw [if_pos h3]
    have HG1 := Lib.hid fun V => HG.out (249) 1 ⟨by omega, by omega⟩ (by decide) V
    have HG2 := Lib.hid fun V => HG.out (n - 2288) 2 ⟨by omega, by omega⟩ (by decide) V
    have hz1 := gS_size (249) 1
    have hz2 := gS_size (n - 2288) 2
    obtain ⟨T1, hT1⟩ : ∃ T, gS (249) 1 = T := ⟨_, rfl⟩
    obtain ⟨T2, hT2⟩ : ∃ T, gS (n - 2288) 2 = T := ⟨_, rfl⟩
    rw [hT1] at HG1 hz1 ⊢
    rw [hT2] at HG2 hz2 ⊢
    have hc : ¬ 9223372036854775807 < T1.size + T2.size := by omega
    clear hT1 hT2
    go_enter Tryz.func57, Tryz.ntmps57
    go_wp2_with fail
    refine (HG1.out _).mono ?_
    rintro e w1 ⟨rfl, hb⟩
    have HB1 := Lib.hid hb
    clear hb
    go_wp2_with fail
    refine (HG2.out _).mono ?_
    rintro e w2 ⟨rfl, hb⟩
    have HB2 : Hid (Below w.heap.size w w2) := HB1.out.trans (hb.mono HB1.out.size)
    clear hb
    go_wp2_with fail
    go_ret
    exact ⟨rfl, HB2.out⟩
   ·rw [if_neg h3]
    obtain ⟨R, hR⟩ : ∃ R, gS (247 + sizeR n) 1 ++ gS n (sizeR n) = R := ⟨_, rfl⟩
    rw [hR]
    have HR := Lib.hid hR
    clear hR
    go_enter Tryz.func57, Tryz.ntmps57
    go_wp2_with fail
    go_loopw [3] (fun s wr => wr = w ∧ ∃ k : Nat, s = .int .i64 k ∧ 3 ≤ k ∧ k ≤ 8 ∧ 256 ^ (k - 1) ≤ n) (fun s _ => 8 - (intOf s).toNat)
    case atStart => exact ⟨rfl, 3, rfl, by decide, by decide, by show (65536 : Int) ≤ n; omega⟩
    case round =>
     obtain ⟨rfl, k, rfl, hk3, hk8, hkn⟩ := hrel
     rcases (by omega : k = 3 ∨ k = 4 ∨ k = 5 ∨ k = 6 ∨ k = 7 ∨ k = 8) with rfl | rfl | rfl | rfl | rfl | rfl
     ·have hkn : (65536 : Int) ≤ n := hkn
      by_cases hq : n < 16777216
      ·have q0 : n / 16777216 = 0 := by omega
       have q1 : (n / 16777216 == 0) = true := by rw [q0]; rfl
       have hs : sizeR n = 3 := by
        unfold sizeR
        rw [if_pos hq]
       have HG1 := Lib.hid fun V => HG.out 250 1 ⟨by omega, by omega⟩ (by decide) V
       have HG2 := Lib.hid fun V => HG.out n 3 ⟨by omega, by omega⟩ (by decide) V
       have hz1 := gS_size 250 1
       have hz2 := gS_size n 3
       obtain ⟨T1, hT1⟩ : ∃ T, gS 250 1 = T := ⟨_, rfl⟩
       obtain ⟨T2, hT2⟩ : ∃ T, gS n 3 = T := ⟨_, rfl⟩
       have HE : Hid (T1 ++ T2 = R) := by rw [Hid, ← hT1, ← hT2, ← HR.out, hs]; rfl
       rw [hT1] at HG1 hz1
       rw [hT2] at HG2 hz2
       have hc : ¬ 9223372036854775807 < T1.size + T2.size := by omega
       clear hT1 hT2 hs
       go_wp2_with fail
       refine (HG1.out _).mono ?_
       rintro e w1 ⟨rfl, hb⟩
       have HB1 := Lib.hid hb
       clear hb
       go_wp2_with fail
       refine (HG2.out _).mono ?_
       rintro e w2 ⟨rfl, hb⟩
       have HB2 : Hid (Below wr.heap.size wr w2) := HB1.out.trans (hb.mono HB1.out.size)
       clear hb
       go_wp2_with fail
       go_ret
       exact ⟨by rw [HE.out]; rfl, HB2.out⟩
      ·have q0 : ¬ n / 16777216 = 0 := by omega
       have q1 : (n / 16777216 == 0) = false := beq_eq_false_iff_ne.2 q0
       go_wp2_with fail
       exact ⟨⟨trivial, 4, by go_num, by omega, by omega, by show (16777216 : Int) ≤ n; omega⟩, by simp [intOf]⟩
     ·have hkn : (16777216 : Int) ≤ n := hkn
      by_cases hq : n < 4294967296
      ·have q0 : n / 4294967296 = 0 := by omega
       have q1 : (n / 4294967296 == 0) = true := by rw [q0]; rfl
       have hs : sizeR n = 4 := by
        unfold sizeR
        rw [if_neg (by omega)]; rw [if_pos hq]
       have HG1 := Lib.hid fun V => HG.out 251 1 ⟨by omega, by omega⟩ (by decide) V
       have HG2 := Lib.hid fun V => HG.out n 4 ⟨by omega, by omega⟩ (by decide) V
       have hz1 := gS_size 251 1
       have hz2 := gS_size n 4
       obtain ⟨T1, hT1⟩ : ∃ T, gS 251 1 = T := ⟨_, rfl⟩
       obtain ⟨T2, hT2⟩ : ∃ T, gS n 4 = T := ⟨_, rfl⟩
       have HE : Hid (T1 ++ T2 = R) := by rw [Hid, ← hT1, ← hT2, ← HR.out, hs]; rfl
       rw [hT1] at HG1 hz1
       rw [hT2] at HG2 hz2
       have hc : ¬ 9223372036854775807 < T1.size + T2.size := by omega
       clear hT1 hT2 hs
       go_wp2_with fail
       refine (HG1.out _).mono ?_
       rintro e w1 ⟨rfl, hb⟩
       have HB1 := Lib.hid hb
       clear hb
       go_wp2_with fail
       refine (HG2.out _).mono ?_
       rintro e w2 ⟨rfl, hb⟩
       have HB2 : Hid (Below wr.heap.size wr w2) := HB1.out.trans (hb.mono HB1.out.size)
       clear hb
       go_wp2_with fail
       go_ret
       exact ⟨by rw [HE.out]; rfl, HB2.out⟩
      ·have q0 : ¬ n / 4294967296 = 0 := by omega
       have q1 : (n / 4294967296 == 0) = false := beq_eq_false_iff_ne.2 q0
       go_wp2_with fail
       exact ⟨⟨trivial, 5, by go_num, by omega, by omega, by show (4294967296 : Int) ≤ n; omega⟩, by simp [intOf]⟩
     ·have hkn : (4294967296 : Int) ≤ n := hkn
      by_cases hq : n < 1099511627776
      ·have q0 : n / 1099511627776 = 0 := by omega
       have q1 : (n / 1099511627776 == 0) = true := by rw [q0]; rfl
       have hs : sizeR n = 5 := by
        unfold sizeR
        rw [if_neg (by omega)]; rw [if_neg (by omega)]; rw [if_pos hq]
       have HG1 := Lib.hid fun V => HG.out 252 1 ⟨by omega, by omega⟩ (by decide) V
       have HG2 := Lib.hid fun V => HG.out n 5 ⟨by omega, by omega⟩ (by decide) V
       have hz1 := gS_size 252 1
       have hz2 := gS_size n 5
       obtain ⟨T1, hT1⟩ : ∃ T, gS 252 1 = T := ⟨_, rfl⟩
       obtain ⟨T2, hT2⟩ : ∃ T, gS n 5 = T := ⟨_, rfl⟩
       have HE : Hid (T1 ++ T2 = R) := by rw [Hid, ← hT1, ← hT2, ← HR.out, hs]; rfl
       rw [hT1] at HG1 hz1
       rw [hT2] at HG2 hz2
       have hc : ¬ 9223372036854775807 < T1.size + T2.size := by omega
       clear hT1 hT2 hs
       go_wp2_with fail
       refine (HG1.out _).mono ?_
       rintro e w1 ⟨rfl, hb⟩
       have HB1 := Lib.hid hb
       clear hb
       go_wp2_with fail
       refine (HG2.out _).mono ?_
       rintro e w2 ⟨rfl, hb⟩
       have HB2 : Hid (Below wr.heap.size wr w2) := HB1.out.trans (hb.mono HB1.out.size)
       clear hb
       go_wp2_with fail
       go_ret
       exact ⟨by rw [HE.out]; rfl, HB2.out⟩
      ·have q0 : ¬ n / 1099511627776 = 0 := by omega
       have q1 : (n / 1099511627776 == 0) = false := beq_eq_false_iff_ne.2 q0
       go_wp2_with fail
       exact ⟨⟨trivial, 6, by go_num, by omega, by omega, by show (1099511627776 : Int) ≤ n; omega⟩, by simp [intOf]⟩
     ·have hkn : (1099511627776 : Int) ≤ n := hkn
      by_cases hq : n < 281474976710656
      ·have q0 : n / 281474976710656 = 0 := by omega
       have q1 : (n / 281474976710656 == 0) = true := by rw [q0]; rfl
       have hs : sizeR n = 6 := by
        unfold sizeR
        rw [if_neg (by omega)]; rw [if_neg (by omega)]; rw [if_neg (by omega)]; rw [if_pos hq]
       have HG1 := Lib.hid fun V => HG.out 253 1 ⟨by omega, by omega⟩ (by decide) V
       have HG2 := Lib.hid fun V => HG.out n 6 ⟨by omega, by omega⟩ (by decide) V
       have hz1 := gS_size 253 1
       have hz2 := gS_size n 6
       obtain ⟨T1, hT1⟩ : ∃ T, gS 253 1 = T := ⟨_, rfl⟩
       obtain ⟨T2, hT2⟩ : ∃ T, gS n 6 = T := ⟨_, rfl⟩
       have HE : Hid (T1 ++ T2 = R) := by rw [Hid, ← hT1, ← hT2, ← HR.out, hs]; rfl
       rw [hT1] at HG1 hz1
       rw [hT2] at HG2 hz2
       have hc : ¬ 9223372036854775807 < T1.size + T2.size := by omega
       clear hT1 hT2 hs
       go_wp2_with fail
       refine (HG1.out _).mono ?_
       rintro e w1 ⟨rfl, hb⟩
       have HB1 := Lib.hid hb
       clear hb
       go_wp2_with fail
       refine (HG2.out _).mono ?_
       rintro e w2 ⟨rfl, hb⟩
       have HB2 : Hid (Below wr.heap.size wr w2) := HB1.out.trans (hb.mono HB1.out.size)
       clear hb
       go_wp2_with fail
       go_ret
       exact ⟨by rw [HE.out]; rfl, HB2.out⟩
      ·have q0 : ¬ n / 281474976710656 = 0 := by omega
       have q1 : (n / 281474976710656 == 0) = false := beq_eq_false_iff_ne.2 q0
       go_wp2_with fail
       exact ⟨⟨trivial, 7, by go_num, by omega, by omega, by show (281474976710656 : Int) ≤ n; omega⟩, by simp [intOf]⟩
     ·have hkn : (281474976710656 : Int) ≤ n := hkn
      by_cases hq : n < 72057594037927936
      ·have q0 : n / 72057594037927936 = 0 := by omega
       have q1 : (n / 72057594037927936 == 0) = true := by rw [q0]; rfl
       have hs : sizeR n = 7 := by
        unfold sizeR
        rw [if_neg (by omega)]; rw [if_neg (by omega)]; rw [if_neg (by omega)]; rw [if_neg (by omega)]; rw [if_pos hq]
       have HG1 := Lib.hid fun V => HG.out 254 1 ⟨by omega, by omega⟩ (by decide) V
       have HG2 := Lib.hid fun V => HG.out n 7 ⟨by omega, by omega⟩ (by decide) V
       have hz1 := gS_size 254 1
       have hz2 := gS_size n 7
       obtain ⟨T1, hT1⟩ : ∃ T, gS 254 1 = T := ⟨_, rfl⟩
       obtain ⟨T2, hT2⟩ : ∃ T, gS n 7 = T := ⟨_, rfl⟩
       have HE : Hid (T1 ++ T2 = R) := by rw [Hid, ← hT1, ← hT2, ← HR.out, hs]; rfl
       rw [hT1] at HG1 hz1
       rw [hT2] at HG2 hz2
       have hc : ¬ 9223372036854775807 < T1.size + T2.size := by omega
       clear hT1 hT2 hs
       go_wp2_with fail
       refine (HG1.out _).mono ?_
       rintro e w1 ⟨rfl, hb⟩
       have HB1 := Lib.hid hb
       clear hb
       go_wp2_with fail
       refine (HG2.out _).mono ?_
       rintro e w2 ⟨rfl, hb⟩
       have HB2 : Hid (Below wr.heap.size wr w2) := HB1.out.trans (hb.mono HB1.out.size)
       clear hb
       go_wp2_with fail
       go_ret
       exact ⟨by rw [HE.out]; rfl, HB2.out⟩
      ·have q0 : ¬ n / 72057594037927936 = 0 := by omega
       have q1 : (n / 72057594037927936 == 0) = false := beq_eq_false_iff_ne.2 q0
       go_wp2_with fail
       exact ⟨⟨trivial, 8, by go_num, by omega, by omega, by show (72057594037927936 : Int) ≤ n; omega⟩, by simp [intOf]⟩
     ·have hkn : (72057594037927936 : Int) ≤ n := hkn
      have hs : sizeR n = 8 := by
       unfold sizeR
       rw [if_neg (by omega)]; rw [if_neg (by omega)]; rw [if_neg (by omega)]; rw [if_neg (by omega)]; rw [if_neg (by omega)]
      have HG1 := Lib.hid fun V => HG.out 255 1 ⟨by omega, by omega⟩ (by decide) V
      have HG2 := Lib.hid fun V => HG.out n 8 ⟨by omega, by omega⟩ (by decide) V
      have hz1 := gS_size 255 1
      have hz2 := gS_size n 8
      obtain ⟨T1, hT1⟩ : ∃ T, gS 255 1 = T := ⟨_, rfl⟩
      obtain ⟨T2, hT2⟩ : ∃ T, gS n 8 = T := ⟨_, rfl⟩
      have HE : Hid (T1 ++ T2 = R) := by rw [Hid, ← hT1, ← hT2, ← HR.out, hs]; rfl
      rw [hT1] at HG1 hz1
      rw [hT2] at HG2 hz2
      have hc : ¬ 9223372036854775807 < T1.size + T2.size := by omega
      clear hT1 hT2 hs
      go_wp2_with fail
      refine (HG1.out _).mono ?_
      rintro e w1 ⟨rfl, hb⟩
      have HB1 := Lib.hid hb
      clear hb
      go_wp2_with fail
      refine (HG2.out _).mono ?_
      rintro e w2 ⟨rfl, hb⟩
      have HB2 : Hid (Below wr.heap.size wr w2) := HB1.out.trans (hb.mono HB1.out.size)
      clear hb
      go_wp2_with fail
      go_ret
      exact ⟨by rw [HE.out]; rfl, HB2.out⟩
end Go.Proofs.YtpklkhgnjbopnaaGreatDoor
namespace Go.Proofs.YtpklkhgnjbopnaaGreatDoor
open Go Go.RowKit Go.Shelf
def cutS (n : Nat) (s : ByteArray) : ByteArray := s.extract 0 (min s.size n)
theorem cut20_any (s : ByteArray) (w : World) : Calls Tryz.prog 9 #[.string s] w fun e w' => e = .returned (.string (cutS 2010 s)) ∧ w' = w := by
 have hm : (min (s.size : Int) 2010).toNat = min s.size 2010 := by omega
 unfold cutS
 go_enter Tryz.func9, Tryz.ntmps9
 go_wp2_with fail
 go_ret
 exact ⟨rfl, rfl⟩
end Go.Proofs.YtpklkhgnjbopnaaGreatDoor
namespace Go.Proofs.YtpklkhgnjbopnaaGreatDoor
open Go Go.RowKit Go.Shelf
theorem wnone_nil (w : World) : Calls Tryz.prog 33 #[.pointer none] w fun e w' => e = .returned (.bool true) ∧ w' = w := by
 go_enter Tryz.func33, Tryz.ntmps33
 go_wp2_with fail
 go_ret
 exact ⟨rfl, rfl⟩
end Go.Proofs.YtpklkhgnjbopnaaGreatDoor
namespace Go.Proofs.YtpklkhgnjbopnaaGreatDoor
open Go Go.RowKit Go.Shelf
theorem Feed_nil (n : Int) (s : ByteArray) (w : World) : CR 8 #[.pointer none, .int .i64 n, .string s] w (.tuple #[.string ⟨#[]⟩, .int .i64 1]) := by
 have HN := Lib.hid fun V => wnone_nil V
 go_enter Tryz.func8, Tryz.ntmps8
 go_wp2_with fail
 refine (HN.out _).mono ?_
 rintro e w1 ⟨rfl, hw⟩
 have hw := hw.symm
 subst hw
 go_wp2_with fail
 go_ret2
 exact ⟨rfl, Below.refl _ _⟩
theorem Feed_arg (b : Addr) (n : Int) (s : ByteArray) (w : World) (h : (decide (0 ≤ n) && decide (n < 16)) = false) : CR 8 #[.pointer (some b), .int .i64 n, .string s] w (.tuple #[.string ⟨#[]⟩, .int .i64 2]) := by
 have HN := Lib.hid fun V => wnone_some b V
 have hI := fun V => isConn_any n V
 rw [h] at hI
 have HI := Lib.hid hI
 clear h hI
 go_enter Tryz.func8, Tryz.ntmps8
 go_wp2_with fail
 refine (HN.out _).mono ?_
 rintro e w1 ⟨rfl, hw⟩
 have hw := hw.symm
 subst hw
 go_wp2_with fail
 refine (HI.out _).mono ?_
 rintro e w2 ⟨rfl, hw⟩
 have hw := hw.symm
 subst hw
 go_wp2_with fail
 go_ret2
 exact ⟨rfl, Below.refl _ _⟩
theorem Open_nil (n : Int) (w : World) : Calls Tryz.prog 12 #[.pointer none, .int .i64 n] w fun e w' => e = .returned (.bool false) ∧ w' = w := by
 have HN := Lib.hid fun V => wnone_nil V
 go_enter Tryz.func12, Tryz.ntmps12
 go_wp2_with fail
 refine (HN.out _).mono ?_
 rintro e w1 ⟨rfl, hw⟩
 have hw := hw.symm
 subst hw
 go_wp2_with fail
 go_ret
 exact ⟨rfl, rfl⟩
theorem Open_arg (b : Addr) (n : Int) (w : World) (h : (decide (0 ≤ n) && decide (n < 16)) = false) : Calls Tryz.prog 12 #[.pointer (some b), .int .i64 n] w fun e w' => e = .returned (.bool false) ∧ w' = w := by
 have HN := Lib.hid fun V => wnone_some b V
 have hI := fun V => isConn_any n V
 rw [h] at hI
 have HI := Lib.hid hI
 clear h hI
 go_enter Tryz.func12, Tryz.ntmps12
 go_wp2_with fail
 refine (HN.out _).mono ?_
 rintro e w1 ⟨rfl, hw⟩
 have hw := hw.symm
 subst hw
 go_wp2_with fail
 refine (HI.out _).mono ?_
 rintro e w2 ⟨rfl, hw⟩
 have hw := hw.symm
 subst hw
 go_wp2_with fail
 go_ret
 exact ⟨rfl, rfl⟩
theorem Who_shut (v : Value) (n : Int) (w : World) (hO : ∀ V, Calls Tryz.prog 12 #[v, .int .i64 n] V fun e w' => e = .returned (.bool false) ∧ w' = V) : CR 10 #[v, .int .i64 n] w (.tuple #[.agg #[.int .u64 0, .int .i64 0, .int .u64 0], .bool false]) := by
 obtain ⟨W, hW, hX, hB, -⟩ := boxes1 w #[.int .u64 0, .int .i64 0, .int .u64 0] 34
 have HO := Lib.hid hO
 obtain ⟨c0, c1, c2⟩ := cl3 hX
 obtain ⟨f0, f1, f2⟩ := cz3 hX
 have s0 : W.setCell ⟨w.heap.size, 0, none⟩ (.int .u64 0) = W := set_same hX rfl
 have s1 : W.setCell ⟨w.heap.size, 1, none⟩ (.int .i64 0) = W := set_same hX rfl
 have s2 : W.setCell ⟨w.heap.size, 2, none⟩ (.int .u64 0) = W := set_same hX rfl
 have HB := Lib.hid hB
 clear hX hB hO
 go_enter Tryz.func10, Tryz.ntmps10
 go_wp2_with fail
 refine (HO.out _).mono ?_
 rintro e w1 ⟨rfl, hw⟩
 subst hw
 go_wp2_with fail
 exact bodyPost_ret (v := .tuple #[.agg #[.int .u64 0, .int .i64 0, .int .u64 0], .bool false]) (by simp [results, Tryz.results10, go_sem, c0, c1, c2]) rfl ⟨rfl, HB.out⟩
end Go.Proofs.YtpklkhgnjbopnaaGreatDoor

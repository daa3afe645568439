/- Package frame: Make. References: aviaryref02.greatest, Put; aviaryref20.num. Printed by gen_ws.py. Package wire: made, Ask. Package wire: Hello. Printed by gen_wi.py. Package wire: framed. Package wire: messageOf. -/
import Derived.Test.YtpklkhgnjbopnaaGreatDoorVWf
namespace Go.Proofs.YtpklkhgnjbopnaaGreatDoor
open Go Go.RowKit Go.Shelf
theorem und_bytes' : Tryz.prog.underlying 84 = some (.slice 5) := by kernel_rfl
theorem und_string' : Tryz.prog.underlying 9 = some .string := by kernel_rfl
theorem info_u8' : (Tryz.prog.info? 5).map (fun i => (i.zero, i.size, i.bytes)) = some (some (.int .u8 0), 1, 1) := by kernel_rfl
def encY (x : UInt8) : List Value := [.int .u8 x.toNat]
theorem encY_cells (l : List UInt8) : l.flatMap encY = Lib.byteCells l := by
 induction l with
 | nil => rfl
 | cons x l ih => rw [List.flatMap_cons, ih]; rfl
set_option maxRecDepth 100000 in
theorem four_cells (n : Nat) (hn : n < 4294967296) : #[Value.int .u8 ((n : Int) / 16777216), .int .u8 ((n : Int) / 65536 % 256), .int .u8 ((n : Int) / 256 % 256), .int .u8 ((n : Int) % 256)] = (Lib.byteCells (fourB n)).toArray := by
 have e : (n : Int) / 16777216 = ((n / 16777216 % 256 : Nat) : Int) := by omega
 have e2 : (n : Int) / 65536 % 256 = ((n / 65536 % 256 : Nat) : Int) := by omega
 have e3 : (n : Int) / 256 % 256 = ((n / 256 % 256 : Nat) : Int) := by omega
 have e4 : (n : Int) % 256 = ((n % 256 : Nat) : Int) := by omega
 rw [e, e2, e3, e4, ← u8_of (n / 16777216), ← u8_of (n / 65536), ← u8_of (n / 256), ← u8_of n]
 rfl
theorem nums_bytes (l : List UInt8) : strOfNums (l.map fun b => (b.toNat : Int)) = ⟨l.toArray⟩ := by
 have h : ((fun n : Int => UInt8.ofNat n.toNat) ∘ fun b : UInt8 => (b.toNat : Int)) = id := funext fun b => by
  show UInt8.ofNat ((b.toNat : Int)).toNat = b
  rw [Int.toNat_natCast]
  exact UInt8.ofNat_toNat
 unfold strOfNums
 rw [List.map_map, h, List.map_id]
attribute [-go_sem] Builtin.append_
set_option maxRecDepth 100000 in
set_option maxHeartbeats 1000000 in
theorem Make_ok (s : ByteArray) (h1 : 0 < s.size) (h2 : s.size ≤ 2000) (w : World) :
  Calls Tryz.prog 73 #[.string s] w fun e w' => e = .returned (.tuple #[.string ⟨(mkF s.data.toList).toArray⟩, .int .i64 0]) ∧ Below w.heap.size w w' := by
 have he2 : s.toList.isEmpty = false := by
  rw [toList_isEmpty, beq_eq_false_iff_ne]
  omega
 have hne : ¬ s.toList = [] := by
  intro e
  rw [e] at he2
  cases he2
 obtain ⟨W, hW, hX, hB, hsz⟩ := boxes1 w #[.int .u8 167] 5
 have hP := field_Put_any (s.size : Int) W ⟨by omega, by omega⟩
 have HP := Lib.hid hP
 have hown : W.ownsRow w.heap.size 5 1 (.slice (some ⟨w.heap.size, 0, none⟩) 1 1) 1 (Lib.byteCells [167]) := ⟨rfl, .inr ⟨w.heap.size, 1, #[.int .u8 167], rfl, Nat.le_refl _, hX, Nat.le_refl _, by unfold maxLen; omega, rfl, rfl⟩⟩
 have HO := Lib.hid hown
 have HB := Lib.hid hB
 have HZ : Hid (w.heap.size ≤ W.heap.size) := by rw [Hid]; omega
 clear hX hB hsz hP hown
 have hle : ¬ (2000 < (s.size : Int)) := by omega
 go_enter Tryz.func73, Tryz.ntmps73
 go_wp2_with fail
 refine HP.out.mono ?_
 rintro e w1 ⟨rfl, hb1⟩
 obtain ⟨iu, hi, hz0, hz1, hz2⟩ := info_parts info_u8'
 have hpl : (strOfNums (putNums s.size)).size ≤ 9 := by rw [strOfNums_size]; have := numsB_one_len (s.size : Int); rw [numsB_one, List.length_map] at this; exact this.2
 obtain ⟨v1, w2, hap1, ho1, hg1, -⟩ := Lib.run_append_own_string (P := Tryz.prog) w1 w.heap.size 84 9 84 5 iu und_bytes' und_string' hi hz0 hz1 hz2 _ 1 _ (owns_go8 HO.out hb1) (strOfNums (putNums s.size)) (by unfold maxLen; omega) (by omega) (Nat.le_trans HZ.out hb1.size)
 have HO1 := Lib.hid ho1
 have hb1' : Below w.heap.size w w1 := HB.out.trans (hb1.mono HZ.out)
 have HB1 : Hid (Below w.heap.size w w2) := hb1'.grown hg1 hb1'.size (fun k hk => ((owns_go8 HO.out hb1).lt k hk).1)
 have HZ1 : Hid (w.heap.size ≤ w2.heap.size) := HB1.out.size
 obtain ⟨v2, w3, hap2, ho2, hg2, -⟩ := Lib.run_append_own_string (P := Tryz.prog) w2 w.heap.size 84 9 84 5 iu und_bytes' und_string' hi hz0 hz1 hz2 _ _ _ HO1.out s (by unfold maxLen; omega) (by omega) HZ1.out
 have HO2 := Lib.hid ho2
 have HB2 : Hid (Below w.heap.size w w3) := HB1.out.grown hg2 HB1.out.size (fun k hk => (HO1.out.lt k hk).1)
 have HZ2 : Hid (w.heap.size ≤ w3.heap.size) := HB2.out.size
 have HC := Lib.hid (Check_any s (by omega) w3)
 clear hb1 ho1 hg1 ho2 hg2 hb1' hi hz0 hz1 hz2
 go_wp2_with fail
 refine HC.out.mono ?_
 rintro e w4 ⟨rfl, hb4⟩
 have hn := checkN_lt s.data.toList
 obtain ⟨n, hcn⟩ : ∃ n, checkN s.data.toList = n := ⟨_, rfl⟩
 rw [hcn] at hn ⊢
 have HB4 : Hid (Below w.heap.size w w4) := HB2.out.trans (hb4.mono HZ2.out)
 have hO4 := owns_go8 HO2.out hb4
 obtain ⟨Z, hZ, hZX, hZB, hZs⟩ := boxes1 w4 #[.int .u8 ((n : Int) / 16777216), .int .u8 ((n : Int) / 65536 % 256), .int .u8 ((n : Int) / 256 % 256), .int .u8 ((n : Int) % 256)] 5
 rw [four_cells n hn] at hZX
 have hsrc : SlE encY 1 Z.heap.size Z (some ⟨w4.heap.size, 0, none⟩) 4 (fourB n) := ⟨rfl, fun j x hx => ⟨_, 0, rfl, by omega, fun i hi => by
  obtain rfl : i = 0 := by omega
  rw [show 0 + j * 1 + 0 = j by omega, cCc hZX j]
  unfold Lib.byteCells
  simp [encY, hx]⟩⟩
 have hbZ : Below w.heap.size w Z := HB4.out.trans (hZB.mono HB4.out.size)
 obtain ⟨v5, w5, hap5, ho5, hB5, -⟩ := append_elems Tryz.prog (w0 := w) (B := w.heap.size) (base := w.heap.size) (cap := 4) 84 und_bytes' info_u8' rfl (by decide) (owns_go8 hO4 hZB) hbZ (Nat.le_refl _) hbZ.size (fun x => rfl) hsrc (fun x u hu => by simp [encY] at hu; subst hu; rfl) (by omega) (by omega) (by decide)
 have hall : Lib.byteCells [167] ++ Lib.strCells (strOfNums (putNums s.size)) ++ Lib.strCells s ++ (fourB n).flatMap encY = ((mkF s.data.toList).map fun b => (b.toNat : Int)).map (Value.int .u8) := by
  rw [encY_cells, strCells_nums, Lib.strCells_eq, ← Lib.byteCells_append, ← Lib.byteCells_append, ← Lib.byteCells_append]
  unfold mkF Lib.byteCells
  rw [hcn, numsB_one, List.map_map, Array.length_toList, List.append_assoc, List.append_assoc]
  rfl
 rw [hall] at ho5
 have hlen : 1 + (strOfNums (putNums s.size)).size + s.size + 4 = ((mkF s.data.toList).map fun b => (b.toNat : Int)).length := by
  have := ho5.1
  rw [List.length_map] at this
  omega
 have hcv := conv_own _ hlen (by omega) ho5
 have hst : strOfNums ((mkF s.data.toList).map fun b => (b.toNat : Int)) = ⟨(mkF s.data.toList).toArray⟩ := nums_bytes _
 rw [hst] at hcv
 have HB5 := Lib.hid hB5
 clear hb4 HC hO4 hZX hZB hZs hsrc hbZ ho5 hB5 hall hlen hst
 go_wp2_with fail
 go_ret2
 exact ⟨rfl, HB5.out⟩
end Go.Proofs.YtpklkhgnjbopnaaGreatDoor
namespace Go.Proofs.YtpklkhgnjbopnaaGreatDoor
open Go Go.RowKit Go.Shelf
def gB (n : Int) (k : Nat) : Int := n / (256 ^ k : Nat) % 256
def gS (n : Int) : Nat → ByteArray
 | 0 => ⟨#[]⟩
 | k + 1 => strOfNums [gB n k] ++ gS n k
theorem gS_size (n : Int) (k : Nat) : (gS n k).size = k := by
 induction k with
 | zero => rfl
 | succ k ih =>
  show (strOfNums [gB n k] ++ gS n k).size = _
  rw [ByteArray.size_append, ih, strOfNums_size]
  show 1 + k = k + 1
  omega
set_option maxRecDepth 100000 in
set_option maxHeartbeats 2000000 in
theorem greatest_any (n : Int) (size : Nat) (hn : U64 n) (hs : size ≤ 8) (w : World) : CR 89 #[.int .u64 n, .int .i64 size] w (.string (gS n size)) := by
 obtain ⟨hn0, hn1⟩ := hn
 go_enter Tryz.func89, Tryz.ntmps89
 go_wp2_with fail
 go_loopw [5, 6] (fun s i wr => ∃ k : Nat, s = .string (gS n k) ∧ i = .int .i64 k ∧ k ≤ size ∧ Hid (Below w.heap.size w wr)) (fun _ i _ => size - (intOf i).toNat)
 case atStart => exact ⟨0, rfl, rfl, Nat.zero_le _, Below.refl _ _⟩
 case round =>
  obtain ⟨k, rfl, rfl, hk, HB⟩ := hrel
  by_cases hlt : k < size
  ·have hgz := gS_size n k
   obtain ⟨T, hT⟩ : ∃ T, gS n k = T := ⟨_, rfl⟩
   rw [hT] at hgz ⊢
   have HT := Lib.hid hT
   clear hT
   rcases (by omega : k = 0 ∨ k = 1 ∨ k = 2 ∨ k = 3 ∨ k = 4 ∨ k = 5 ∨ k = 6 ∨ k = 7) with rfl | rfl | rfl | rfl | rfl | rfl | rfl | rfl
   ·have hg : gB n 0 = n % 256 := by
     unfold gB
     rw [show ((256 ^ 0 : Nat) : Int) = 1 from rfl]
     rw [Int.ediv_one]
    have hcv : (convert 84 9 (.slice (some ⟨wr.heap.size, 0, none⟩) 1 1)).run Tryz.prog (wr.alloc (.cells #[.int .u8 (n % 256)] 5)) = .ok (.string (strOfNums [n % 256])) (wr.alloc (.cells #[.int .u8 (n % 256)] 5)) := conv_new wr [n % 256] 1
    obtain ⟨W1, hW1, -, hB1, -⟩ := boxes1 wr #[.int .u8 (n % 256)] 5
    rw [hW1] at hcv
    have HB1 : Hid (Below w.heap.size w W1) := HB.out.trans (hB1.mono HB.out.size)
    obtain ⟨U, hU⟩ : ∃ U, strOfNums [n % 256] = U := ⟨_, rfl⟩
    have hUz : U.size = 1 := by rw [← hU, strOfNums_size]; rfl
    rw [hU] at hcv
    have HU : Hid (U ++ T = gS n (0 + 1)) := by rw [Hid, ← hU, ← HT.out, ← hg]; rfl
    have hc : ¬ 9223372036854775807 < U.size + T.size := by omega
    clear hg hB1 hU
    go_wp2_with fail
    exact ⟨⟨0 + 1, by rw [HU.out], by go_num, by omega, HB1.out⟩, by simp [intOf]; omega⟩
   ·have hg : gB n 1 = n / 256 % 256 := by
     unfold gB
     rw [show ((256 ^ 1 : Nat) : Int) = 256 from rfl]
    have hcv : (convert 84 9 (.slice (some ⟨wr.heap.size, 0, none⟩) 1 1)).run Tryz.prog (wr.alloc (.cells #[.int .u8 (n / 256 % 256)] 5)) = .ok (.string (strOfNums [n / 256 % 256])) (wr.alloc (.cells #[.int .u8 (n / 256 % 256)] 5)) := conv_new wr [n / 256 % 256] 1
    obtain ⟨W1, hW1, -, hB1, -⟩ := boxes1 wr #[.int .u8 (n / 256 % 256)] 5
    rw [hW1] at hcv
    have HB1 : Hid (Below w.heap.size w W1) := HB.out.trans (hB1.mono HB.out.size)
    obtain ⟨U, hU⟩ : ∃ U, strOfNums [n / 256 % 256] = U := ⟨_, rfl⟩
    have hUz : U.size = 1 := by rw [← hU, strOfNums_size]; rfl
    rw [hU] at hcv
    have HU : Hid (U ++ T = gS n (1 + 1)) := by rw [Hid, ← hU, ← HT.out, ← hg]; rfl
    have hc : ¬ 9223372036854775807 < U.size + T.size := by omega
    clear hg hB1 hU
    go_wp2_with fail
    exact ⟨⟨1 + 1, by rw [HU.out], by go_num, by omega, HB1.out⟩, by simp [intOf]; omega⟩
   ·have hg : gB n 2 = n / 65536 % 256 := by
     unfold gB
     rw [show ((256 ^ 2 : Nat) : Int) = 65536 from rfl]
    have hcv : (convert 84 9 (.slice (some ⟨wr.heap.size, 0, none⟩) 1 1)).run Tryz.prog (wr.alloc (.cells #[.int .u8 (n / 65536 % 256)] 5)) = .ok (.string (strOfNums [n / 65536 % 256])) (wr.alloc (.cells #[.int .u8 (n / 65536 % 256)] 5)) := conv_new wr [n / 65536 % 256] 1
    obtain ⟨W1, hW1, -, hB1, -⟩ := boxes1 wr #[.int .u8 (n / 65536 % 256)] 5
    rw [hW1] at hcv
    have HB1 : Hid (Below w.heap.size w W1) := HB.out.trans (hB1.mono HB.out.size)
    obtain ⟨U, hU⟩ : ∃ U, strOfNums [n / 65536 % 256] = U := ⟨_, rfl⟩
    have hUz : U.size = 1 := by rw [← hU, strOfNums_size]; rfl
    rw [hU] at hcv
    have HU : Hid (U ++ T = gS n (2 + 1)) := by rw [Hid, ← hU, ← HT.out, ← hg]; rfl
    have hc : ¬ 9223372036854775807 < U.size + T.size := by omega
    clear hg hB1 hU
    go_wp2_with fail
    exact ⟨⟨2 + 1, by rw [HU.out], by go_num, by omega, HB1.out⟩, by simp [intOf]; omega⟩
   ·have hg : gB n 3 = n / 16777216 % 256 := by
     unfold gB
     rw [show ((256 ^ 3 : Nat) : Int) = 16777216 from rfl]
    have hcv : (convert 84 9 (.slice (some ⟨wr.heap.size, 0, none⟩) 1 1)).run Tryz.prog (wr.alloc (.cells #[.int .u8 (n / 16777216 % 256)] 5)) = .ok (.string (strOfNums [n / 16777216 % 256])) (wr.alloc (.cells #[.int .u8 (n / 16777216 % 256)] 5)) := conv_new wr [n / 16777216 % 256] 1
    obtain ⟨W1, hW1, -, hB1, -⟩ := boxes1 wr #[.int .u8 (n / 16777216 % 256)] 5
    rw [hW1] at hcv
    have HB1 : Hid (Below w.heap.size w W1) := HB.out.trans (hB1.mono HB.out.size)
    obtain ⟨U, hU⟩ : ∃ U, strOfNums [n / 16777216 % 256] = U := ⟨_, rfl⟩
    have hUz : U.size = 1 := by rw [← hU, strOfNums_size]; rfl
    rw [hU] at hcv
    have HU : Hid (U ++ T = gS n (3 + 1)) := by rw [Hid, ← hU, ← HT.out, ← hg]; rfl
    have hc : ¬ 9223372036854775807 < U.size + T.size := by omega
    clear hg hB1 hU
    go_wp2_with fail
    exact ⟨⟨3 + 1, by rw [HU.out], by go_num, by omega, HB1.out⟩, by simp [intOf]; omega⟩
   ·have hg : gB n 4 = n / 4294967296 % 256 := by
     unfold gB
     rw [show ((256 ^ 4 : Nat) : Int) = 4294967296 from rfl]
    have hcv : (convert 84 9 (.slice (some ⟨wr.heap.size, 0, none⟩) 1 1)).run Tryz.prog (wr.alloc (.cells #[.int .u8 (n / 4294967296 % 256)] 5)) = .ok (.string (strOfNums [n / 4294967296 % 256])) (wr.alloc (.cells #[.int .u8 (n / 4294967296 % 256)] 5)) := conv_new wr [n / 4294967296 % 256] 1
    obtain ⟨W1, hW1, -, hB1, -⟩ := boxes1 wr #[.int .u8 (n / 4294967296 % 256)] 5
    rw [hW1] at hcv
    have HB1 : Hid (Below w.heap.size w W1) := HB.out.trans (hB1.mono HB.out.size)
    obtain ⟨U, hU⟩ : ∃ U, strOfNums [n / 4294967296 % 256] = U := ⟨_, rfl⟩
    have hUz : U.size = 1 := by rw [← hU, strOfNums_size]; rfl
    rw [hU] at hcv
    have HU : Hid (U ++ T = gS n (4 + 1)) := by rw [Hid, ← hU, ← HT.out, ← hg]; rfl
    have hc : ¬ 9223372036854775807 < U.size + T.size := by omega
    clear hg hB1 hU
    go_wp2_with fail
    exact ⟨⟨4 + 1, by rw [HU.out], by go_num, by omega, HB1.out⟩, by simp [intOf]; omega⟩
   ·have hg : gB n 5 = n / 1099511627776 % 256 := by
     unfold gB
     rw [show ((256 ^ 5 : Nat) : Int) = 1099511627776 from rfl]
    have hcv : (convert 84 9 (.slice (some ⟨wr.heap.size, 0, none⟩) 1 1)).run Tryz.prog (wr.alloc (.cells #[.int .u8 (n / 1099511627776 % 256)] 5)) = .ok (.string (strOfNums [n / 1099511627776 % 256])) (wr.alloc (.cells #[.int .u8 (n / 1099511627776 % 256)] 5)) := conv_new wr [n / 1099511627776 % 256] 1
    obtain ⟨W1, hW1, -, hB1, -⟩ := boxes1 wr #[.int .u8 (n / 1099511627776 % 256)] 5
    rw [hW1] at hcv
    have HB1 : Hid (Below w.heap.size w W1) := HB.out.trans (hB1.mono HB.out.size)
    obtain ⟨U, hU⟩ : ∃ U, strOfNums [n / 1099511627776 % 256] = U := ⟨_, rfl⟩
    have hUz : U.size = 1 := by rw [← hU, strOfNums_size]; rfl
    rw [hU] at hcv
    have HU : Hid (U ++ T = gS n (5 + 1)) := by rw [Hid, ← hU, ← HT.out, ← hg]; rfl
    have hc : ¬ 9223372036854775807 < U.size + T.size := by omega
    clear hg hB1 hU
    go_wp2_with fail
    exact ⟨⟨5 + 1, by rw [HU.out], by go_num, by omega, HB1.out⟩, by simp [intOf]; omega⟩
   ·have hg : gB n 6 = n / 281474976710656 % 256 := by
     unfold gB
     rw [show ((256 ^ 6 : Nat) : Int) = 281474976710656 from rfl]
    have hcv : (convert 84 9 (.slice (some ⟨wr.heap.size, 0, none⟩) 1 1)).run Tryz.prog (wr.alloc (.cells #[.int .u8 (n / 281474976710656 % 256)] 5)) = .ok (.string (strOfNums [n / 281474976710656 % 256])) (wr.alloc (.cells #[.int .u8 (n / 281474976710656 % 256)] 5)) := conv_new wr [n / 281474976710656 % 256] 1
    obtain ⟨W1, hW1, -, hB1, -⟩ := boxes1 wr #[.int .u8 (n / 281474976710656 % 256)] 5
    rw [hW1] at hcv
    have HB1 : Hid (Below w.heap.size w W1) := HB.out.trans (hB1.mono HB.out.size)
    obtain ⟨U, hU⟩ : ∃ U, strOfNums [n / 281474976710656 % 256] = U := ⟨_, rfl⟩
    have hUz : U.size = 1 := by rw [← hU, strOfNums_size]; rfl
    rw [hU] at hcv
    have HU : Hid (U ++ T = gS n (6 + 1)) := by rw [Hid, ← hU, ← HT.out, ← hg]; rfl
    have hc : ¬ 9223372036854775807 < U.size + T.size := by omega
    clear hg hB1 hU
    go_wp2_with fail
    exact ⟨⟨6 + 1, by rw [HU.out], by go_num, by omega, HB1.out⟩, by simp [intOf]; omega⟩
   ·have hg : gB n 7 = n / 72057594037927936 := by
     unfold gB
     rw [show ((256 ^ 7 : Nat) : Int) = 72057594037927936 from rfl]
     omega
    have hcv : (convert 84 9 (.slice (some ⟨wr.heap.size, 0, none⟩) 1 1)).run Tryz.prog (wr.alloc (.cells #[.int .u8 (n / 72057594037927936)] 5)) = .ok (.string (strOfNums [n / 72057594037927936])) (wr.alloc (.cells #[.int .u8 (n / 72057594037927936)] 5)) := conv_new wr [n / 72057594037927936] 1
    obtain ⟨W1, hW1, -, hB1, -⟩ := boxes1 wr #[.int .u8 (n / 72057594037927936)] 5
    rw [hW1] at hcv
    have HB1 : Hid (Below w.heap.size w W1) := HB.out.trans (hB1.mono HB.out.size)
    obtain ⟨U, hU⟩ : ∃ U, strOfNums [n / 72057594037927936] = U := ⟨_, rfl⟩
    have hUz : U.size = 1 := by rw [← hU, strOfNums_size]; rfl
    rw [hU] at hcv
    have HU : Hid (U ++ T = gS n (7 + 1)) := by rw [Hid, ← hU, ← HT.out, ← hg]; rfl
    have hc : ¬ 9223372036854775807 < U.size + T.size := by omega
    clear hg hB1 hU
    go_wp2_with fail
    exact ⟨⟨7 + 1, by rw [HU.out], by go_num, by omega, HB1.out⟩, by simp [intOf]; omega⟩
  ·obtain rfl : k = size := by omega
   go_wp2_with fail
   go_ret
   exact ⟨rfl, HB.out⟩
def sizeR (n : Int) : Nat := if n < 16777216 then 3 else if n < 4294967296 then 4 else if n < 1099511627776 then 5 else if n < 281474976710656 then 6 else if n < 72057594037927936 then 7 else 8
def putR (n : Int) : ByteArray := if n ≤ 240 then gS n 1 else if n ≤ 2287 then gS (241 + (n - 240) / 256) 1 ++ gS (n - 240) 1 else if n ≤ 67823 then gS 249 1 ++ gS (n - 2288) 2 else gS (247 + sizeR n) 1 ++ gS n (sizeR n)
theorem sizeR_le (n : Int) : 3 ≤ sizeR n ∧ sizeR n ≤ 8 := by
 unfold sizeR
 repeat' split
 all_goals omega
theorem putR_size (n : Int) : (putR n).size ≤ 9 := by
 unfold putR
 repeat' split
 all_goals (try rw [ByteArray.size_append]); (try simp only [gS_size]); (have := sizeR_le n); omega
set_option maxRecDepth 100000 in
set_option maxHeartbeats 2000000 in
theorem refPut_any (n : Int) (hn : U64 n) (w : World) : CR 57 #[.int .u64 n] w (.string (putR n)) := by
 obtain ⟨hn0, hn1⟩ := hn
 have HG := Lib.hid fun m k (hm : U64 m) (hk : k ≤ 8) V => greatest_any m k hm hk V
 unfold putR
 by_cases h1 : n ≤ 240
 ·rw [if_pos h1]
  go_enter Tryz.func57, Tryz.ntmps57
  go_wp2_with fail
  refine (HG.out n 1 ⟨hn0, hn1⟩ (by decide) _).mono ?_
  rintro e w1 ⟨rfl, hb⟩
  have HB := Lib.hid hb
  clear hb
  go_wp2_with fail
  go_ret
  exact ⟨rfl, HB.out⟩
 ·rw [if_neg h1]
  by_cases h2 : n ≤ 2287
  ·rw [if_pos h2]
   have HG1 := Lib.hid fun V => HG.out (241 + (n - 240) / 256) 1 ⟨by omega, by omega⟩ (by decide) V
   have HG2 := Lib.hid fun V => HG.out (n - 240) 1 ⟨by omega, by omega⟩ (by decide) V
   have hz1 := gS_size (241 + (n - 240) / 256) 1
   have hz2 := gS_size (n - 240) 1
   obtain ⟨T1, hT1⟩ : ∃ T, gS (241 + (n - 240) / 256) 1 = T := ⟨_, rfl⟩
   obtain ⟨T2, hT2⟩ : ∃ T, gS (n - 240) 1 = T := ⟨_, rfl⟩
   rw [hT1] at HG1 hz1 ⊢
   rw [hT2] at HG2 hz2 ⊢
   have hc : ¬ 9223372036854775807 < T1.size + T2.size := by omega
   clear hT1 hT2
   go_enter Tryz.func57, Tryz.ntmps57
   go_wp2_with fail
   refine (HG1.out _).mono ?_
   rintro e w1 ⟨rfl, hb⟩
   have HB1 := Lib.hid hb
   clear hb
   go_wp2_with fail
   refine (HG2.out _).mono ?_
   rintro e w2 ⟨rfl, hb⟩
   have HB2 : Hid (Below w.heap.size w w2) := HB1.out.trans (hb.mono HB1.out.size)
   clear hb
   go_wp2_with fail
   go_ret
   exact ⟨rfl, HB2.out⟩
  ·rw [if_neg h2]
   by_cases h3 : n ≤ 67823
   ·rw [if_pos h3]
    have HG1 := Lib.hid fun V => HG.out (249) 1 ⟨by omega, by omega⟩ (by decide) V
    have HG2 := Lib.hid fun V => HG.out (n - 2288) 2 ⟨by omega, by omega⟩ (by decide) V
    have hz1 := gS_size (249) 1
    have hz2 := gS_size (n - 2288) 2
    obtain ⟨T1, hT1⟩ : ∃ T, gS (249) 1 = T := ⟨_, rfl⟩
    obtain ⟨T2, hT2⟩ : ∃ T, gS (n - 2288) 2 = T := ⟨_, rfl⟩
    rw [hT1] at HG1 hz1 ⊢
    rw [hT2] at HG2 hz2 ⊢
    have hc : ¬ 9223372036854775807 < T1.size + T2.size := by omega
    clear hT1 hT2
    go_enter Tryz.func57, Tryz.ntmps57
    go_wp2_with fail
    refine (HG1.out _).mono ?_
    rintro e w1 ⟨rfl, hb⟩
    have HB1 := Lib.hid hb
    clear hb
    go_wp2_with fail
    refine (HG2.out _).mono ?_
    rintro e w2 ⟨rfl, hb⟩
    have HB2 : Hid (Below w.heap.size w w2) := HB1.out.trans (hb.mono HB1.out.size)
    clear hb
    go_wp2_with fail
    go_ret
    exact ⟨rfl, HB2.out⟩
   ·rw [if_neg h3]
    obtain ⟨R, hR⟩ : ∃ R, gS (247 + sizeR n) 1 ++ gS n (sizeR n) = R := ⟨_, rfl⟩
    rw [hR]
    have HR := Lib.hid hR
    clear hR
    go_enter Tryz.func57, Tryz.ntmps57
    go_wp2_with fail
    go_loopw [3] (fun s wr => wr = w ∧ ∃ k : Nat, s = .int .i64 k ∧ 3 ≤ k ∧ k ≤ 8 ∧ 256 ^ (k - 1) ≤ n) (fun s _ => 8 - (intOf s).toNat)
    case atStart => exact ⟨rfl, 3, rfl, by decide, by decide, by show (65536 : Int) ≤ n; omega⟩
    case round =>
     obtain ⟨rfl, k, rfl, hk3, hk8, hkn⟩ := hrel
     rcases (by omega : k = 3 ∨ k = 4 ∨ k = 5 ∨ k = 6 ∨ k = 7 ∨ k = 8) with rfl | rfl | rfl | rfl | rfl | rfl
     ·have hkn : (65536 : Int) ≤ n := hkn
      by_cases hq : n < 16777216
      ·have q0 : n / 16777216 = 0 := by omega
       have q1 : (n / 16777216 == 0) = true := by rw [q0]; rfl
       have hs : sizeR n = 3 := by
        unfold sizeR
        rw [if_pos hq]
       have HG1 := Lib.hid fun V => HG.out 250 1 ⟨by omega, by omega⟩ (by decide) V
       have HG2 := Lib.hid fun V => HG.out n 3 ⟨by omega, by omega⟩ (by decide) V
       have hz1 := gS_size 250 1
       have hz2 := gS_size n 3
       obtain ⟨T1, hT1⟩ : ∃ T, gS 250 1 = T := ⟨_, rfl⟩
       obtain ⟨T2, hT2⟩ : ∃ T, gS n 3 = T := ⟨_, rfl⟩
       have HE : Hid (T1 ++ T2 = R) := by rw [Hid, ← hT1, ← hT2, ← HR.out, hs]; rfl
       rw [hT1] at HG1 hz1
       rw [hT2] at HG2 hz2
       have hc : ¬ 9223372036854775807 < T1.size + T2.size := by omega
       clear hT1 hT2 hs
       go_wp2_with fail
       refine (HG1.out _).mono ?_
       rintro e w1 ⟨rfl, hb⟩
       have HB1 := Lib.hid hb
       clear hb
       go_wp2_with fail
       refine (HG2.out _).mono ?_
       rintro e w2 ⟨rfl, hb⟩
       have HB2 : Hid (Below wr.heap.size wr w2) := HB1.out.trans (hb.mono HB1.out.size)
       clear hb
       go_wp2_with fail
       go_ret
       exact ⟨by rw [HE.out]; rfl, HB2.out⟩
      ·have q0 : ¬ n / 16777216 = 0 := by omega
       have q1 : (n / 16777216 == 0) = false := beq_eq_false_iff_ne.2 q0
       go_wp2_with fail
       exact ⟨⟨trivial, 4, by go_num, by omega, by omega, by show (16777216 : Int) ≤ n; omega⟩, by simp [intOf]⟩
     ·have hkn : (16777216 : Int) ≤ n := hkn
      by_cases hq : n < 4294967296
      ·have q0 : n / 4294967296 = 0 := by omega
       have q1 : (n / 4294967296 == 0) = true := by rw [q0]; rfl
       have hs : sizeR n = 4 := by
        unfold sizeR
        rw [if_neg (by omega)]; rw [if_pos hq]
       have HG1 := Lib.hid fun V => HG.out 251 1 ⟨by omega, by omega⟩ (by decide) V
       have HG2 := Lib.hid fun V => HG.out n 4 ⟨by omega, by omega⟩ (by decide) V
       have hz1 := gS_size 251 1
       have hz2 := gS_size n 4
       obtain ⟨T1, hT1⟩ : ∃ T, gS 251 1 = T := ⟨_, rfl⟩
       obtain ⟨T2, hT2⟩ : ∃ T, gS n 4 = T := ⟨_, rfl⟩
       have HE : Hid (T1 ++ T2 = R) := by rw [Hid, ← hT1, ← hT2, ← HR.out, hs]; rfl
       rw [hT1] at HG1 hz1
       rw [hT2] at HG2 hz2
       have hc : ¬ 9223372036854775807 < T1.size + T2.size := by omega
       clear hT1 hT2 hs
       go_wp2_with fail
       refine (HG1.out _).mono ?_
       rintro e w1 ⟨rfl, hb⟩
       have HB1 := Lib.hid hb
       clear hb
       go_wp2_with fail
       refine (HG2.out _).mono ?_
       rintro e w2 ⟨rfl, hb⟩
       have HB2 : Hid (Below wr.heap.size wr w2) := HB1.out.trans (hb.mono HB1.out.size)
       clear hb
       go_wp2_with fail
       go_ret
       exact ⟨by rw [HE.out]; rfl, HB2.out⟩
      ·have q0 : ¬ n / 4294967296 = 0 := by omega
       have q1 : (n / 4294967296 == 0) = false := beq_eq_false_iff_ne.2 q0
       go_wp2_with fail
       exact ⟨⟨trivial, 5, by go_num, by omega, by omega, by show (4294967296 : Int) ≤ n; omega⟩, by simp [intOf]⟩
     ·have hkn : (4294967296 : Int) ≤ n := hkn
      by_cases hq : n < 1099511627776
      ·have q0 : n / 1099511627776 = 0 := by omega
       have q1 : (n / 1099511627776 == 0) = true := by rw [q0]; rfl
       have hs : sizeR n = 5 := by
        unfold sizeR
        rw [if_neg (by omega)]; rw [if_neg (by omega)]; rw [if_pos hq]
       have HG1 := Lib.hid fun V => HG.out 252 1 ⟨by omega, by omega⟩ (by decide) V
       have HG2 := Lib.hid fun V => HG.out n 5 ⟨by omega, by omega⟩ (by decide) V
       have hz1 := gS_size 252 1
       have hz2 := gS_size n 5
       obtain ⟨T1, hT1⟩ : ∃ T, gS 252 1 = T := ⟨_, rfl⟩
       obtain ⟨T2, hT2⟩ : ∃ T, gS n 5 = T := ⟨_, rfl⟩
       have HE : Hid (T1 ++ T2 = R) := by rw [Hid, ← hT1, ← hT2, ← HR.out, hs]; rfl
       rw [hT1] at HG1 hz1
       rw [hT2] at HG2 hz2
       have hc : ¬ 9223372036854775807 < T1.size + T2.size := by omega
       clear hT1 hT2 hs
       go_wp2_with fail
       refine (HG1.out _).mono ?_
       rintro e w1 ⟨rfl, hb⟩
       have HB1 := Lib.hid hb
       clear hb
       go_wp2_with fail
       refine (HG2.out _).mono ?_
       rintro e w2 ⟨rfl, hb⟩
       have HB2 : Hid (Below wr.heap.size wr w2) := HB1.out.trans (hb.mono HB1.out.size)
       clear hb
       go_wp2_with fail
       go_ret
       exact ⟨by rw [HE.out]; rfl, HB2.out⟩
      ·have q0 : ¬ n / 1099511627776 = 0 := by omega
       have q1 : (n / 1099511627776 == 0) = false := beq_eq_false_iff_ne.2 q0
       go_wp2_with fail
       exact ⟨⟨trivial, 6, by go_num, by omega, by omega, by show (1099511627776 : Int) ≤ n; omega⟩, by simp [intOf]⟩
     ·have hkn : (1099511627776 : Int) ≤ n := hkn
      by_cases hq : n < 281474976710656
      ·have q0 : n / 281474976710656 = 0 := by omega
       have q1 : (n / 281474976710656 == 0) = true := by rw [q0]; rfl
       have hs : sizeR n = 6 := by
        unfold sizeR
        rw [if_neg (by omega)]; rw [if_neg (by omega)]; rw [if_neg (by omega)]; rw [if_pos hq]
       have HG1 := Lib.hid fun V => HG.out 253 1 ⟨by omega, by omega⟩ (by decide) V
       have HG2 := Lib.hid fun V => HG.out n 6 ⟨by omega, by omega⟩ (by decide) V
       have hz1 := gS_size 253 1
       have hz2 := gS_size n 6
       obtain ⟨T1, hT1⟩ : ∃ T, gS 253 1 = T := ⟨_, rfl⟩
       obtain ⟨T2, hT2⟩ : ∃ T, gS n 6 = T := ⟨_, rfl⟩
       have HE : Hid (T1 ++ T2 = R) := by rw [Hid, ← hT1, ← hT2, ← HR.out, hs]; rfl
       rw [hT1] at HG1 hz1
       rw [hT2] at HG2 hz2
       have hc : ¬ 9223372036854775807 < T1.size + T2.size := by omega
       clear hT1 hT2 hs
       go_wp2_with fail
       refine (HG1.out _).mono ?_
       rintro e w1 ⟨rfl, hb⟩
       have HB1 := Lib.hid hb
       clear hb
       go_wp2_with fail
       refine (HG2.out _).mono ?_
       rintro e w2 ⟨rfl, hb⟩
       have HB2 : Hid (Below wr.heap.size wr w2) := HB1.out.trans (hb.mono HB1.out.size)
       clear hb
       go_wp2_with fail
       go_ret
       exact ⟨by rw [HE.out]; rfl, HB2.out⟩
      ·have q0 : ¬ n / 281474976710656 = 0 := by omega
       have q1 : (n / 281474976710656 == 0) = false := beq_eq_false_iff_ne.2 q0
       go_wp2_with fail
       exact ⟨⟨trivial, 7, by go_num, by omega, by omega, by show (281474976710656 : Int) ≤ n; omega⟩, by simp [intOf]⟩
     ·have hkn : (281474976710656 : Int) ≤ n := hkn
      by_cases hq : n < 72057594037927936
      ·have q0 : n / 72057594037927936 = 0 := by omega
       have q1 : (n / 72057594037927936 == 0) = true := by rw [q0]; rfl
       have hs : sizeR n = 7 := by
        unfold sizeR
        rw [if_neg (by omega)]; rw [if_neg (by omega)]; rw [if_neg (by omega)]; rw [if_neg (by omega)]; rw [if_pos hq]
       have HG1 := Lib.hid fun V => HG.out 254 1 ⟨by omega, by omega⟩ (by decide) V
       have HG2 := Lib.hid fun V => HG.out n 7 ⟨by omega, by omega⟩ (by decide) V
       have hz1 := gS_size 254 1
       have hz2 := gS_size n 7
       obtain ⟨T1, hT1⟩ : ∃ T, gS 254 1 = T := ⟨_, rfl⟩
       obtain ⟨T2, hT2⟩ : ∃ T, gS n 7 = T := ⟨_, rfl⟩
       have HE : Hid (T1 ++ T2 = R) := by rw [Hid, ← hT1, ← hT2, ← HR.out, hs]; rfl
       rw [hT1] at HG1 hz1
       rw [hT2] at HG2 hz2
       have hc : ¬ 9223372036854775807 < T1.size + T2.size := by omega
       clear hT1 hT2 hs
       go_wp2_with fail
       refine (HG1.out _).mono ?_
       rintro e w1 ⟨rfl, hb⟩
       have HB1 := Lib.hid hb
       clear hb
       go_wp2_with fail
       refine (HG2.out _).mono ?_
       rintro e w2 ⟨rfl, hb⟩
       have HB2 : Hid (Below wr.heap.size wr w2) := HB1.out.trans (hb.mono HB1.out.size)
       clear hb
       go_wp2_with fail
       go_ret
       exact ⟨by rw [HE.out]; rfl, HB2.out⟩
      ·have q0 : ¬ n / 72057594037927936 = 0 := by omega
       have q1 : (n / 72057594037927936 == 0) = false := beq_eq_false_iff_ne.2 q0
       go_wp2_with fail
       exact ⟨⟨trivial, 8, by go_num, by omega, by omega, by show (72057594037927936 : Int) ≤ n; omega⟩, by simp [intOf]⟩
     ·have hkn : (72057594037927936 : Int) ≤ n := hkn
      have hs : sizeR n = 8 := by
       unfold sizeR
       rw [if_neg (by omega)]; rw [if_neg (by omega)]; rw [if_neg (by omega)]; rw [if_neg (by omega)]; rw [if_neg (by omega)]
      have HG1 := Lib.hid fun V => HG.out 255 1 ⟨by omega, by omega⟩ (by decide) V
      have HG2 := Lib.hid fun V => HG.out n 8 ⟨by omega, by omega⟩ (by decide) V
      have hz1 := gS_size 255 1
      have hz2 := gS_size n 8
      obtain ⟨T1, hT1⟩ : ∃ T, gS 255 1 = T := ⟨_, rfl⟩
      obtain ⟨T2, hT2⟩ : ∃ T, gS n 8 = T := ⟨_, rfl⟩
      have HE : Hid (T1 ++ T2 = R) := by rw [Hid, ← hT1, ← hT2, ← HR.out, hs]; rfl
      rw [hT1] at HG1 hz1
      rw [hT2] at HG2 hz2
      have hc : ¬ 9223372036854775807 < T1.size + T2.size := by omega
      clear hT1 hT2 hs
      go_wp2_with fail
      refine (HG1.out _).mono ?_
      rintro e w1 ⟨rfl, hb⟩
      have HB1 := Lib.hid hb
      clear hb
      go_wp2_with fail
      refine (HG2.out _).mono ?_
      rintro e w2 ⟨rfl, hb⟩
      have HB2 : Hid (Below wr.heap.size wr w2) := HB1.out.trans (hb.mono HB1.out.size)
      clear hb
      go_wp2_with fail
      go_ret
      exact ⟨by rw [HE.out]; rfl, HB2.out⟩
end Go.Proofs.YtpklkhgnjbopnaaGreatDoor
namespace Go.Proofs.YtpklkhgnjbopnaaGreatDoor
open Go Go.RowKit Go.Shelf
set_option maxHeartbeats 1000000 in
theorem made_ok (s : ByteArray) (h1 : 0 < s.size) (h2 : s.size ≤ 2000) (w : World) :
  CR 49 #[.string s] w (.tuple #[.string ⟨(mkF s.data.toList).toArray⟩, .int .i64 0]) := by
 have HM := Lib.hid (Make_ok s h1 h2 w)
 go_enter Tryz.func49, Tryz.ntmps49
 go_wp2_with fail
 refine HM.out.mono ?_
 rintro e w1 ⟨rfl, hb⟩
 have HB := Lib.hid hb
 clear hb HM
 go_wp2_with fail
 go_ret2
 exact ⟨rfl, HB.out⟩
theorem askB_len {r : Rq} (h : r.ok = true) : 0 < (askB r).length ∧ (askB r).length ≤ 2000 := by
 unfold Rq.ok at h
 simp only [Bool.and_eq_true, decide_eq_true_eq] at h
 obtain ⟨⟨⟨⟨⟨⟨⟨_, _⟩, _⟩, _⟩, h5⟩, h6⟩, h7⟩, h8⟩ := h
 have e1 := (numsB_one_len r.op).2
 have e2 := (numsB_one_len r.now).2
 have e3 := textB_len r.labels
 have e4 := textB_len r.scope
 have e5 := (numsB_one_len r.kind).2
 have e6 := (numsB_one_len (r.items.length : Int)).2
 have e7 := itemsB_len r.items
 have e8 := (numsB_one_len r.h).2
 have e9 := (numsB_one_len r.tnt).2
 have e10 := (numsB_one_len r.id).2
 have e11 := (numsB_one_len (r.tens.length : Int)).2
 have e12 := (numsB_len r.tens).2
 unfold askB Rq.B
 simp only [List.length_cons, List.length_append]
 omega
set_option maxRecDepth 100000 in
set_option maxHeartbeats 1000000 in
theorem Ask_bad (r : Rq) (ia : Option Addr) (ic : Nat) (ta : Option Addr) (tc : Nat) (w : World) (hw : r.Wf) (hl : r.labels.size < 4294967281) (hs : r.scope.size < 4294967281) (hI : SlE encIt 2 w.heap.size w ia r.items.length r.items) (hT : SlE encU 1 w.heap.size w ta r.tens.length r.tens) (hok : r.ok = false) :
  CR 28 #[.agg (rqV r ia ic ta tc)] w (.tuple #[.string ⟨#[]⟩, .int .i64 200]) := by
 obtain ⟨W, hW, hX, hB, hsz⟩ := boxes1 w (rqV r ia ic ta tc) 56
 have hP := PutReq_any r ia ic ta tc W hw hl hs (hI.go hB) (hT.go hB)
 rw [hok] at hP
 change CR 19 _ W (.tuple #[.string ⟨#[]⟩, .int .i64 200]) at hP
 unfold rqV at hP hX hW ⊢
 obtain ⟨c0, c1, c2, c3, c4, c5, c6, c7, c8, c9⟩ := cl10 hX
 have HP := Lib.hid hP
 have HBW := Lib.hid hB
 clear hP hX hB hsz hI hT
 go_enter Tryz.func28, Tryz.ntmps28
 go_wp2_with fail
 refine HP.out.mono ?_
 rintro e w1 ⟨rfl, hb⟩
 have HB : Hid (Below w.heap.size w w1) := HBW.out.trans (hb.mono HBW.out.size)
 clear hb HP
 go_wp2_with fail
 go_ret2
 exact ⟨rfl, HB.out⟩
set_option maxRecDepth 100000 in
set_option maxHeartbeats 1000000 in
theorem Ask_ok (r : Rq) (ia : Option Addr) (ic : Nat) (ta : Option Addr) (tc : Nat) (w : World) (hw : r.Wf) (hl : r.labels.size < 4294967281) (hs : r.scope.size < 4294967281) (hI : SlE encIt 2 w.heap.size w ia r.items.length r.items) (hT : SlE encU 1 w.heap.size w ta r.tens.length r.tens) (hok : r.ok = true) :
  CR 28 #[.agg (rqV r ia ic ta tc)] w (.tuple #[.string ⟨(mkF (askB r)).toArray⟩, .int .i64 0]) := by
 obtain ⟨W, hW, hX, hB, hsz⟩ := boxes1 w (rqV r ia ic ta tc) 56
 have hP := PutReq_any r ia ic ta tc W hw hl hs (hI.go hB) (hT.go hB)
 rw [hok] at hP
 change CR 19 _ W (.tuple #[.string ⟨r.B.toArray⟩, .int .i64 0]) at hP
 unfold rqV at hP hX hW ⊢
 obtain ⟨c0, c1, c2, c3, c4, c5, c6, c7, c8, c9⟩ := cl10 hX
 have HP := Lib.hid hP
 have HBW := Lib.hid hB
 clear hP hX hB hsz hI hT
 go_enter Tryz.func28, Tryz.ntmps28
 go_wp2_with fail
 refine HP.out.mono ?_
 rintro e w1 ⟨rfl, hb⟩
 have HB : Hid (Below w.heap.size w w1) := HBW.out.trans (hb.mono HBW.out.size)
 clear hb HP
 obtain ⟨W2, hW2, -, hB2, -⟩ := boxes1 w1 #[.int .u8 2] 5
 have hcv : (convert 84 9 (.slice (some ⟨w1.heap.size, 0, none⟩) 1 1)).run Tryz.prog (w1.alloc (.cells #[.int .u8 2] 5)) = .ok (.string ⟨#[2]⟩) (w1.alloc (.cells #[.int .u8 2] 5)) := conv_new w1 [2] 1
 rw [hW2] at hcv
 have HB2 : Hid (Below w.heap.size w W2) := HB.out.trans (hB2.mono HB.out.size)
 have hL := askB_len hok
 have hd : ((⟨#[2]⟩ : ByteArray) ++ ⟨r.B.toArray⟩).data.toList = askB r := by rw [ByteArray.data_append]; simp [askB]
 have hz : ((⟨#[2]⟩ : ByteArray) ++ ⟨r.B.toArray⟩).size = (askB r).length := by rw [← hd]; exact Array.length_toList.symm
 have HM := Lib.hid (made_ok ((⟨#[2]⟩ : ByteArray) ++ ⟨r.B.toArray⟩) (by omega) (by omega) W2)
 rw [hd] at HM
 have hnl : ¬ 9223372036854775807 < 1 + r.B.length := by have h := hL.2; unfold askB at h; rw [List.length_cons] at h; omega
 clear hB2 hd hz hL
 go_wp2_with fail
 refine HM.out.mono ?_
 rintro e w3 ⟨rfl, hb⟩
 have HB3 : Hid (Below w.heap.size w w3) := HB2.out.trans (hb.mono HB2.out.size)
 clear hb HM
 go_wp2_with fail
 go_ret2
 exact ⟨rfl, HB3.out⟩
end Go.Proofs.YtpklkhgnjbopnaaGreatDoor
namespace Go.Proofs.YtpklkhgnjbopnaaGreatDoor
open Go Go.RowKit Go.Shelf
theorem helB_len (now : Int) {tok : ByteArray} (h : tok.size ≤ 400) : 0 < (helB now tok).length ∧ (helB now tok).length ≤ 2000 := by
 have e1 := (numsB_one_len now).2
 have e2 := textB_len tok
 unfold helB
 simp only [List.length_cons, List.length_append]
 omega
set_option maxHeartbeats 1000000 in
theorem Hello_bad (now : Int) (tok : ByteArray) (h : 400 < tok.size) (hs : tok.size < 4294967281) (w : World) :
  CR 15 #[.int .u64 now, .string tok] w (.tuple #[.string ⟨#[]⟩, .int .i64 200]) := by
 have hP := PutText_any tok w hs
 rw [if_pos h] at hP
 have HP := Lib.hid hP
 clear hP
 go_enter Tryz.func15, Tryz.ntmps15
 go_wp2_with fail
 refine HP.out.mono ?_
 rintro e w1 ⟨rfl, hb⟩
 have HB := Lib.hid hb
 clear hb HP
 go_wp2_with fail
 go_ret2
 exact ⟨rfl, HB.out⟩
set_option maxRecDepth 100000 in
set_option maxHeartbeats 1000000 in
theorem Hello_ok (now : Int) (tok : ByteArray) (hn : U64 now) (h : tok.size ≤ 400) (w : World) :
  CR 15 #[.int .u64 now, .string tok] w (.tuple #[.string ⟨(mkF (helB now tok)).toArray⟩, .int .i64 0]) := by
 have hP := PutText_any tok w (by omega)
 rw [if_neg (by omega)] at hP
 unfold putT at hP
 rw [if_neg (by omega)] at hP
 obtain ⟨p, hp⟩ : ∃ p, strOfNums (putNums now) = p := ⟨_, rfl⟩
 have hpd : p.data.toList = numsB [now] := by rw [← hp, strOf_list, numsB_one]
 have hpz : p.size = (numsB [now]).length := by rw [← hpd]; exact Array.length_toList.symm
 have hpl := (numsB_one_len now).2
 have htl := textB_len tok
 have HN : Hid (∀ W, Calls Tryz.prog 50 #[.int .u64 now] W fun e w' => e = .returned (.string p) ∧ Below W.heap.size W w') := fun W => by rw [← hp]; exact field_Put_any now W hn
 have hd : ((⟨#[1]⟩ : ByteArray) ++ p ++ ⟨(textB tok).toArray⟩).data.toList = helB now tok := by rw [ByteArray.data_append, ByteArray.data_append]; simp [helB, hpd]
 have hz : ((⟨#[1]⟩ : ByteArray) ++ p ++ ⟨(textB tok).toArray⟩).size = (helB now tok).length := by rw [← hd]; exact Array.length_toList.symm
 have hL := helB_len now h
 have HM : Hid (∀ W, CR 49 #[.string ((⟨#[1]⟩ : ByteArray) ++ p ++ ⟨(textB tok).toArray⟩)] W (.tuple #[.string ⟨(mkF (helB now tok)).toArray⟩, .int .i64 0])) := fun W => by
  have := made_ok ((⟨#[1]⟩ : ByteArray) ++ p ++ ⟨(textB tok).toArray⟩) (by omega) (by omega) W
  rw [hd] at this
  exact this
 have hc1 : ¬ 9223372036854775807 < 1 + p.size := by omega
 have hc2 : ¬ 9223372036854775807 < 1 + p.size + (textB tok).length := by omega
 have HP := Lib.hid hP
 clear hP hpd hpz hpl htl hd hz hL hp
 go_enter Tryz.func15, Tryz.ntmps15
 go_wp2_with fail
 refine HP.out.mono ?_
 rintro e w1 ⟨rfl, hb⟩
 obtain ⟨D, hD⟩ : ∃ D, w1.drew = D := ⟨_, rfl⟩
 have HB : Hid (Below w.heap.size w D) := by rw [Hid, ← hD]; exact hb.drew
 obtain ⟨D1, hD1, hX1, hB1, -⟩ := boxes1 D #[.int .u8 1] 5
 have hcv : (convert 84 9 (.slice (some ⟨D.heap.size, 0, none⟩) 1 1)).run Tryz.prog (D.alloc (.cells #[.int .u8 1] 5)) = .ok (.string ⟨#[1]⟩) (D.alloc (.cells #[.int .u8 1] 5)) := conv_new D [1] 1
 rw [hD1] at hcv
 have HX1 := Lib.hid hX1
 have HB1 : Hid (Below w.heap.size w D1) := HB.out.trans (hB1.mono HB.out.size)
 have HD := Lib.hid hD
 clear hb HP hX1 hB1 hD
 go_wp2_with fail
 refine wp_region_any (by kernel_rfl) ?_
 change wpAny _ _ _ _ _ _ _ (World.drew _)
 rw [HD.out]
 refine tk 2 (v := ?_) rfl ?_ ?_
 rotate_left
 ·intro w; go_simp; with_reducible rfl
 refine tk 5 (v := ?_) rfl ?_ ?_
 rotate_left
 ·intro w; go_simp; with_reducible rfl
 refine wpAny_ready (rs := [0, 3]) (by kernel_rfl) (by simp) ?_
 refine AllReady.cons rfl (fun K hK => ?_) ?_
 ·go_simp
  refine hK _ _ ?_
  clear hK K
  refine wpAny_ready (rs := [1, 3]) (by kernel_rfl) (by simp) ?_
  refine AllReady.cons rfl (fun K hK => ?_) ?_
  ·go_simp
   refine hK _ _ ?_
   clear hK K
   refine wpAny_ready (rs := [3]) (by kernel_rfl) (by simp) ?_
   refine AllReady.cons rfl (fun K hK => ?_) ?_
   ·go_simp
    refine (HN.out _).mono ?_
    rintro e x1 ⟨rfl, hb⟩
    have HBx : Hid (Below w.heap.size w x1) := HB1.out.trans (hb.mono HB1.out.size)
    clear hb
    refine hK _ _ ?_
    clear hK K
    refine wpAny_ready (rs := [4]) (by kernel_rfl) (by simp) ?_
    refine AllReady.cons rfl (fun K hK => ?_) ?_
    ·go_simp
     refine hK _ _ ?_
     clear hK K
     refine wpAny_ready (rs := [6]) (by kernel_rfl) (by simp) ?_
     refine AllReady.cons rfl (fun K hK => ?_) ?_
     ·go_simp
      refine hK _ _ ?_
      clear hK K
      refine wpAny_ready (rs := [7]) (by kernel_rfl) (by simp) ?_
      refine AllReady.cons rfl (fun K hK => ?_) ?_
      ·go_simp
       refine (HM.out _).mono ?_
       rintro e z ⟨rfl, hb⟩
       have HBz : Hid (Below w.heap.size w z) := HBx.out.trans (hb.mono HBx.out.size)
       clear hb
       refine hK _ _ ?_
       clear hK K
       refine tk 8 (v := ?_) rfl ?_ ?_
       rotate_left
       ·intro w; go_simp; with_reducible rfl
       refine tk 9 (v := ?_) rfl ?_ ?_
       rotate_left
       ·intro w; go_simp; with_reducible rfl
       refine wpAny_ready (rs := [10]) (by kernel_rfl) (by simp) ?_
       refine AllReady.cons rfl (fun K hK => ?_) ?_
       ·go_simp
        refine hK _ _ ?_
        clear hK K
        refine wpAny_ready (rs := [11]) (by kernel_rfl) (by simp) ?_
        refine AllReady.cons rfl (fun K hK => ?_) ?_
        ·go_simp
         refine hK _ _ ?_
         clear hK K
         refine wpAny_done (by kernel_rfl) ?_ _
         go_wp2_with fail
         go_ret2
         exact ⟨rfl, HBz.out⟩
        exact AllReady.nil
       exact AllReady.nil
      exact AllReady.nil
     exact AllReady.nil
    exact AllReady.nil
   exact AllReady.nil
  refine AllReady.cons rfl (fun K hK => ?_) ?_
  ·go_simp
   refine (HN.out _).mono ?_
   rintro e x1 ⟨rfl, hb⟩
   have HBx : Hid (Below w.heap.size w x1) := HB1.out.trans (hb.mono HB1.out.size)
   have hcw : (convert 84 9 (.slice (some ⟨D.heap.size, 0, none⟩) 1 1)).run Tryz.prog x1 = .ok (.string ⟨#[1]⟩) x1 := conv_at [1] (fun i hi => by have hi : i < 1 := hi; obtain rfl : i = 0 := (by omega); exact cCc (known hb (Nat.le_refl _) HX1.out) 0)
   clear hb
   refine hK _ _ ?_
   clear hK K
   refine wpAny_ready (rs := [1]) (by kernel_rfl) (by simp) ?_
   refine AllReady.cons rfl (fun K hK => ?_) ?_
   ·go_simp
    refine hK _ _ ?_
    clear hK K
    refine wpAny_ready (rs := [4]) (by kernel_rfl) (by simp) ?_
    refine AllReady.cons rfl (fun K hK => ?_) ?_
    ·go_simp
     refine hK _ _ ?_
     clear hK K
     refine wpAny_ready (rs := [6]) (by kernel_rfl) (by simp) ?_
     refine AllReady.cons rfl (fun K hK => ?_) ?_
     ·go_simp
      refine hK _ _ ?_
      clear hK K
      refine wpAny_ready (rs := [7]) (by kernel_rfl) (by simp) ?_
      refine AllReady.cons rfl (fun K hK => ?_) ?_
      ·go_simp
       refine (HM.out _).mono ?_
       rintro e z ⟨rfl, hb⟩
       have HBz : Hid (Below w.heap.size w z) := HBx.out.trans (hb.mono HBx.out.size)
       clear hb
       refine hK _ _ ?_
       clear hK K
       refine tk 8 (v := ?_) rfl ?_ ?_
       rotate_left
       ·intro w; go_simp; with_reducible rfl
       refine tk 9 (v := ?_) rfl ?_ ?_
       rotate_left
       ·intro w; go_simp; with_reducible rfl
       refine wpAny_ready (rs := [10]) (by kernel_rfl) (by simp) ?_
       refine AllReady.cons rfl (fun K hK => ?_) ?_
       ·go_simp
        refine hK _ _ ?_
        clear hK K
        refine wpAny_ready (rs := [11]) (by kernel_rfl) (by simp) ?_
        refine AllReady.cons rfl (fun K hK => ?_) ?_
        ·go_simp
         refine hK _ _ ?_
         clear hK K
         refine wpAny_done (by kernel_rfl) ?_ _
         go_wp2_with fail
         go_ret2
         exact ⟨rfl, HBz.out⟩
        exact AllReady.nil
       exact AllReady.nil
      exact AllReady.nil
     exact AllReady.nil
    exact AllReady.nil
   exact AllReady.nil
  exact AllReady.nil
 refine AllReady.cons rfl (fun K hK => ?_) ?_
 ·go_simp
  refine (HN.out _).mono ?_
  rintro e x0 ⟨rfl, hb⟩
  have HB0 : Hid (Below w.heap.size w x0) := HB.out.trans (hb.mono HB.out.size)
  obtain ⟨x1, hx1, -, hBx, -⟩ := boxes1 x0 #[.int .u8 1] 5
  have hcw : (convert 84 9 (.slice (some ⟨x0.heap.size, 0, none⟩) 1 1)).run Tryz.prog (x0.alloc (.cells #[.int .u8 1] 5)) = .ok (.string ⟨#[1]⟩) (x0.alloc (.cells #[.int .u8 1] 5)) := conv_new x0 [1] 1
  rw [hx1] at hcw
  have HBx : Hid (Below w.heap.size w x1) := HB0.out.trans (hBx.mono HB0.out.size)
  clear hb hBx
  refine hK _ _ ?_
  clear hK K
  refine wpAny_ready (rs := [0]) (by kernel_rfl) (by simp) ?_
  refine AllReady.cons rfl (fun K hK => ?_) ?_
  ·go_simp
   refine hK _ _ ?_
   clear hK K
   refine wpAny_ready (rs := [1]) (by kernel_rfl) (by simp) ?_
   refine AllReady.cons rfl (fun K hK => ?_) ?_
   ·go_simp
    refine hK _ _ ?_
    clear hK K
    refine wpAny_ready (rs := [4]) (by kernel_rfl) (by simp) ?_
    refine AllReady.cons rfl (fun K hK => ?_) ?_
    ·go_simp
     refine hK _ _ ?_
     clear hK K
     refine wpAny_ready (rs := [6]) (by kernel_rfl) (by simp) ?_
     refine AllReady.cons rfl (fun K hK => ?_) ?_
     ·go_simp
      refine hK _ _ ?_
      clear hK K
      refine wpAny_ready (rs := [7]) (by kernel_rfl) (by simp) ?_
      refine AllReady.cons rfl (fun K hK => ?_) ?_
      ·go_simp
       refine (HM.out _).mono ?_
       rintro e z ⟨rfl, hb⟩
       have HBz : Hid (Below w.heap.size w z) := HBx.out.trans (hb.mono HBx.out.size)
       clear hb
       refine hK _ _ ?_
       clear hK K
       refine tk 8 (v := ?_) rfl ?_ ?_
       rotate_left
       ·intro w; go_simp; with_reducible rfl
       refine tk 9 (v := ?_) rfl ?_ ?_
       rotate_left
       ·intro w; go_simp; with_reducible rfl
       refine wpAny_ready (rs := [10]) (by kernel_rfl) (by simp) ?_
       refine AllReady.cons rfl (fun K hK => ?_) ?_
       ·go_simp
        refine hK _ _ ?_
        clear hK K
        refine wpAny_ready (rs := [11]) (by kernel_rfl) (by simp) ?_
        refine AllReady.cons rfl (fun K hK => ?_) ?_
        ·go_simp
         refine hK _ _ ?_
         clear hK K
         refine wpAny_done (by kernel_rfl) ?_ _
         go_wp2_with fail
         go_ret2
         exact ⟨rfl, HBz.out⟩
        exact AllReady.nil
       exact AllReady.nil
      exact AllReady.nil
     exact AllReady.nil
    exact AllReady.nil
   exact AllReady.nil
  exact AllReady.nil
 exact AllReady.nil
end Go.Proofs.YtpklkhgnjbopnaaGreatDoor
namespace Go.Proofs.YtpklkhgnjbopnaaGreatDoor
open Go Go.RowKit Go.Shelf
set_option maxRecDepth 100000 in
set_option maxHeartbeats 1000000 in
theorem framed_ok (y : Ry) (na : Option Addr) (nc : Nat) (ea : Option Addr) (ec : Nat) (w : World) (hn : U64 y.n) (he : ∀ x ∈ y.ents, (U64 x.seq ∧ U64 x.tm ∧ U64 x.sum) ∧ x.text.size < 4294967281) (hI : SlE encI 1 w.heap.size w na y.nots.length y.nots) (hE : SlE Ent.enc 4 w.heap.size w ea y.ents.length y.ents) (hok : y.ok = true) (h0 : 0 < y.B.length) (h1 : y.B.length ≤ 2000) :
  CR 37 #[.agg (ryV y na nc ea ec)] w (.string ⟨(mkF y.B).toArray⟩) := by
 obtain ⟨W, hW, hX, hB, hsz⟩ := boxes1 w (ryV y na nc ea ec) 60
 have hP := PutReply_any y na nc ea ec W hn he (hI.go hB) (hE.go hB)
 rw [hok] at hP
 change CR 21 _ W (.tuple #[.string ⟨y.B.toArray⟩, .int .i64 0]) at hP
 unfold ryV at hP hX hW ⊢
 obtain ⟨c0, c1, c2, c3⟩ := cl4 hX
 have HP := Lib.hid hP
 have HBW := Lib.hid hB
 have HM : Hid (∀ W, Calls Tryz.prog 73 #[.string ⟨y.B.toArray⟩] W fun e w' => e = .returned (.tuple #[.string ⟨(mkF y.B).toArray⟩, .int .i64 0]) ∧ Below W.heap.size W w') := fun W => Make_ok ⟨y.B.toArray⟩ h0 h1 W
 clear hP hX hB hsz hI hE h0 h1
 go_enter Tryz.func37, Tryz.ntmps37
 go_wp2_with fail
 refine HP.out.mono ?_
 rintro e w1 ⟨rfl, hb⟩
 have HB : Hid (Below w.heap.size w w1) := HBW.out.trans (hb.mono HBW.out.size)
 clear hb HP
 go_wp2_with fail
 refine (HM.out _).mono ?_
 rintro e w2 ⟨rfl, hb⟩
 have HB2 : Hid (Below w.heap.size w w2) := HB.out.trans (hb.mono HB.out.size)
 clear hb HM
 go_wp2_with fail
 go_ret
 exact ⟨rfl, HB2.out⟩
end Go.Proofs.YtpklkhgnjbopnaaGreatDoor
namespace Go.Proofs.YtpklkhgnjbopnaaGreatDoor
open Go Go.RowKit Go.Shelf
def MsgPost (m : Msg) (w : World) (e : Ending) (w' : World) : Prop := (match m with
 | .hello now tok => e = .returned (.iface 150 (.agg #[.int .u64 now, .string tok]))
 | .ask q => ∃ ia ic ta tc, e = .returned (.iface 152 (.agg (rqV q ia ic ta tc))) ∧ SlE encIt 2 w'.heap.size w' ia q.items.length q.items ∧ SlE encU 1 w'.heap.size w' ta q.tens.length q.tens
 | .noise => e = .returned (.iface 198 (.agg #[]))) ∧ Below w.heap.size w w'
set_option maxRecDepth 100000 in
set_option maxHeartbeats 1000000 in
theorem message_none (s : ByteArray) (h : s.size = 0) (w : World) : Calls Tryz.prog 74 #[.string s] w (MsgPost .noise w) := by
 have he2 : s.toList.isEmpty = true := by rw [toList_isEmpty, h]; rfl
 have hne : s.toList = [] := List.isEmpty_iff.1 he2
 go_enter Tryz.func74, Tryz.ntmps74
 go_wp2_with fail
 go_ret
 exact ⟨rfl, Below.refl _ _⟩
set_option maxRecDepth 100000 in
set_option maxHeartbeats 4000000 in
theorem message_other (s t : ByteArray) (f : UInt8) (hlt : 0 < s.size) (hf : s[0]'hlt = f) (_ht : s.extract 1 s.size = t) (h1 : f ≠ 1) (h2 : f ≠ 2) (w : World) : Calls Tryz.prog 74 #[.string s] w (MsgPost .noise w) := by
 have he2 : s.toList.isEmpty = false := by
  rw [toList_isEmpty, beq_eq_false_iff_ne]
  omega
 have hne : ¬ s.toList = [] := by
  intro e
  rw [e] at he2
  cases he2
 have g1 : ¬ (f.toNat : Int) = 1 := fun e => h1 (UInt8.toNat_inj.1 (by have h : (1 : UInt8).toNat = 1 := rfl; omega))
 have g2 : ¬ (f.toNat : Int) = 2 := fun e => h2 (UInt8.toNat_inj.1 (by have h : (2 : UInt8).toNat = 2 := rfl; omega))
 go_enter Tryz.func74, Tryz.ntmps74
 go_wp2_with fail
 go_ret
 exact ⟨rfl, Below.refl _ _⟩
set_option maxRecDepth 100000 in
set_option maxHeartbeats 4000000 in
theorem message_ask (s t : ByteArray) (fm ff : Addr) (hlt : 0 < s.size) (hf : s[0]'hlt = 2) (ht : s.extract 1 s.size = t) (hz : t.size < 4294967281) (w : World) (hE : ∀ W, Below w.heap.size w W → GF fm ff W) : Calls Tryz.prog 74 #[.string s] w (MsgPost (match getRq t.data.toList with | some q => .ask q | none => .noise) w) := by
 have he2 : s.toList.isEmpty = false := by
  rw [toList_isEmpty, beq_eq_false_iff_ne]
  omega
 have hne : ¬ s.toList = [] := by
  intro e
  rw [e] at he2
  cases he2
 have HG := Lib.hid (GetReq_any t fm ff w hz hE)
 obtain ⟨o, ho⟩ : ∃ o, getRq t.data.toList = o := ⟨_, rfl⟩
 rw [ho] at HG ⊢
 obtain ⟨P, hP⟩ : ∃ P, MsgPost (match o with | some q => .ask q | none => .noise) w = P := ⟨_, rfl⟩
 rw [hP]
 have HP := Lib.hid hP
 clear hP hE ho hz
 go_enter Tryz.func74, Tryz.ntmps74
 go_wp2_with fail
 refine HG.out.mono ?_
 rintro e w1 ⟨h, hb⟩
 have HB := Lib.hid hb
 clear hb HG
 cases o with
 | none =>
  obtain rfl := h
  have HF : Hid (P = MsgPost .noise w) := HP.out.symm
  obtain ⟨X, hX, hXX, hXB, -⟩ := boxes1 w1 #[.int .i64 0, .int .u64 0, .string ⟨#[]⟩, .string ⟨#[]⟩, .int .i64 0, .slice none 0 0, .int .u64 0, .int .u64 0, .int .u64 0, .slice none 0 0] 56
  obtain ⟨c0, c1, c2, c3, c4, c5, c6, c7, c8, c9⟩ := cl10 hXX
  obtain ⟨f0, f1, f2, f3, f4, f5, f6, f7, f8, f9⟩ := cz10 hXX
  obtain ⟨V, hV, hVX, hVB, -⟩ := stor10 (.int .i64 0) (.int .u64 0) (.string ⟨#[]⟩) (.string ⟨#[]⟩) (.int .i64 0) (.slice none 0 0) (.int .u64 0) (.int .u64 0) (.int .u64 0) (.slice none 0 0) hXX (HB.out.trans (hXB.mono HB.out.size)) HB.out.size
  have HBX : Hid (Below w.heap.size w V) := hVB
  clear HP hXX hXB hVX hVB
  unfold rqZ
  go_wp2_with fail
  rw [HF.out]
  exact ⟨rfl, HBX.out⟩
 | some q =>
  obtain ⟨ia, ic, ta, tc, rfl, h1, h2⟩ := h
  have HF : Hid (P = MsgPost (.ask q) w) := HP.out.symm
  obtain ⟨X, hX, hXX, hXB, -⟩ := boxes1 w1 #[.int .i64 q.op, .int .u64 q.now, .string q.labels, .string q.scope, .int .i64 q.kind, .slice ia q.items.length ic, .int .u64 q.h, .int .u64 q.tnt, .int .u64 q.id, .slice ta q.tens.length tc] 56
  obtain ⟨c0, c1, c2, c3, c4, c5, c6, c7, c8, c9⟩ := cl10 hXX
  have HBX : Hid (Below w.heap.size w X) := HB.out.trans (hXB.mono HB.out.size)
  have HS := Lib.hid (And.intro (h1.go hXB) (h2.go hXB))
  clear HP h1 h2 hXX hXB
  unfold rqV
  go_wp2_with fail
  rw [HF.out]
  exact ⟨⟨ia, ic, ta, tc, rfl, HS.out.1, HS.out.2⟩, HBX.out⟩
set_option maxRecDepth 100000 in
set_option maxHeartbeats 4000000 in
theorem message_hello (s t : ByteArray) (fm ff : Addr) (hlt : 0 < s.size) (hf : s[0]'hlt = 1) (ht : s.extract 1 s.size = t) (hz : t.size < 4294967281) (w : World) (hE : ∀ W, Below w.heap.size w W → GF fm ff W) : Calls Tryz.prog 74 #[.string s] w (MsgPost (if (rdHel t.data.toList).2 = some [] then .hello (rdHel t.data.toList).1.1 (rdHel t.data.toList).1.2 else .noise) w) := by
 have he2 : s.toList.isEmpty = false := by
  rw [toList_isEmpty, beq_eq_false_iff_ne]
  omega
 have hne : ¬ s.toList = [] := by
  intro e
  rw [e] at he2
  cases he2
 obtain ⟨P, hP⟩ : ∃ P, MsgPost (if (rdHel t.data.toList).2 = some [] then .hello (rdHel t.data.toList).1.1 (rdHel t.data.toList).1.2 else .noise) w = P := ⟨_, rfl⟩
 rw [hP]
 have HP := Lib.hid hP
 clear hP
 obtain ⟨W, hW, hX, hB, hsz⟩ := boxes1 w #[.string t, .bool false] 130
 obtain ⟨l, hl⟩ : ∃ l, t.data.toList = l := ⟨_, rfl⟩
 have hll : l.length < 4294967281 := by rw [← hl, Array.length_toList]; exact hz
 have hsl : t = ⟨l.toArray⟩ := by rw [← hl]
 have HR : Hid (RdAt w.heap.size (some l) W) := ⟨hll, by rw [← hsl]; exact hX⟩
 have HB := Lib.hid hB
 have HE := Lib.hid hE
 rw [hl] at HP
 obtain ⟨a0, s0, ha⟩ : ∃ a s, rNum (some l) = (a, s) := ⟨_, _, rfl⟩
 have hc := rdnum_x w.heap.size (some l) fm ff W HR.out (hE _ hB)
 rw [ha] at hc
 have HA0 := Lib.hid ha
 have HC := Lib.hid hc
 clear hX hB hsz hl hll hsl hE ha hc
 go_enter Tryz.func74, Tryz.ntmps74
 go_wp2_with fail
 refine HC.out.mono ?_
 rintro e w1 ⟨rfl, hr, hk⟩
 have HR1 := Lib.hid hr
 have HB1 : Hid (Below w.heap.size w w1) := HB.out.trans (hk.below (fun k hk => Nat.ne_of_lt hk) HB.out.size)
 obtain ⟨a1, s1, ha⟩ : ∃ a s, rText s0 = (a, s) := ⟨_, _, rfl⟩
 have hc := rdtext_x w.heap.size s0 fm ff w1 HR1.out (fun X hb => HE.out X (HB1.out.trans (hb.mono HB1.out.size)))
 rw [ha] at hc
 have HA1 := Lib.hid ha
 have HC1 := Lib.hid hc
 clear hr hk HC ha hc
 go_wp2_with fail
 refine HC1.out.mono ?_
 rintro e w2 ⟨rfl, hr, hk⟩
 have HB2 : Hid (Below w.heap.size w w2) := HB1.out.trans (hk.below (fun k hk => Nat.ne_of_lt hk) HB1.out.size)
 obtain ⟨ok, hok⟩ : ∃ ok, decide (s1 = some []) = ok := ⟨_, rfl⟩
 have hc := rdended_x w.heap.size s1 w2 hr
 rw [hok] at hc
 have HC2 := Lib.hid hc
 have HOK := Lib.hid hok
 clear hr hk HC1 hc hok
 go_wp2_with fail
 refine HC2.out.mono ?_
 rintro e w3 ⟨rfl, hk, hr⟩
 have HB3 : Hid (Below w.heap.size w w3) := HB2.out.trans (hk.below (fun k hk => Nat.ne_of_lt hk) HB2.out.size)
 clear hr hk HC2
 have hH : rdHel l = ((a0, a1), s1) := by
  unfold rdHel
  simp only [HA0.out, HA1.out]
 cases ok with
 | true =>
  have hs1 := decide_eq_true_iff.1 HOK.out
  have HF : Hid (P = MsgPost (.hello a0 a1) w) := by rw [Hid, ← HP.out, hH, hs1]; rfl
  clear hH hs1
  go_wp2_with fail
  rw [HF.out]
  exact ⟨rfl, HB3.out⟩
 | false =>
  have hs1 := decide_eq_false_iff_not.1 HOK.out
  have HF : Hid (P = MsgPost .noise w) := by rw [Hid, ← HP.out, hH, if_neg hs1]
  clear hH hs1
  go_wp2_with fail
  rw [HF.out]
  exact ⟨rfl, HB3.out⟩
theorem head_tail (s t : ByteArray) (f : UInt8) (hlt : 0 < s.size) (hf : s[0]'hlt = f) (ht : s.extract 1 s.size = t) : s.data.toList = f :: t.data.toList := by
 rw [← ht, extract_tail]
 have h2 : 0 < s.data.toList.length := by rw [Array.length_toList]; exact hlt
 have h3 : s.data.toList[0]'h2 = f := by rw [← hf]; rfl
 generalize s.data.toList = q at h2 h3 ⊢
 cases q with
 | nil => simp at h2
 | cons x q => simp at h3; rw [h3]; rfl
theorem message_any (s : ByteArray) (fm ff : Addr) (hs : s.size < 4294967281) (w : World) (hE : ∀ W, Below w.heap.size w W → GF fm ff W) : Calls Tryz.prog 74 #[.string s] w (MsgPost (msgOf s.data.toList) w) := by
 by_cases h0 : s.size = 0
 ·have e : s.data.toList = [] := List.eq_nil_of_length_eq_zero (by rw [Array.length_toList]; exact h0)
  rw [e]
  exact message_none s h0 w
 ·have hlt : 0 < s.size := by omega
  have e := head_tail s _ _ hlt rfl rfl
  have hz : (s.extract 1 s.size).size < 4294967281 := by rw [ByteArray.size_extract]; omega
  rw [e]
  unfold msgOf
  dsimp only
  split
  ·rename_i h1
   exact message_hello s _ fm ff hlt h1 rfl hz w hE
  ·rename_i h1
   split
   ·rename_i h2
    exact message_ask s _ fm ff hlt h2 rfl hz w hE
   ·rename_i h2
    exact message_other s _ _ hlt rfl rfl h1 h2 w
end Go.Proofs.YtpklkhgnjbopnaaGreatDoor

/- Numbers read from bytes: plain words, of no program. Requests, replies and their bytes as plain data: written, read. No program in sight. The law of a range over a function whose iterator reads one block. Of no program. errors.Is over sentinels: lines of the kit's worked proof (Sentry) turned to this program. (Printed by gen_w1.py.) Package field: errno, behind, octets, number, Get. Frames and messages as plain data. No program in sight. -/
import Derived.Test.YtpklkhgnjbopnaaGreatDoorZYP
namespace Go.Proofs.YtpklkhgnjbopnaaGreatDoor
open Go Go.RowKit
inductive NumR where
 | got (n : Int) (r : List UInt8)
 | more
 | bad
def behindN (f : Nat) : Nat := if f ≤ 240 then 0 else if f ≤ 248 then 1 else if f = 249 then 2 else f - 247
def beGo : Int → List UInt8 → Int
 | n, [] => n
 | n, b :: r => beGo (n * 256 + b.toNat) r
def rawN (f : Nat) (t : List UInt8) : Int := if f ≤ 240 then f else if f ≤ 248 then beGo 0 t + (240 + 256 * ((f : Int) - 241)) else if f = 249 then beGo 0 t + 2288 else beGo 0 t
def getN : List UInt8 → NumR
 | [] => .more
 | f :: t => if t.length < behindN f.toNat then .more else
   if (putNums (rawN f.toNat (t.take (behindN f.toNat)))).length = 1 + behindN f.toNat then .got (rawN f.toNat (t.take (behindN f.toNat))) (t.drop (behindN f.toNat)) else .bad
theorem numsB_one (n : Int) : numsB [n] = (putNums n).map (fun k => UInt8.ofNat k.toNat) := by simp [numsB]
theorem u8_nat (n : Nat) (h : n < 256) : (UInt8.ofNat n).toNat = n := by simp; omega
theorem putNums_0 {n : Int} (h : n ≤ 240) : putNums n = [n] := by
 unfold putNums
 rw [if_pos (by omega)]
theorem putNums_1 {n : Int} (h : 240 < n ∧ n ≤ 2287) : putNums n = [241 + (n - 240) / 256, (n - 240) % 256] := by
 unfold putNums
 rw [if_neg (by omega), if_pos (by omega)]
theorem putNums_2 {n : Int} (h : 2287 < n ∧ n ≤ 67823) : putNums n = [249, (n - 2288) / 256, (n - 2288) % 256] := by
 unfold putNums
 rw [if_neg (by omega), if_neg (by omega), if_pos (by omega)]
theorem putNums_3 {n : Int} (h : 67823 < n ∧ n ≤ 16777215) : putNums n = [250, n / 65536, n / 256 % 256, n % 256] := by
 unfold putNums
 rw [if_neg (by omega), if_neg (by omega), if_neg (by omega), if_pos (by omega)]
theorem putNums_4 {n : Int} (h : 16777215 < n ∧ n ≤ 4294967295) : putNums n = [251, n / 16777216, n / 65536 % 256, n / 256 % 256, n % 256] := by
 unfold putNums
 rw [if_neg (by omega), if_neg (by omega), if_neg (by omega), if_neg (by omega), if_pos (by omega)]
theorem putNums_5 {n : Int} (h : 4294967295 < n ∧ n ≤ 1099511627775) : putNums n = [252, n / 4294967296, n / 16777216 % 256, n / 65536 % 256, n / 256 % 256, n % 256] := by
 unfold putNums
 rw [if_neg (by omega), if_neg (by omega), if_neg (by omega), if_neg (by omega), if_neg (by omega), if_pos (by omega)]
theorem putNums_6 {n : Int} (h : 1099511627775 < n ∧ n ≤ 281474976710655) : putNums n = [253, n / 1099511627776, n / 4294967296 % 256, n / 16777216 % 256, n / 65536 % 256, n / 256 % 256, n % 256] := by
 unfold putNums
 rw [if_neg (by omega), if_neg (by omega), if_neg (by omega), if_neg (by omega), if_neg (by omega), if_neg (by omega), if_pos (by omega)]
theorem putNums_7 {n : Int} (h : 281474976710655 < n ∧ n ≤ 72057594037927935) : putNums n = [254, n / 281474976710656, n / 1099511627776 % 256, n / 4294967296 % 256, n / 16777216 % 256, n / 65536 % 256, n / 256 % 256, n % 256] := by
 unfold putNums
 rw [if_neg (by omega), if_neg (by omega), if_neg (by omega), if_neg (by omega), if_neg (by omega), if_neg (by omega), if_neg (by omega), if_pos (by omega)]
theorem putNums_8 {n : Int} (h : 72057594037927935 < n) : putNums n = [255, n / 72057594037927936, n / 281474976710656 % 256, n / 1099511627776 % 256, n / 4294967296 % 256, n / 16777216 % 256, n / 65536 % 256, n / 256 % 256, n % 256] := by
 unfold putNums
 rw [if_neg (by omega), if_neg (by omega), if_neg (by omega), if_neg (by omega), if_neg (by omega), if_neg (by omega), if_neg (by omega), if_neg (by omega)]
theorem getN_cons (f : UInt8) (t r : List UInt8) (fn k : Nat) (n : Int) (hf : f.toNat = fn) (hk : behindN fn = k) (ht : t.length = k) (hn : rawN fn t = n) (hp : (putNums n).length = 1 + k) : getN (f :: (t ++ r)) = .got n r := by
 subst ht
 simp only [getN, hf, hk, List.length_append, List.take_left, List.drop_left, hn, hp, if_true]
 rw [if_neg (by omega)]
theorem hu8 (m : Int) (h0 : 0 ≤ m) (h1 : m < 256) : ((UInt8.ofNat m.toNat).toNat : Int) = m := by
 rw [u8_nat m.toNat (by omega)]; omega
theorem hv8 (m : Int) : ((UInt8.ofNat (m % 256).toNat).toNat : Int) = m % 256 := hu8 _ (by omega) (by omega)
theorem beGo_one (n : Int) (b : UInt8) (l : List UInt8) : beGo n (b :: l) = beGo (n * 256 + b.toNat) l := rfl
theorem beGo_nil (n : Int) : beGo n [] = n := rfl
theorem getN_put (n : Int) (h : U64 n) (r : List UInt8) : getN (numsB [n] ++ r) = .got n r := by
 obtain ⟨h0, h1⟩ := h
 rw [numsB_one]
 have hu := fun (m : Int) (h0 : 0 ≤ m) (h1 : m < 256) => u8_nat m.toNat (by omega)
 by_cases c0 : n ≤ 240
 ·have e := putNums_0 (n := n) (by omega)
  rw [e]
  exact getN_cons _ [] r n.toNat 0 n (hu n (by omega) (by omega)) (by unfold behindN; rw [if_pos (by omega)]) rfl (by unfold rawN; rw [if_pos (by omega)]; omega) (by rw [e]; rfl)
 by_cases c1 : n ≤ 2287
 ·have e := putNums_1 (n := n) (by omega)
  rw [e]
  refine getN_cons _ [_] r (241 + (n - 240) / 256).toNat 1 n (hu _ (by omega) (by omega)) (by unfold behindN; rw [if_neg (by omega), if_pos (by omega)]) rfl ?_ (by rw [e]; rfl)
  unfold rawN
  rw [if_neg (by omega), if_pos (by omega), beGo_one, beGo_nil, hv8]
  omega
 by_cases c2 : n ≤ 67823
 ·have e := putNums_2 (n := n) (by omega)
  rw [e]
  refine getN_cons _ [_, _] r 249 2 n (hu 249 (by omega) (by omega)) (by decide) rfl ?_ (by rw [e]; rfl)
  unfold rawN
  rw [if_neg (by omega), if_neg (by omega), if_pos rfl, beGo_one, beGo_one, beGo_nil, hv8, hu8 _ (by omega) (by omega)]
  omega
 by_cases c3 : n ≤ 16777215
 ·have e := putNums_3 (n := n) (by omega)
  rw [e]
  refine getN_cons _ [_, _, _] r 250 3 n (hu 250 (by omega) (by omega)) (by decide) rfl ?_ (by rw [e]; rfl)
  unfold rawN
  rw [if_neg (by omega), if_neg (by omega), if_neg (by omega), beGo_one, beGo_one, beGo_one, beGo_nil, hu8 (n / 65536) (by omega) (by omega), hv8 (n / 256), hv8 n, Int.zero_mul, Int.zero_add, show n / 65536 * 256 + n / 256 % 256 = n / 256 by omega, show n / 256 * 256 + n % 256 = n by omega]
 by_cases c4 : n ≤ 4294967295
 ·have e := putNums_4 (n := n) (by omega)
  rw [e]
  refine getN_cons _ [_, _, _, _] r 251 4 n (hu 251 (by omega) (by omega)) (by decide) rfl ?_ (by rw [e]; rfl)
  unfold rawN
  rw [if_neg (by omega), if_neg (by omega), if_neg (by omega), beGo_one, beGo_one, beGo_one, beGo_one, beGo_nil, hu8 (n / 16777216) (by omega) (by omega), hv8 (n / 65536), hv8 (n / 256), hv8 n, Int.zero_mul, Int.zero_add, show n / 16777216 * 256 + n / 65536 % 256 = n / 65536 by omega, show n / 65536 * 256 + n / 256 % 256 = n / 256 by omega, show n / 256 * 256 + n % 256 = n by omega]
 by_cases c5 : n ≤ 1099511627775
 ·have e := putNums_5 (n := n) (by omega)
  rw [e]
  refine getN_cons _ [_, _, _, _, _] r 252 5 n (hu 252 (by omega) (by omega)) (by decide) rfl ?_ (by rw [e]; rfl)
  unfold rawN
  rw [if_neg (by omega), if_neg (by omega), if_neg (by omega), beGo_one, beGo_one, beGo_one, beGo_one, beGo_one, beGo_nil, hu8 (n / 4294967296) (by omega) (by omega), hv8 (n / 16777216), hv8 (n / 65536), hv8 (n / 256), hv8 n, Int.zero_mul, Int.zero_add, show n / 4294967296 * 256 + n / 16777216 % 256 = n / 16777216 by omega, show n / 16777216 * 256 + n / 65536 % 256 = n / 65536 by omega, show n / 65536 * 256 + n / 256 % 256 = n / 256 by omega, show n / 256 * 256 + n % 256 = n by omega]
 by_cases c6 : n ≤ 281474976710655
 ·have e := putNums_6 (n := n) (by omega)
  rw [e]
  refine getN_cons _ [_, _, _, _, _, _] r 253 6 n (hu 253 (by omega) (by omega)) (by decide) rfl ?_ (by rw [e]; rfl)
  unfold rawN
  rw [if_neg (by omega), if_neg (by omega), if_neg (by omega), beGo_one, beGo_one, beGo_one, beGo_one, beGo_one, beGo_one, beGo_nil, hu8 (n / 1099511627776) (by omega) (by omega), hv8 (n / 4294967296), hv8 (n / 16777216), hv8 (n / 65536), hv8 (n / 256), hv8 n, Int.zero_mul, Int.zero_add, show n / 1099511627776 * 256 + n / 4294967296 % 256 = n / 4294967296 by omega, show n / 4294967296 * 256 + n / 16777216 % 256 = n / 16777216 by omega, show n / 16777216 * 256 + n / 65536 % 256 = n / 65536 by omega, show n / 65536 * 256 + n / 256 % 256 = n / 256 by omega, show n / 256 * 256 + n % 256 = n by omega]
 by_cases c7 : n ≤ 72057594037927935
 ·have e := putNums_7 (n := n) (by omega)
  rw [e]
  refine getN_cons _ [_, _, _, _, _, _, _] r 254 7 n (hu 254 (by omega) (by omega)) (by decide) rfl ?_ (by rw [e]; rfl)
  unfold rawN
  rw [if_neg (by omega), if_neg (by omega), if_neg (by omega), beGo_one, beGo_one, beGo_one, beGo_one, beGo_one, beGo_one, beGo_one, beGo_nil, hu8 (n / 281474976710656) (by omega) (by omega), hv8 (n / 1099511627776), hv8 (n / 4294967296), hv8 (n / 16777216), hv8 (n / 65536), hv8 (n / 256), hv8 n, Int.zero_mul, Int.zero_add, show n / 281474976710656 * 256 + n / 1099511627776 % 256 = n / 1099511627776 by omega, show n / 1099511627776 * 256 + n / 4294967296 % 256 = n / 4294967296 by omega, show n / 4294967296 * 256 + n / 16777216 % 256 = n / 16777216 by omega, show n / 16777216 * 256 + n / 65536 % 256 = n / 65536 by omega, show n / 65536 * 256 + n / 256 % 256 = n / 256 by omega, show n / 256 * 256 + n % 256 = n by omega]
 have e := putNums_8 (n := n) (by omega)
 rw [e]
 refine getN_cons _ [_, _, _, _, _, _, _, _] r 255 8 n (hu 255 (by omega) (by omega)) (by decide) rfl ?_ (by rw [e]; rfl)
 unfold rawN
 rw [if_neg (by omega), if_neg (by omega), if_neg (by omega), beGo_one, beGo_one, beGo_one, beGo_one, beGo_one, beGo_one, beGo_one, beGo_one, beGo_nil, hu8 (n / 72057594037927936) (by omega) (by omega), hv8 (n / 281474976710656), hv8 (n / 1099511627776), hv8 (n / 4294967296), hv8 (n / 16777216), hv8 (n / 65536), hv8 (n / 256), hv8 n, Int.zero_mul, Int.zero_add, show n / 72057594037927936 * 256 + n / 281474976710656 % 256 = n / 281474976710656 by omega, show n / 281474976710656 * 256 + n / 1099511627776 % 256 = n / 1099511627776 by omega, show n / 1099511627776 * 256 + n / 4294967296 % 256 = n / 4294967296 by omega, show n / 4294967296 * 256 + n / 16777216 % 256 = n / 16777216 by omega, show n / 16777216 * 256 + n / 65536 % 256 = n / 65536 by omega, show n / 65536 * 256 + n / 256 % 256 = n / 256 by omega, show n / 256 * 256 + n % 256 = n by omega]
theorem beGo_le : ∀ (l : List UInt8) (n : Int), 0 ≤ n → 0 ≤ beGo n l ∧ beGo n l < (n + 1) * 256 ^ l.length
 | [], n, h => by simp only [beGo, List.length_nil]; omega
 | b :: r, n, h => by
  have hb := UInt8.toNat_lt b
  obtain ⟨h1, h2⟩ := beGo_le r (n * 256 + b.toNat) (by omega)
  refine ⟨h1, Int.lt_of_lt_of_le h2 ?_⟩
  rw [List.length_cons, Int.pow_succ, Int.mul_comm (256 ^ r.length), ← Int.mul_assoc]
  have h3 : (0 : Int) ≤ 256 ^ r.length := Int.pow_nonneg (by omega)
  exact Int.mul_le_mul_of_nonneg_right (by omega) h3
set_option maxRecDepth 100000 in
theorem rawN_u64 (f : UInt8) (t : List UInt8) (ht : t.length = behindN f.toNat) : U64 (rawN f.toNat t) := by
 have hf := UInt8.toNat_lt f
 obtain ⟨h1, h2⟩ := beGo_le t 0 (by omega)
 rw [ht] at h2
 unfold rawN
 unfold behindN at h2
 split
 ·unfold U64; omega
 split
 ·rename_i h3 h4
  rw [if_neg h3, if_pos h4] at h2
  unfold U64; omega
 split
 ·rename_i h3 h4 h5
  rw [if_neg h3, if_neg h4, if_pos h5] at h2
  unfold U64; omega
 ·rename_i h3 h4 h5
  rw [if_neg h3, if_neg h4, if_neg h5] at h2
  have h6 : (256 : Int) ^ (f.toNat - 247) ≤ 256 ^ 8 := by
   have : (256 : Nat) ^ (f.toNat - 247) ≤ 256 ^ 8 := Nat.pow_le_pow_right (by omega) (by omega)
   exact_mod_cast this
  unfold U64; omega
theorem getN_got {l : List UInt8} {n : Int} {r : List UInt8} (h : getN l = .got n r) : U64 n ∧ r.length < l.length := by
 cases l with
 | nil => cases h
 | cons f t =>
  rw [getN] at h
  split at h
  ·cases h
  rename_i h1
  split at h
  ·injection h with h2 h3
   subst h2; subst h3
   refine ⟨rawN_u64 f _ (by rw [List.length_take]; omega), by rw [List.length_drop, List.length_cons]; omega⟩
  ·cases h
theorem ofNat_of {b : UInt8} {n : Int} (h : n = b.toNat) : UInt8.ofNat n.toNat = b := by
 subst h; simp
theorem putNums_size (n : Int) : ((putNums n).length = 1 → n ≤ 240) ∧ ((putNums n).length = 2 → 240 < n ∧ n ≤ 2287) ∧ ((putNums n).length = 3 → 2287 < n ∧ n ≤ 67823) ∧ ((putNums n).length = 4 → 67823 < n ∧ n ≤ 16777215) ∧ ((putNums n).length = 5 → 16777215 < n ∧ n ≤ 4294967295) ∧
  ((putNums n).length = 6 → 4294967295 < n ∧ n ≤ 1099511627775) ∧ ((putNums n).length = 7 → 1099511627775 < n ∧ n ≤ 281474976710655) ∧ ((putNums n).length = 8 → 281474976710655 < n ∧ n ≤ 72057594037927935) ∧ ((putNums n).length = 9 → 72057594037927935 < n) := by
 unfold putNums
 repeat' split
 all_goals simp only [List.length_cons, List.length_nil]; omega
set_option maxHeartbeats 4000000 in
theorem getN_inv {l : List UInt8} {n : Int} {r : List UInt8} (h : getN l = .got n r) : l = numsB [n] ++ r := by
 cases l with
 | nil => cases h
 | cons f t =>
  rw [getN] at h
  split at h
  ·cases h
  rename_i h1
  split at h
  case isFalse => cases h
  rename_i h2
  injection h with h3 h4
  obtain ⟨ts, hts⟩ : ∃ ts, t.take (behindN f.toNat) = ts := ⟨_, rfl⟩
  have htl : ts.length = behindN f.toNat := by rw [← hts, List.length_take]; omega
  have htt : t = ts ++ r := by rw [← h4, ← hts, List.take_append_drop]
  rw [hts] at h2 h3
  have hu := rawN_u64 f ts htl
  rw [h3] at h2 hu
  have hs := putNums_size n
  obtain ⟨s1, s2, s3, s4, s5, s6, s7, s8, s9⟩ := hs
  obtain ⟨hu0, hu1⟩ := hu
  have hf := UInt8.toNat_lt f
  rw [htt, numsB_one, ← List.cons_append]
  congr 1
  clear h4 htt hts h1
  by_cases c0 : f.toNat ≤ 240
  ·have hb : behindN f.toNat = 0 := by unfold behindN; rw [if_pos c0]
   rw [hb] at htl h2
   obtain rfl : ts = [] := List.eq_nil_of_length_eq_zero htl
   unfold rawN at h3
   rw [if_pos c0] at h3
   have s := s1 h2
   rw [putNums_0 s]
   simp only [List.map_cons, List.map_nil]
   rw [ofNat_of (b := f) (by omega)]
  by_cases c1 : f.toNat ≤ 248
  ·have hb : behindN f.toNat = 1 := by unfold behindN; rw [if_neg c0, if_pos c1]
   rw [hb] at htl h2
   match ts, htl with
   | [b0], _ =>
    unfold rawN at h3
    rw [if_neg c0, if_pos c1] at h3
    simp only [beGo] at h3
    have q0 := UInt8.toNat_lt b0
    have s := s2 h2
    rw [putNums_1 s]
    simp only [List.map_cons, List.map_nil]
    rw [ofNat_of (b := f) (by omega), ofNat_of (b := b0) (by omega)]
  by_cases c2 : f.toNat = 249
  ·have hb : behindN f.toNat = 2 := by unfold behindN; rw [if_neg c0, if_neg c1, if_pos c2]
   rw [hb] at htl h2
   match ts, htl with
   | [b0, b1], _ =>
    unfold rawN at h3
    rw [if_neg c0, if_neg c1, if_pos c2] at h3
    simp only [beGo] at h3
    have q0 := UInt8.toNat_lt b0
    have q1 := UInt8.toNat_lt b1
    have s := s3 h2
    rw [putNums_2 s]
    simp only [List.map_cons, List.map_nil]
    rw [ofNat_of (b := f) (by omega), ofNat_of (b := b0) (by omega), ofNat_of (b := b1) (by omega)]
  have hb : behindN f.toNat = f.toNat - 247 := by unfold behindN; rw [if_neg c0, if_neg c1, if_neg c2]
  rw [hb] at htl h2
  unfold rawN at h3
  rw [if_neg c0, if_neg c1, if_neg c2] at h3
  by_cases d3 : f.toNat = 250
  ·rw [d3] at htl h2
   match ts, htl with
   | [b0, b1, b2], _ =>
    simp only [beGo] at h3
    have qb0 := UInt8.toNat_lt b0
    have qb1 := UInt8.toNat_lt b1
    have qb2 := UInt8.toNat_lt b2
    have s := s4 h2
    rw [putNums_3 s]
    simp only [List.map_cons, List.map_nil]
    rw [ofNat_of (b := f) (by omega), ofNat_of (b := b0) (by omega), ofNat_of (b := b1) (by omega), ofNat_of (b := b2) (by omega)]
  by_cases d4 : f.toNat = 251
  ·rw [d4] at htl h2
   match ts, htl with
   | [b0, b1, b2, b3], _ =>
    simp only [beGo] at h3
    have qb0 := UInt8.toNat_lt b0
    have qb1 := UInt8.toNat_lt b1
    have qb2 := UInt8.toNat_lt b2
    have qb3 := UInt8.toNat_lt b3
    have s := s5 h2
    rw [putNums_4 s]
    simp only [List.map_cons, List.map_nil]
    rw [ofNat_of (b := f) (by omega), ofNat_of (b := b0) (by omega), ofNat_of (b := b1) (by omega), ofNat_of (b := b2) (by omega), ofNat_of (b := b3) (by omega)]
  by_cases d5 : f.toNat = 252
  ·rw [d5] at htl h2
   match ts, htl with
   | [b0, b1, b2, b3, b4], _ =>
    simp only [beGo] at h3
    have qb0 := UInt8.toNat_lt b0
    have qb1 := UInt8.toNat_lt b1
    have qb2 := UInt8.toNat_lt b2
    have qb3 := UInt8.toNat_lt b3
    have qb4 := UInt8.toNat_lt b4
    have s := s6 h2
    rw [putNums_5 s]
    simp only [List.map_cons, List.map_nil]
    rw [ofNat_of (b := f) (by omega), ofNat_of (b := b0) (by omega), ofNat_of (b := b1) (by omega), ofNat_of (b := b2) (by omega), ofNat_of (b := b3) (by omega), ofNat_of (b := b4) (by omega)]
  by_cases d6 : f.toNat = 253
  ·rw [d6] at htl h2
   match ts, htl with
   | [b0, b1, b2, b3, b4, b5], _ =>
    simp only [beGo] at h3
    have qb0 := UInt8.toNat_lt b0
    have qb1 := UInt8.toNat_lt b1
    have qb2 := UInt8.toNat_lt b2
    have qb3 := UInt8.toNat_lt b3
    have qb4 := UInt8.toNat_lt b4
    have qb5 := UInt8.toNat_lt b5
    have s := s7 h2
    rw [putNums_6 s]
    simp only [List.map_cons, List.map_nil]
    rw [ofNat_of (b := f) (by omega), ofNat_of (b := b0) (by omega), ofNat_of (b := b1) (by omega), ofNat_of (b := b2) (by omega), ofNat_of (b := b3) (by omega), ofNat_of (b := b4) (by omega), ofNat_of (b := b5) (by omega)]
  by_cases d7 : f.toNat = 254
  ·rw [d7] at htl h2
   match ts, htl with
   | [b0, b1, b2, b3, b4, b5, b6], _ =>
    simp only [beGo] at h3
    have qb0 := UInt8.toNat_lt b0
    have qb1 := UInt8.toNat_lt b1
    have qb2 := UInt8.toNat_lt b2
    have qb3 := UInt8.toNat_lt b3
    have qb4 := UInt8.toNat_lt b4
    have qb5 := UInt8.toNat_lt b5
    have qb6 := UInt8.toNat_lt b6
    have s := s8 h2
    rw [putNums_7 s]
    simp only [List.map_cons, List.map_nil]
    rw [ofNat_of (b := f) (by omega), ofNat_of (b := b0) (by omega), ofNat_of (b := b1) (by omega), ofNat_of (b := b2) (by omega), ofNat_of (b := b3) (by omega), ofNat_of (b := b4) (by omega), ofNat_of (b := b5) (by omega), ofNat_of (b := b6) (by omega)]
  have d8 : f.toNat = 255 := by omega
  rw [d8] at htl h2
  match ts, htl with
  | [b0, b1, b2, b3, b4, b5, b6, b7], _ =>
   simp only [beGo] at h3
   have qb0 := UInt8.toNat_lt b0
   have qb1 := UInt8.toNat_lt b1
   have qb2 := UInt8.toNat_lt b2
   have qb3 := UInt8.toNat_lt b3
   have qb4 := UInt8.toNat_lt b4
   have qb5 := UInt8.toNat_lt b5
   have qb6 := UInt8.toNat_lt b6
   have qb7 := UInt8.toNat_lt b7
   have s := s9 h2
   rw [putNums_8 s]
   simp only [List.map_cons, List.map_nil]
   rw [ofNat_of (b := f) (by omega), ofNat_of (b := b0) (by omega), ofNat_of (b := b1) (by omega), ofNat_of (b := b2) (by omega), ofNat_of (b := b3) (by omega), ofNat_of (b := b4) (by omega), ofNat_of (b := b5) (by omega), ofNat_of (b := b6) (by omega), ofNat_of (b := b7) (by omega)]
end Go.Proofs.YtpklkhgnjbopnaaGreatDoor
namespace Go.Proofs.YtpklkhgnjbopnaaGreatDoor
open Go Go.RowKit
structure Rq where
 op : Int
 now : Int
 labels : ByteArray
 scope : ByteArray
 kind : Int
 items : List (Nat × Int)
 h : Int
 tnt : Int
 id : Int
 tens : List Int
def textB (s : ByteArray) : List UInt8 := numsB [(s.size : Int)] ++ s.data.toList
def itemB (i : Nat × Int) : List UInt8 := numsB [(i.1 : Int), i.2]
def Rq.B (r : Rq) : List UInt8 := numsB [r.op] ++ (numsB [r.now] ++ (textB r.labels ++ (textB r.scope ++ (numsB [r.kind] ++ (numsB [(r.items.length : Int)] ++ (r.items.flatMap itemB ++ (numsB [r.h] ++ (numsB [r.tnt] ++ (numsB [r.id] ++ (numsB [(r.tens.length : Int)] ++ numsB r.tens))))))))))
def Rq.ok (r : Rq) : Bool := decide (0 ≤ r.op) && decide (r.op ≤ 255) && decide (0 ≤ r.kind) && decide (r.kind ≤ 255) && decide (r.items.length ≤ 50) && decide (r.tens.length ≤ 8) && decide (r.labels.size ≤ 400) && decide (r.scope.size ≤ 400)
structure Rq.Wf (r : Rq) : Prop where
 now : U64 r.now
 items : ∀ i ∈ r.items, U64 (i.1 : Int) ∧ U64 i.2
 h : U64 r.h
 tnt : U64 r.tnt
 id : U64 r.id
 tens : U64s r.tens
abbrev Rd := Option (List UInt8)
def rNum : Rd → Int × Rd
 | none => (0, none)
 | some l => match getN l with
  | .got n r => (n, some r)
  | .more => (0, none)
  | .bad => (0, none)
def rMost (m : Int) (s : Rd) : Int × Rd := if m < (rNum s).1 then (0, none) else rNum s
def rText : Rd → ByteArray × Rd
 | none => (⟨#[]⟩, none)
 | some l => match getN l with
  | .got n r => if 400 < n ∨ (r.length : Int) < n then (⟨#[]⟩, none) else (⟨(r.take n.toNat).toArray⟩, some (r.drop n.toNat))
  | .more => (⟨#[]⟩, none)
  | .bad => (⟨#[]⟩, none)
def iter {α : Type} (f : α → α) : Nat → α → α
 | 0, x => x
 | k + 1, x => f (iter f k x)
def stepL {α : Type} (f : Rd → α × Rd) (x : List α × Rd) : List α × Rd := (x.1 ++ [(f x.2).1], (f x.2).2)
def rItem (s : Rd) : (Nat × Int) × Rd := (((rNum s).1.toNat, (rNum (rNum s).2).1), (rNum (rNum s).2).2)
def rdRq (l : List UInt8) : Rq × Rd :=
 let a := rMost 255 (some l)
 let b := rNum a.2
 let c := rText b.2
 let d := rText c.2
 let e := rMost 255 d.2
 let f := rMost 50 e.2
 let g := iter (stepL rItem) f.1.toNat ([], f.2)
 let h := rNum g.2
 let i := rNum h.2
 let j := rNum i.2
 let k := rMost 8 j.2
 let m := iter (stepL rNum) k.1.toNat ([], k.2)
 (⟨a.1, b.1, c.1, d.1, e.1, g.1, h.1, i.1, j.1, m.1⟩, m.2)
def getRq (l : List UInt8) : Option Rq := if (rdRq l).2 = some [] then some (rdRq l).1 else none
structure Reads {α : Type} (f : Rd → α × Rd) (B : α → List UInt8) (P : α → Prop) : Prop where
 put : ∀ x r, P x → f (some (B x ++ r)) = (x, some r)
 inv : ∀ s x r, f s = (x, some r) → s = some (B x ++ r) ∧ P x
theorem reads_num : Reads rNum (fun n => numsB [n]) U64 := ⟨fun x r h => by
  show (match getN (numsB [x] ++ r) with | .got n r => (n, some r) | .more => (0, none) | .bad => (0, none)) = _
  rw [getN_put x h r], fun s x r h => by
  cases s with
  | none => cases h
  | some l =>
   unfold rNum at h
   dsimp only at h
   cases hg : getN l with
   | got n q =>
    rw [hg] at h
    cases h
    exact ⟨by rw [getN_inv hg], (getN_got hg).1⟩
   | more => rw [hg] at h; cases h
   | bad => rw [hg] at h; cases h⟩
theorem reads_most (m : Int) : Reads (rMost m) (fun n => numsB [n]) (fun n => U64 n ∧ n ≤ m) := ⟨fun x r h => by
  unfold rMost
  rw [reads_num.put x r h.1, if_neg (by have := h.2; show ¬ m < x; omega)], fun s x r h => by
  unfold rMost at h
  split at h
  ·cases h
  ·rename_i hm
   obtain ⟨h1, h2⟩ := reads_num.inv s x r h
   rw [h] at hm
   exact ⟨h1, h2, by have : ¬ m < x := hm; omega⟩⟩
theorem reads_text : Reads rText textB (fun s => s.size ≤ 400) := ⟨fun x r h => by
  have hx : x.data.toList.length = x.size := by rw [Array.length_toList]; rfl
  unfold textB
  rw [List.append_assoc]
  unfold rText
  dsimp only
  rw [getN_put _ (by unfold U64; omega)]
  dsimp only
  rw [if_neg (by rw [List.length_append, hx]; omega), Int.toNat_natCast, List.take_append_of_le_length (by omega), List.drop_append_of_le_length (by omega), List.take_of_length_le (by omega), List.drop_of_length_le (by omega)]
  simp, fun s x r h => by
  cases s with
  | none => cases h
  | some l =>
   unfold rText at h
   dsimp only at h
   cases hg : getN l with
   | got n q =>
    rw [hg] at h
    dsimp only at h
    split at h
    ·cases h
    ·rename_i hn
     have hu := (getN_got hg).1
     unfold U64 at hu
     cases h
     have hz : (ByteArray.mk (q.take n.toNat).toArray).size = n.toNat := by
      show (q.take n.toNat).toArray.size = _
      rw [List.size_toArray, List.length_take]
      omega
     refine ⟨?_, by rw [hz]; omega⟩
     unfold textB
     rw [hz, Int.toNat_of_nonneg hu.1, getN_inv hg, List.append_assoc]
     simp
   | more => rw [hg] at h; cases h
   | bad => rw [hg] at h; cases h⟩
theorem reads_item : Reads rItem itemB (fun i => U64 (i.1 : Int) ∧ U64 i.2) := ⟨fun x r h => by
  unfold rItem itemB
  rw [show numsB [(x.1 : Int), x.2] = numsB [(x.1 : Int)] ++ numsB [x.2] from numsB_append [_] [_], List.append_assoc, reads_num.put _ _ h.1]
  dsimp only
  rw [reads_num.put _ _ h.2]
  rfl, fun s x r h => by
  unfold rItem at h
  obtain ⟨n, t, h1⟩ : ∃ n t, rNum s = (n, t) := ⟨_, _, rfl⟩
  obtain ⟨m, u, h2⟩ : ∃ m u, rNum t = (m, u) := ⟨_, _, rfl⟩
  rw [h1] at h
  dsimp only at h
  rw [h2] at h
  cases h
  obtain ⟨e2, u2⟩ := reads_num.inv _ _ _ h2
  rw [e2] at h1
  obtain ⟨e1, u1⟩ := reads_num.inv _ _ _ h1
  have hn : ((n.toNat : Nat) : Int) = n := Int.toNat_of_nonneg u1.1
  refine ⟨?_, by rw [hn]; exact u1, u2⟩
  rw [e1]
  unfold itemB
  dsimp only
  rw [hn, show numsB [n, m] = numsB [n] ++ numsB [m] from numsB_append [n] [m], List.append_assoc]⟩
section
variable {α : Type} {f : Rd → α × Rd} {B : α → List UInt8} {P : α → Prop}
theorem Reads.iter_put (h : Reads f B P) (l : List α) (r : List UInt8) (hl : ∀ x ∈ l, P x) : ∀ k, k ≤ l.length → iter (stepL f) k ([], some (l.flatMap B ++ r)) = (l.take k, some ((l.drop k).flatMap B ++ r))
 | 0, _ => rfl
 | k + 1, hk => by
  show stepL f (iter (stepL f) k _) = _
  rw [h.iter_put l r hl k (by omega)]
  obtain ⟨x, hx⟩ : ∃ x, l[k]? = some x := ⟨_, List.getElem?_eq_getElem (by omega)⟩
  have hd : l.drop k = x :: l.drop (k + 1) := by
   rw [List.drop_eq_getElem_cons (by omega)]
   congr 1
   exact (List.getElem?_eq_some_iff.1 hx).2
  unfold stepL
  dsimp only
  rw [hd, List.flatMap_cons, List.append_assoc, h.put x _ (hl x (List.mem_of_getElem? hx)), List.take_add_one, hx]
  rfl
theorem Reads.iter_all (h : Reads f B P) (l : List α) (r : List UInt8) (hl : ∀ x ∈ l, P x) : iter (stepL f) l.length ([], some (l.flatMap B ++ r)) = (l, some r) := by
 rw [h.iter_put l r hl _ (Nat.le_refl _), List.take_length, List.drop_length]
 rfl
end
theorem numsB_flat (l : List Int) : numsB l = l.flatMap fun n => numsB [n] := by
 induction l with
 | nil => rfl
 | cons x l ih => rw [List.flatMap_cons, ← ih]; exact numsB_append [x] l
theorem Rq.okD {r : Rq} (h : r.ok = true) : (0 ≤ r.op ∧ r.op ≤ 255) ∧ (0 ≤ r.kind ∧ r.kind ≤ 255) ∧ r.items.length ≤ 50 ∧ r.tens.length ≤ 8 ∧ r.labels.size ≤ 400 ∧ r.scope.size ≤ 400 := by
 simp only [Rq.ok, Bool.and_eq_true, decide_eq_true_eq] at h
 obtain ⟨⟨⟨⟨⟨⟨⟨h1, h2⟩, h3⟩, h4⟩, h5⟩, h6⟩, h7⟩, h8⟩ := h
 exact ⟨⟨h1, h2⟩, ⟨h3, h4⟩, h5, h6, h7, h8⟩
theorem rdRq_put (r : Rq) (h : r.ok = true) (hw : r.Wf) : rdRq r.B = (r, some []) := by
 obtain ⟨h1, h2, h3, h4, h5, h6⟩ := Rq.okD h
 unfold rdRq Rq.B
 rw [(reads_most 255).put _ _ ⟨by unfold U64; omega, h1.2⟩]
 dsimp only
 rw [reads_num.put _ _ hw.now]
 dsimp only
 rw [reads_text.put _ _ h5]
 dsimp only
 rw [reads_text.put _ _ h6]
 dsimp only
 rw [(reads_most 255).put _ _ ⟨by unfold U64; omega, h2.2⟩]
 dsimp only
 rw [(reads_most 50).put _ _ ⟨by unfold U64; omega, by omega⟩]
 dsimp only
 rw [Int.toNat_natCast, reads_item.iter_all _ _ hw.items]
 dsimp only
 rw [reads_num.put _ _ hw.h]
 dsimp only
 rw [reads_num.put _ _ hw.tnt]
 dsimp only
 rw [reads_num.put _ _ hw.id]
 dsimp only
 rw [(reads_most 8).put _ _ ⟨by unfold U64; omega, by omega⟩]
 dsimp only
 have e := reads_num.iter_all r.tens [] hw.tens
 rw [List.append_nil] at e
 rw [Int.toNat_natCast, numsB_flat, e]
theorem getRq_put {r : Rq} (h : r.ok = true) (hw : r.Wf) : getRq r.B = some r := by
 unfold getRq
 rw [rdRq_put r h hw, if_pos rfl]
structure Ry where
 e : Int
 n : Int
 nots : List Int
 ents : List Ent
def entB (x : Ent) : List UInt8 := numsB [x.seq] ++ (numsB [x.tm] ++ (textB x.text ++ numsB [x.sum]))
def Ry.B (y : Ry) : List UInt8 := numsB [y.e] ++ (numsB [y.n] ++ (numsB [(y.nots.length : Int)] ++ (numsB y.nots ++ (numsB [(y.ents.length : Int)] ++ y.ents.flatMap entB))))
def smallB (n : Int) : Bool := decide (0 ≤ n) && decide (n ≤ 4611686018427387904)
def Ry.ok (y : Ry) : Bool := smallB y.e && decide (y.nots.length ≤ 100) && decide (y.ents.length ≤ 100) && y.nots.all smallB && y.ents.all fun x => decide (x.text.size ≤ 400)
structure Ry.Wf (y : Ry) : Prop where
 n : U64 y.n
 ents : ∀ x ∈ y.ents, U64 x.seq ∧ U64 x.tm ∧ U64 x.sum
theorem small_u64 {n : Int} (h : smallB n = true) : U64 n ∧ n ≤ 4611686018427387904 := by
 simp only [smallB, Bool.and_eq_true, decide_eq_true_eq] at h
 exact ⟨⟨h.1, by omega⟩, h.2⟩
end Go.Proofs.YtpklkhgnjbopnaaGreatDoor
namespace Go.Proofs.YtpklkhgnjbopnaaGreatDoor
open Go Go.RowKit Go.Shelf
attribute [local go_sem] Oper.semAt_some
def KB (B : Nat) (W W' : World) : Prop := ∀ o, W.heap[B]? = some o → W'.heap[B]? = some o
theorem KB.trans {B : Nat} {X Y Z : World} (h : KB B X Y) (k : KB B Y Z) : KB B X Z := fun o ho => k o (h o ho)
theorem KB.refl (B : Nat) (X : World) : KB B X X := fun _ h => h
theorem wp_range_kb {α : Type} {P : Program} {g : Operand} {ps : Array Tmp} {assign body : Code} {Q : Exit → Act → World → Prop} {a : Act} {w : World} (Bs : Nat) (T : α → Array Value)
  {gf : Nat} {lb : Array Value} (hg : a.eval g = .func (.func gf) #[] lb) (eg : ∀ args w, (callFunc gf args).run P w = .ok (.enter gf args) w)
  {encs : α → Array Value} {xs : List α} {N : Nat} {w0 : World} (hseq : SeqStopsK Fence.wide 8 P gf lb encs (KB Bs) (fun ys => ys = xs) (fun pre => pre <+: xs) N w0)
  (hBs : Bs < w.heap.size) (hb0 : Below w0.heap.size w0 w) (hps : ∀ x, (encs x).size = ps.size)
  (I : List α → World → Prop) (Ix : Code → List α → World → Prop) (hI : OwnFrom w.heap.size I) (hIx : ∀ c, OwnFrom w.heap.size (Ix c)) (h0 : I [] w)
  (hassign : ∀ (l : Nat) (pre : List α) (x : α) (W : World) (K : Act → World → Prop), I pre W → (I pre W → K { tmps := T x, defers := [] } W) →
   assign.wpIn (Fence.wide.inRound l) 7 P (Exit.then K (fun _ _ _ => False)) { tmps := (ps.zip (encs x)).foldl (fun t (p, v) => t.setIfInBounds p v) a.tmps, defers := [] } W)
  (hbody : ∀ (l : Nat) (pre : List α) (x : α) (W : World), I pre W → pre.length < N → body.wpIn (Fence.wide.inRound l) 7 P (ownPostG w.heap.size (KB Bs) I Ix (pre ++ [x]) W) { tmps := T x, defers := [] } W)
  (hdone : ∀ (D : Nat) (W : World), w.heap.size ≤ D → I xs W → W.heap[D]? = some (.deferred (some [])) → Q .normal { a with defers := { target := .collected D, args := #[] } :: a.defers } W)
  (hstop : ∀ (D : Nat) (c : Code) (pre : List α) (W : World), w.heap.size ≤ D → pre <+: xs → Ix c pre W → W.heap[D]? = some (.deferred (some [])) → c.wp P Q { a with defers := { target := .collected D, args := #[] } :: a.defers } W) :
  (Code.rangeFunc g ps assign body).wp P Q a w :=
 (wpIn_wide (n := 9)).1 (wpIn_rangeFunc_ownH rfl (by omega) hg trivial eg hseq (fun h k => h.trans k)
  (fun W l o o' hl h _ _ o2 h2 => (World.putObj_heap_other (by omega)).trans h2) hb0 hps I Ix hI hIx h0 (fun x a' _ => a' = { tmps := T x, defers := [] }) (fun _ _ => ownFrom_pure _ _)
  (fun l pre x W K hi hK => hassign l pre x W K hi (fun hi' => hK _ _ (KeepsFrom.refl _ _) (KB.refl _ _) hi' rfl))
  (fun l pre x a' W _ _ hi hax hlt => by subst hax; exact hbody l pre x W hi hlt) (fun D ys W hD e hi hK => by subst e; exact hdone D W hD hi hK) (fun D c pre W hD hp hi hK => wpIn_wide.2 (hstop D c pre W hD hp hi hK)))
theorem wp_range_brk2 {α : Type} {P : Program} {g : Operand} {ps : Array Tmp} {assign body : Code} {Q : Exit → Act → World → Prop} {a : Act} {w : World} {id : Nat} (Bs s1 s2 : Nat) (v1 v2 : α → Value)
  {gf : Nat} {lb : Array Value} (hg : a.eval g = .func (.func gf) #[] lb) (eg : ∀ args w, (callFunc gf args).run P w = .ok (.enter gf args) w)
  {encs : α → Array Value} {xs : List α} {N : Nat} {w0 : World} (hseq : SeqStopsK Fence.wide 8 P gf lb encs (KB Bs) (fun ys => ys = xs) (fun pre => pre <+: xs) N w0)
  (hBs : Bs < w.heap.size) (hb0 : Below w0.heap.size w0 w) (hps : ∀ x, (encs x).size = ps.size)
  (I Ib : List α → World → Prop) (hI : OwnFrom w.heap.size I) (hIb : OwnFrom w.heap.size Ib) (h0 : I [] w)
  (hassign : ∀ (l : Nat) (pre : List α) (x : α) (W : World) (K : Act → World → Prop), I pre W → (I pre W → K { tmps := (((ps.zip (encs x)).foldl (fun t (p, v) => t.setIfInBounds p v) a.tmps).setIfInBounds s1 (v1 x)).setIfInBounds s2 (v2 x), defers := [] } W) →
   assign.wpIn (Fence.wide.inRound l) 7 P (Exit.then K (fun _ _ _ => False)) { tmps := (ps.zip (encs x)).foldl (fun t (p, v) => t.setIfInBounds p v) a.tmps, defers := [] } W)
  (hbody : ∀ (l : Nat) (pre : List α) (x : α) (W : World), I pre W → pre.length < N → body.wpIn (Fence.wide.inRound l) 7 P (ownPostG w.heap.size (KB Bs) I (fun c pre W => c = .exit id ∧ Ib pre W) (pre ++ [x]) W) { tmps := (((ps.zip (encs x)).foldl (fun t (p, v) => t.setIfInBounds p v) a.tmps).setIfInBounds s1 (v1 x)).setIfInBounds s2 (v2 x), defers := [] } W)
  (hfin : ∀ (D : Nat) (W : World), w.heap.size ≤ D → (I xs W ∨ ∃ pre, pre <+: xs ∧ Ib pre W) → W.heap[D]? = some (.deferred (some [])) → Q .normal { a with defers := { target := .collected D, args := #[] } :: a.defers } W) :
  (Code.rangeFunc g ps assign body).wp P (Exit.inBlock id Q) a w :=
 wp_range_kb Bs _ hg eg hseq hBs hb0 hps I (fun c pre W => c = .exit id ∧ Ib pre W) hI (fun _ => (ownFrom_pure _ _).and hIb) h0 hassign hbody (fun D W hD hi hK => hfin D W hD (.inl hi) hK)
  (fun D c pre W hD hp hi hK => by obtain ⟨rfl, hi⟩ := hi; exact wp_exit (by show (if id = id then Q .normal _ _ else Q (.exit id) _ _); rw [if_pos rfl]; exact hfin D W hD (.inr ⟨pre, hp, hi⟩) hK))
end Go.Proofs.YtpklkhgnjbopnaaGreatDoor
namespace Go.Proofs.YtpklkhgnjbopnaaGreatDoor
open Go Go.RowKit Go.Extern.Stop Go.Stop Go.Extern
theorem isTypeOf (v : Value) (w : World) : (Extern.ReflectliteType.typeOf #[.iface 532 v]).run Tryz.prog w = .ok (.iface 283 (.agg #[.pointer (some ⟨6, 532, none⟩)])) w := by kernel_rfl
def cmpM : Array Value → Sem Value := Extern.ReflectliteType.method fun t => do Extern.Rtype.noPackHeld "Comparable" t; pure (.bool (← typeInfo t).comparable)
theorem isComparable (w : World) : (cmpM #[.agg #[.pointer (some ⟨6, 532, none⟩)]]).run Tryz.prog w = .ok (.bool true) w := by kernel_rfl
theorem isMethodComparable (v : Value) (w : World) : (Go.method 742 283 v "Comparable").run Tryz.prog w = .ok (357, v) w := by kernel_rfl
theorem isComp : (Tryz.prog.info? 532).map (·.comparable) = some true := by kernel_rfl
theorem isSize : (Tryz.prog.info? 630).map (·.size) = some 1 := by kernel_rfl
theorem noIsE (v : Value) (xT : TypeId) (w : World) : (Instr.typeAssert (.iface 532 v) xT 381 true).run Tryz.prog w = .ok (.tuple #[.nilIface, .bool false]) w := run_typeAssert_lacksB Tryz.underlying381 (by kernel_rfl) (by kernel_rfl) v xT w
theorem noUnwrapE (v : Value) (xT : TypeId) (w : World) : (Instr.typeAssert (.iface 532 v) xT 291 true).run Tryz.prog w = .ok (.tuple #[.nilIface, .bool false]) w := run_typeAssert_lacksB Tryz.underlying291 (by kernel_rfl) (by kernel_rfl) v xT w
theorem noUnwrapsE (v : Value) (xT : TypeId) (w : World) : (Instr.typeAssert (.iface 532 v) xT 293 true).run Tryz.prog w = .ok (.tuple #[.nilIface, .bool false]) w := run_typeAssert_lacksB Tryz.underlying293 (by kernel_rfl) (by kernel_rfl) v xT w
set_option maxRecDepth 100000 in
set_option maxHeartbeats 2000000 in
theorem is_same (a : Addr) (w : World) :
  Calls Tryz.prog 144 #[.iface 532 (.pointer (some a)), .iface 532 (.pointer (some a))] w fun e w' => e = .returned (.bool true) ∧ w' = w := by
 obtain ⟨i, hi, hcmp⟩ := Option.map_eq_some_iff.1 isComp
 obtain ⟨j, hj, hjs⟩ := Option.map_eq_some_iff.1 isSize
 have h8 := @run_callFunc_extern Tryz.prog 145 _ Extern.ReflectliteType.typeOf Tryz.func145 (by kernel_rfl) (by kernel_rfl) (by kernel_rfl) (by kernel_rfl)
 have h32 := @run_callFunc_extern Tryz.prog 357 _ cmpM Tryz.func357 (by kernel_rfl) (by kernel_rfl) (by kernel_rfl) (by kernel_rfl)
 have tT := isTypeOf
 have cT := isComparable
 have mR := isMethodComparable
 have heq := run_eql_iface_ptr_same (P := Tryz.prog) w a Tryz.underlying88 Tryz.underlying532 hi hcmp hj
 go_enter Tryz.func144, Tryz.ntmps144
 go_wp2
 refine wp_loop_rounds 1 ?_
 rw [rounds_succ]
 go_wp2
 go_ret
 exact ⟨rfl, rfl⟩
set_option maxRecDepth 100000 in
set_option maxHeartbeats 2000000 in
theorem is_other (a b : Addr) (ca cb : Array Value) (ta tb : TypeId) (w : World) (hne : a ≠ b) (ha : w.heap[a.block]? = some (.cells ca ta (0, 0))) (hb : w.heap[b.block]? = some (.cells cb tb (0, 0))) :
  Calls Tryz.prog 144 #[.iface 532 (.pointer (some a)), .iface 532 (.pointer (some b))] w fun e w' => e = .returned (.bool false) ∧ w' = w := by
 obtain ⟨i, hi, hcmp⟩ := Option.map_eq_some_iff.1 isComp
 obtain ⟨j, hj, hjs⟩ := Option.map_eq_some_iff.1 isSize
 have h8 := @run_callFunc_extern Tryz.prog 145 _ Extern.ReflectliteType.typeOf Tryz.func145 (by kernel_rfl) (by kernel_rfl) (by kernel_rfl) (by kernel_rfl)
 have h32 := @run_callFunc_extern Tryz.prog 357 _ cmpM Tryz.func357 (by kernel_rfl) (by kernel_rfl) (by kernel_rfl) (by kernel_rfl)
 have tT := isTypeOf
 have cT := isComparable
 have mR := isMethodComparable
 have nE := noIsE
 have uE := noUnwrapE
 have vE := noUnwrapsE
 have heq := run_eql_iface_ptr_other (P := Tryz.prog) w Tryz.underlying88 Tryz.underlying532 hi hcmp hj (by rw [hjs]; decide) hne ha hb
 go_enter Tryz.func144, Tryz.ntmps144
 go_wp2
 refine wp_loop_rounds 1 ?_
 rw [rounds_succ]
 go_wp2
 go_ret
 exact ⟨rfl, rfl⟩
end Go.Proofs.YtpklkhgnjbopnaaGreatDoor
namespace Go.Proofs.YtpklkhgnjbopnaaGreatDoor
open Go Go.RowKit Go.Shelf
attribute [local go_sem] Oper.semAt_some
abbrev errV (a : Addr) : Value := .iface 532 (.pointer (some a))
structure GF (fm ff : Addr) (w : World) : Prop where
 efm : w.cell? ⟨1, 0, none⟩ = some (errV fm)
 eff : w.cell? ⟨2, 0, none⟩ = some (errV ff)
 nf : ff ≠ fm
 hfm : ∃ c t, w.heap[fm.block]? = some (.cells c t (0, 0))
 hff : ∃ c t, w.heap[ff.block]? = some (.cells c t (0, 0))
 lt : 6 ≤ w.heap.size
theorem GF.below {fm ff : Addr} {w w' : World} (h : GF fm ff w) (hb : Below w.heap.size w w') : GF fm ff w' := by
 have hl := h.lt
 obtain ⟨c1, t1, h1⟩ := h.hfm
 obtain ⟨c2, t2, h2⟩ := h.hff
 exact ⟨(hb.cell (p := ⟨1, 0, none⟩) (by show 1 < _; omega)).trans h.efm, (hb.cell (p := ⟨2, 0, none⟩) (by show 2 < _; omega)).trans h.eff, h.nf,
  ⟨c1, t1, known hb (Nat.le_refl _) h1⟩, ⟨c2, t2, known hb (Nat.le_refl _) h2⟩, Nat.le_trans hl hb.size⟩
set_option maxRecDepth 100000 in
set_option maxHeartbeats 1000000 in
theorem errno_more (fm ff : Addr) (w : World) (hE : GF fm ff w) :
  Calls Tryz.prog 113 #[errV fm] w fun e w' => e = .returned (.int .i64 20) ∧ Below w.heap.size w w' := by
 have c0 := hE.efm
 have hI := is_same fm w
 clear hE
 go_enter Tryz.func113, Tryz.ntmps113
 go_wp2_with (go_at_call 144; refine hI.mono ?_; rintro e w' ⟨rfl, rfl⟩)
 go_ret
 exact ⟨rfl, Below.refl _ _⟩
set_option maxRecDepth 100000 in
set_option maxHeartbeats 1000000 in
theorem errno_field (fm ff : Addr) (w : World) (hE : GF fm ff w) :
  Calls Tryz.prog 113 #[errV ff] w fun e w' => e = .returned (.int .i64 21) ∧ Below w.heap.size w w' := by
 have c0 := hE.efm
 obtain ⟨c1, t1, h1⟩ := hE.hfm
 obtain ⟨c2, t2, h2⟩ := hE.hff
 have hI := is_other ff fm c2 c1 t2 t1 w hE.nf h2 h1
 clear hE h1 h2
 go_enter Tryz.func113, Tryz.ntmps113
 go_wp2_with (go_at_call 144; refine hI.mono ?_; rintro e w' ⟨rfl, rfl⟩)
 go_ret
 exact ⟨rfl, Below.refl _ _⟩
set_option maxRecDepth 100000 in
set_option maxHeartbeats 1000000 in
theorem behind_any (f : Nat) (w : World) (h1 : f < 256) :
  Calls Tryz.prog 142 #[.int .u8 f] w fun e w' => e = .returned (.int .i64 (behindN f)) ∧ w' = w := by
 by_cases c0 : f ≤ 240
 ·have hb : behindN f = 0 := by unfold behindN; rw [if_pos c0]
  rw [hb]
  go_enter Tryz.func142, Tryz.ntmps142
  go_wp2_with fail
  go_ret
  exact ⟨rfl, rfl⟩
 by_cases c1 : f ≤ 248
 ·have hb : behindN f = 1 := by unfold behindN; rw [if_neg c0, if_pos c1]
  rw [hb]
  go_enter Tryz.func142, Tryz.ntmps142
  go_wp2_with fail
  go_ret
  exact ⟨rfl, rfl⟩
 by_cases c2 : f = 249
 ·subst c2
  go_enter Tryz.func142, Tryz.ntmps142
  go_wp2_with fail
  go_ret
  exact ⟨rfl, rfl⟩
 ·have hb : behindN f = f - 247 := by unfold behindN; rw [if_neg c0, if_neg c1, if_neg c2]
  have e3 : ((f - 247 : Nat) : Int) = (f : Int) - 247 := by omega
  have hne : ((f : Int) == 249) = false := by simp; omega
  rw [hb, e3]
  clear hb e3 c2
  go_enter Tryz.func142, Tryz.ntmps142
  go_wp2_with fail
  go_ret
  exact ⟨rfl, rfl⟩
theorem octets_any (s : ByteArray) (w : World) :
  Calls Tryz.prog 143 #[.string s] w fun e w' => e = .returned (.func (.func 170) #[] #[.pointer (some ⟨w.heap.size, 0, none⟩)]) ∧ w' = w.alloc (.cells #[.string s] 9) := by
 go_enter Tryz.func143, Tryz.ntmps143
 go_wp2
 go_ret
 exact ⟨rfl, rfl⟩
set_option maxRecDepth 100000 in
set_option maxHeartbeats 1000000 in
theorem octets1 (l Bs : Nat) (s : ByteArray) (hreach : s.size < 4294967281) (J Jx : List (Nat × UInt8) → World → Prop)
  (hY : ∀ pre x W, J pre W → pre.length < (octs s).length → YieldAt Fence.wide 7 Tryz.prog l #[.int .i64 x.1, .int .u8 x.2.toNat] W fun e W' =>
   (e = .returned (.bool true) ∧ J (pre ++ [x]) W' ∧ KB Bs W W') ∨ (e = .returned (.bool false) ∧ Jx (pre ++ [x]) W'))
  (W : World) (hBs : W.heap[Bs]? = some (.cells #[.string s] 9 (0, 0))) (h0 : J [] W) :
  CallsIn Fence.wide 8 Tryz.prog 170 #[.func (.yield l) #[] #[], .pointer (some ⟨Bs, 0, none⟩)] W fun e W' => (∃ v, e = .returned v) ∧
   ((∃ ys, ys = octs s ∧ J ys W') ∨ (∃ pre, pre <+: octs s ∧ Jx pre W')) := by
 have hol := octs_len s
 refine callsIn_of_wp Tryz.func170 rfl trivial ?_ rfl
 simp only [Tryz.ntmps170, List.size_toArray, List.length_cons, List.length_nil, Nat.reduceAdd, Nat.reduceSub, Array.replicate_succ, Array.replicate_zero, List.push_toArray, List.append_toArray, List.nil_append, List.cons_append]
 have HO := Lib.hid hol
 have c9 : W.cell? ⟨Bs, 0, none⟩ = some (.string s) := cCc hBs 0
 clear hol
 gi_wp2
 gi_loopw [3, 6] (fun _ i wr => ∃ k : Nat, k ≤ s.size ∧ i = .int .i64 k ∧ J ((octs s).take k) wr ∧ KB Bs W wr) (fun _ i _ => s.size - (intOf i).toNat)
 case atStart => exact ⟨0, Nat.zero_le _, rfl, h0, KB.refl _ _⟩
 case round =>
  obtain ⟨k, hk, rfl, hJs, hnx⟩ := hrel
  by_cases hlt : k < s.size
  ·have hx := octs_at s k hlt
   obtain ⟨fn, tmps, assign, body, hy, hR⟩ := hY _ (k, s[k]'hlt) _ hJs (by rw [List.length_take, HO.out]; omega)
   have HX := Lib.hid hx
   have c0 : wr.cell? ⟨Bs, 0, none⟩ = some (.string s) := cCc (hnx _ hBs) 0
   clear hx
   gi_wp2
   refine hR.mono ?_
   rintro e W3 (⟨rfl, hJ3, hk3⟩ | ⟨rfl, hJx3⟩)
   ·gi_wp2
    go_roundw
    case rel => exact ⟨k + 1, by omega, by simp, by rw [take_snoc' HX.out]; exact hJ3, hnx.trans hk3⟩
    case measure => simp [intOf]; omega
   ·gi_wp2
    refine bodyPost_ret (results_none rfl _ _ _) rfl ?_
    exact ⟨⟨_, rfl⟩, .inr ⟨_, by have h := List.take_prefix (k + 1) (octs s); rwa [take_snoc' HX.out] at h, hJx3⟩⟩
  ·obtain rfl : k = s.size := by omega
   gi_wp2
   go_end0
   exact ⟨⟨_, rfl⟩, .inl ⟨_, List.take_of_length_le (by rw [HO.out]; omega), hJs⟩⟩
theorem octets_seq (Bs : Nat) (s : ByteArray) (hreach : s.size < 4294967281) (w : World) (hc : w.heap[Bs]? = some (.cells #[.string s] 9 (0, 0))) :
  SeqStopsK Fence.wide 8 Tryz.prog 170 #[.pointer (some ⟨Bs, 0, none⟩)] (fun x : Nat × UInt8 => #[.int .i64 x.1, .int .u8 x.2.toNat]) (KB Bs) (fun ys => ys = octs s) (fun pre => pre <+: octs s) (octs s).length w := fun l J Jx W hW _ _ hY h0 =>
 octets1 l Bs s hreach J Jx hY W (known hW (Nat.le_refl _) hc) h0
end Go.Proofs.YtpklkhgnjbopnaaGreatDoor
namespace Go.Proofs.YtpklkhgnjbopnaaGreatDoor
open Go Go.RowKit
def ckStep (p : Nat × Nat) (x : UInt8) : Nat × Nat := ((p.1 + x.toNat) % 65521, (p.2 + (p.1 + x.toNat) % 65521) % 65521)
def ckPair (l : List UInt8) : Nat × Nat := l.foldl ckStep (1, 0)
def checkN (l : List UInt8) : Nat := (ckPair l).2 * 65536 + (ckPair l).1
def fourB (n : Nat) : List UInt8 := [UInt8.ofNat (n / 16777216 % 256), UInt8.ofNat (n / 65536 % 256), UInt8.ofNat (n / 256 % 256), UInt8.ofNat (n % 256)]
def fourStep (n : Nat) (b : UInt8) : Nat := (n * 256 + b.toNat) % 4294967296
def fourN (l : List UInt8) : Nat := l.foldl fourStep 0
theorem ckPair_snoc (l : List UInt8) (x : UInt8) : ckPair (l ++ [x]) = ckStep (ckPair l) x := by unfold ckPair; rw [List.foldl_append]; rfl
theorem fourN_snoc (l : List UInt8) (x : UInt8) : fourN (l ++ [x]) = fourStep (fourN l) x := by unfold fourN; rw [List.foldl_append]; rfl
theorem ck_go (l : List UInt8) : ∀ p : Nat × Nat, p.1 < 65521 → p.2 < 65521 → (l.foldl ckStep p).1 < 65521 ∧ (l.foldl ckStep p).2 < 65521 := by
 induction l with
 | nil => intro p h1 h2; exact ⟨h1, h2⟩
 | cons x l ih => intro p h1 h2; exact ih (ckStep p x) (Nat.mod_lt _ (by decide)) (Nat.mod_lt _ (by decide))
theorem ckPair_lt (l : List UInt8) : (ckPair l).1 < 65521 ∧ (ckPair l).2 < 65521 := ck_go l _ (by decide) (by decide)
theorem checkN_lt (l : List UInt8) : checkN l < 4294967296 := by
 have := ckPair_lt l
 unfold checkN
 omega
theorem u8_of (n : Nat) : (UInt8.ofNat (n % 256)).toNat = n % 256 := by simp
theorem fourN_B (n : Nat) (h : n < 4294967296) : fourN (fourB n) = n := by
 unfold fourN fourB fourStep
 simp only [List.foldl_cons, List.foldl_nil, u8_of]
 omega
inductive FrR where
 | got (body rest : List UInt8)
 | err (no : Int)
def rdF : List UInt8 → FrR
 | [] => .err 20
 | m :: t => if m ≠ 167 then .err 30 else match getN t with
  | .more => .err 20
  | .bad => .err 30
  | .got n r => if n = 0 ∨ 2000 < n then .err 30 else if (r.length : Int) < n + 4 then .err 20 else
    if checkN (r.take n.toNat) ≠ fourN ((r.drop n.toNat).take 4) then .err 31 else .got (r.take n.toNat) (r.drop (n.toNat + 4))
def mkF (l : List UInt8) : List UInt8 := 167 :: (numsB [(l.length : Int)] ++ (l ++ fourB (checkN l)))
theorem fourB_len (n : Nat) : (fourB n).length = 4 := rfl
theorem rdF_mk {l : List UInt8} (h1 : l ≠ []) (h2 : l.length ≤ 2000) (r : List UInt8) : rdF (mkF l ++ r) = .got l r := by
 have h0 : 0 < l.length := List.length_pos_iff.2 h1
 unfold mkF
 rw [List.cons_append, List.append_assoc, List.append_assoc]
 unfold rdF
 dsimp only
 rw [if_neg (by decide), getN_put _ (by unfold U64; omega)]
 dsimp only
 have e1 : (l ++ (fourB (checkN l) ++ r)).length = l.length + 4 + r.length := by rw [List.length_append, List.length_append, fourB_len]; omega
 rw [if_neg (by omega), if_neg (by rw [e1]; omega), Int.toNat_natCast, List.take_left, List.drop_left]
 have e2 : (fourB (checkN l) ++ r).take 4 = fourB (checkN l) := List.take_left (l₁ := fourB (checkN l))
 have e3 : (l ++ (fourB (checkN l) ++ r)).drop (l.length + 4) = r := by
  rw [← List.append_assoc]
  have : l.length + 4 = (l ++ fourB (checkN l)).length := by rw [List.length_append, fourB_len]
  rw [this, List.drop_left]
 rw [e2, e3, fourN_B _ (checkN_lt l), if_neg (by simp)]
def askB (q : Rq) : List UInt8 := 2 :: q.B
inductive Msg where
 | hello (now : Int) (tok : ByteArray)
 | ask (q : Rq)
 | noise
def rdHel (l : List UInt8) : (Int × ByteArray) × Rd :=
 let a := rNum (some l)
 let b := rText a.2
 ((a.1, b.1), b.2)
def msgOf : List UInt8 → Msg
 | [] => .noise
 | m :: t => if m = 1 then (if (rdHel t).2 = some [] then .hello (rdHel t).1.1 (rdHel t).1.2 else .noise) else if m = 2 then (match getRq t with
  | some q => .ask q
  | none => .noise) else .noise
theorem msgOf_ask {q : Rq} (h : q.ok = true) (hw : q.Wf) : msgOf (askB q) = .ask q := by
 unfold askB msgOf
 dsimp only
 rw [if_neg (by decide), if_pos rfl, getRq_put h hw]
theorem numsB_one_len (n : Int) : 1 ≤ (numsB [n]).length ∧ (numsB [n]).length ≤ 9 := by have := numsB_len [n]; simpa using this
theorem textB_len (s : ByteArray) : (textB s).length ≤ s.size + 9 := by
 unfold textB
 have := (numsB_one_len (s.size : Int)).2
 have h : s.data.toList.length = s.size := by rw [Array.length_toList]; rfl
 rw [List.length_append, h]
 omega
end Go.Proofs.YtpklkhgnjbopnaaGreatDoor

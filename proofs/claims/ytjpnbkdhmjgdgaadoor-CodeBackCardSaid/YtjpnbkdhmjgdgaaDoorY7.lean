/- Numbers read from bytes: plain words, of no program. -/
import Derived.Test.YtjpnbkdhmjgdgaaDoorY6
import Derived.Test.YtjpnbkdhmjgdgaaDoorY3
namespace Go.Proofs.YtjpnbkdhmjgdgaaDoor
open Go Go.RowKit

inductive NumR where
  | got (n : Int) (r : List UInt8)
  | more
  | bad
def behindN (f : Nat) : Nat := if f ≤ 240 then 0 else if f ≤ 248 then 1 else if f = 249 then 2 else f - 247
def beGo : Int → List UInt8 → Int
  | n, [] => n
  | n, b :: r => beGo (n * 256 + b.toNat) r
def rawN (f : Nat) (t : List UInt8) : Int := if f ≤ 240 then f else if f ≤ 248 then beGo 0 t + (240 + 256 * ((f : Int) - 241)) else if f = 249 then beGo 0 t + 2288 else beGo 0 t
def getN : List UInt8 → NumR
  | [] => .more
  | f :: t => if t.length < behindN f.toNat then .more else
      if (putNums (rawN f.toNat (t.take (behindN f.toNat)))).length = 1 + behindN f.toNat then .got (rawN f.toNat (t.take (behindN f.toNat))) (t.drop (behindN f.toNat)) else .bad
theorem numsB_one (n : Int) : numsB [n] = (putNums n).map (fun k => UInt8.ofNat k.toNat) := by simp [numsB]
theorem u8_nat (n : Nat) (h : n < 256) : (UInt8.ofNat n).toNat = n := by simp; omega
theorem putNums_0 {n : Int} (h : n ≤ 240) : putNums n = [n] := by
  unfold putNums
  rw [if_pos (by omega)]
theorem putNums_1 {n : Int} (h : 240 < n ∧ n ≤ 2287) : putNums n = [241 + (n - 240) / 256, (n - 240) % 256] := by
  unfold putNums
  rw [if_neg (by omega), if_pos (by omega)]
theorem putNums_2 {n : Int} (h : 2287 < n ∧ n ≤ 67823) : putNums n = [249, (n - 2288) / 256, (n - 2288) % 256] := by
  unfold putNums
  rw [if_neg (by omega), if_neg (by omega), if_pos (by omega)]
theorem putNums_3 {n : Int} (h : 67823 < n ∧ n ≤ 16777215) : putNums n = [250, n / 65536, n / 256 % 256, n % 256] := by
  unfold putNums
  rw [if_neg (by omega), if_neg (by omega), if_neg (by omega), if_pos (by omega)]
theorem putNums_4 {n : Int} (h : 16777215 < n ∧ n ≤ 4294967295) : putNums n = [251, n / 16777216, n / 65536 % 256, n / 256 % 256, n % 256] := by
  unfold putNums
  rw [if_neg (by omega), if_neg (by omega), if_neg (by omega), if_neg (by omega), if_pos (by omega)]
theorem putNums_5 {n : Int} (h : 4294967295 < n ∧ n ≤ 1099511627775) : putNums n = [252, n / 4294967296, n / 16777216 % 256, n / 65536 % 256, n / 256 % 256, n % 256] := by
  unfold putNums
  rw [if_neg (by omega), if_neg (by omega), if_neg (by omega), if_neg (by omega), if_neg (by omega), if_pos (by omega)]
theorem putNums_6 {n : Int} (h : 1099511627775 < n ∧ n ≤ 281474976710655) : putNums n = [253, n / 1099511627776, n / 4294967296 % 256, n / 16777216 % 256, n / 65536 % 256, n / 256 % 256, n % 256] := by
  unfold putNums
  rw [if_neg (by omega), if_neg (by omega), if_neg (by omega), if_neg (by omega), if_neg (by omega), if_neg (by omega), if_pos (by omega)]
theorem putNums_7 {n : Int} (h : 281474976710655 < n ∧ n ≤ 72057594037927935) : putNums n = [254, n / 281474976710656, n / 1099511627776 % 256, n / 4294967296 % 256, n / 16777216 % 256, n / 65536 % 256, n / 256 % 256, n % 256] := by
  unfold putNums
  rw [if_neg (by omega), if_neg (by omega), if_neg (by omega), if_neg (by omega), if_neg (by omega), if_neg (by omega), if_neg (by omega), if_pos (by omega)]
theorem putNums_8 {n : Int} (h : 72057594037927935 < n) : putNums n = [255, n / 72057594037927936, n / 281474976710656 % 256, n / 1099511627776 % 256, n / 4294967296 % 256, n / 16777216 % 256, n / 65536 % 256, n / 256 % 256, n % 256] := by
  unfold putNums
  rw [if_neg (by omega), if_neg (by omega), if_neg (by omega), if_neg (by omega), if_neg (by omega), if_neg (by omega), if_neg (by omega), if_neg (by omega)]
theorem getN_cons (f : UInt8) (t r : List UInt8) (fn k : Nat) (n : Int) (hf : f.toNat = fn) (hk : behindN fn = k) (ht : t.length = k) (hn : rawN fn t = n) (hp : (putNums n).length = 1 + k) : getN (f :: (t ++ r)) = .got n r := by
  subst ht
  simp only [getN, hf, hk, List.length_append, List.take_left, List.drop_left, hn, hp, if_true]
  rw [if_neg (by omega)]
theorem hu8 (m : Int) (h0 : 0 ≤ m) (h1 : m < 256) : ((UInt8.ofNat m.toNat).toNat : Int) = m := by
  rw [u8_nat m.toNat (by omega)]; omega
theorem hv8 (m : Int) : ((UInt8.ofNat (m % 256).toNat).toNat : Int) = m % 256 := hu8 _ (by omega) (by omega)
theorem beGo_one (n : Int) (b : UInt8) (l : List UInt8) : beGo n (b :: l) = beGo (n * 256 + b.toNat) l := rfl
theorem beGo_nil (n : Int) : beGo n [] = n := rfl
theorem getN_put (n : Int) (h : U64 n) (r : List UInt8) : getN (numsB [n] ++ r) = .got n r := by
  obtain ⟨h0, h1⟩ := h
  rw [numsB_one]
  have hu := fun (m : Int) (h0 : 0 ≤ m) (h1 : m < 256) => u8_nat m.toNat (by omega)
  by_cases c0 : n ≤ 240
  · have e := putNums_0 (n := n) (by omega)
    rw [e]
    exact getN_cons _ [] r n.toNat 0 n (hu n (by omega) (by omega)) (by unfold behindN; rw [if_pos (by omega)]) rfl (by unfold rawN; rw [if_pos (by omega)]; omega) (by rw [e]; rfl)
  by_cases c1 : n ≤ 2287
  · have e := putNums_1 (n := n) (by omega)
    rw [e]
    refine getN_cons _ [_] r (241 + (n - 240) / 256).toNat 1 n (hu _ (by omega) (by omega)) (by unfold behindN; rw [if_neg (by omega), if_pos (by omega)]) rfl ?_ (by rw [e]; rfl)
    unfold rawN
    rw [if_neg (by omega), if_pos (by omega), beGo_one, beGo_nil, hv8]
    omega
  by_cases c2 : n ≤ 67823
  · have e := putNums_2 (n := n) (by omega)
    rw [e]
    refine getN_cons _ [_, _] r 249 2 n (hu 249 (by omega) (by omega)) (by decide) rfl ?_ (by rw [e]; rfl)
    unfold rawN
    rw [if_neg (by omega), if_neg (by omega), if_pos rfl, beGo_one, beGo_one, beGo_nil, hv8, hu8 _ (by omega) (by omega)]
    omega
  by_cases c3 : n ≤ 16777215
  · have e := putNums_3 (n := n) (by omega)
    rw [e]
    refine getN_cons _ [_, _, _] r 250 3 n (hu 250 (by omega) (by omega)) (by decide) rfl ?_ (by rw [e]; rfl)
    unfold rawN
    rw [if_neg (by omega), if_neg (by omega), if_neg (by omega), beGo_one, beGo_one, beGo_one, beGo_nil, hu8 (n / 65536) (by omega) (by omega), hv8 (n / 256), hv8 n, Int.zero_mul, Int.zero_add, show n / 65536 * 256 + n / 256 % 256 = n / 256 by omega, show n / 256 * 256 + n % 256 = n by omega]
  by_cases c4 : n ≤ 4294967295
  · have e := putNums_4 (n := n) (by omega)
    rw [e]
    refine getN_cons _ [_, _, _, _] r 251 4 n (hu 251 (by omega) (by omega)) (by decide) rfl ?_ (by rw [e]; rfl)
    unfold rawN
    rw [if_neg (by omega), if_neg (by omega), if_neg (by omega), beGo_one, beGo_one, beGo_one, beGo_one, beGo_nil, hu8 (n / 16777216) (by omega) (by omega), hv8 (n / 65536), hv8 (n / 256), hv8 n, Int.zero_mul, Int.zero_add, show n / 16777216 * 256 + n / 65536 % 256 = n / 65536 by omega, show n / 65536 * 256 + n / 256 % 256 = n / 256 by omega, show n / 256 * 256 + n % 256 = n by omega]
  by_cases c5 : n ≤ 1099511627775
  · have e := putNums_5 (n := n) (by omega)
    rw [e]
    refine getN_cons _ [_, _, _, _, _] r 252 5 n (hu 252 (by omega) (by omega)) (by decide) rfl ?_ (by rw [e]; rfl)
    unfold rawN
    rw [if_neg (by omega), if_neg (by omega), if_neg (by omega), beGo_one, beGo_one, beGo_one, beGo_one, beGo_one, beGo_nil, hu8 (n / 4294967296) (by omega) (by omega), hv8 (n / 16777216), hv8 (n / 65536), hv8 (n / 256), hv8 n, Int.zero_mul, Int.zero_add, show n / 4294967296 * 256 + n / 16777216 % 256 = n / 16777216 by omega, show n / 16777216 * 256 + n / 65536 % 256 = n / 65536 by omega, show n / 65536 * 256 + n / 256 % 256 = n / 256 by omega, show n / 256 * 256 + n % 256 = n by omega]
  by_cases c6 : n ≤ 281474976710655
  · have e := putNums_6 (n := n) (by omega)
    rw [e]
    refine getN_cons _ [_, _, _, _, _, _] r 253 6 n (hu 253 (by omega) (by omega)) (by decide) rfl ?_ (by rw [e]; rfl)
    unfold rawN
    rw [if_neg (by omega), if_neg (by omega), if_neg (by omega), beGo_one, beGo_one, beGo_one, beGo_one, beGo_one, beGo_one, beGo_nil, hu8 (n / 1099511627776) (by omega) (by omega), hv8 (n / 4294967296), hv8 (n / 16777216), hv8 (n / 65536), hv8 (n / 256), hv8 n, Int.zero_mul, Int.zero_add, show n / 1099511627776 * 256 + n / 4294967296 % 256 = n / 4294967296 by omega, show n / 4294967296 * 256 + n / 16777216 % 256 = n / 16777216 by omega, show n / 16777216 * 256 + n / 65536 % 256 = n / 65536 by omega, show n / 65536 * 256 + n / 256 % 256 = n / 256 by omega, show n / 256 * 256 + n % 256 = n by omega]
  by_cases c7 : n ≤ 72057594037927935
  · have e := putNums_7 (n := n) (by omega)
    rw [e]
    refine getN_cons _ [_, _, _, _, _, _, _] r 254 7 n (hu 254 (by omega) (by omega)) (by decide) rfl ?_ (by rw [e]; rfl)
    unfold rawN
    rw [if_neg (by omega), if_neg (by omega), if_neg (by omega), beGo_one, beGo_one, beGo_one, beGo_one, beGo_one, beGo_one, beGo_one, beGo_nil, hu8 (n / 281474976710656) (by omega) (by omega), hv8 (n / 1099511627776), hv8 (n / 4294967296), hv8 (n / 16777216), hv8 (n / 65536), hv8 (n / 256), hv8 n, Int.zero_mul, Int.zero_add, show n / 281474976710656 * 256 + n / 1099511627776 % 256 = n / 1099511627776 by omega, show n / 1099511627776 * 256 + n / 4294967296 % 256 = n / 4294967296 by omega, show n / 4294967296 * 256 + n / 16777216 % 256 = n / 16777216 by omega, show n / 16777216 * 256 + n / 65536 % 256 = n / 65536 by omega, show n / 65536 * 256 + n / 256 % 256 = n / 256 by omega, show n / 256 * 256 + n % 256 = n by omega]
  have e := putNums_8 (n := n) (by omega)
  rw [e]
  refine getN_cons _ [_, _, _, _, _, _, _, _] r 255 8 n (hu 255 (by omega) (by omega)) (by decide) rfl ?_ (by rw [e]; rfl)
  unfold rawN
  rw [if_neg (by omega), if_neg (by omega), if_neg (by omega), beGo_one, beGo_one, beGo_one, beGo_one, beGo_one, beGo_one, beGo_one, beGo_one, beGo_nil, hu8 (n / 72057594037927936) (by omega) (by omega), hv8 (n / 281474976710656), hv8 (n / 1099511627776), hv8 (n / 4294967296), hv8 (n / 16777216), hv8 (n / 65536), hv8 (n / 256), hv8 n, Int.zero_mul, Int.zero_add, show n / 72057594037927936 * 256 + n / 281474976710656 % 256 = n / 281474976710656 by omega, show n / 281474976710656 * 256 + n / 1099511627776 % 256 = n / 1099511627776 by omega, show n / 1099511627776 * 256 + n / 4294967296 % 256 = n / 4294967296 by omega, show n / 4294967296 * 256 + n / 16777216 % 256 = n / 16777216 by omega, show n / 16777216 * 256 + n / 65536 % 256 = n / 65536 by omega, show n / 65536 * 256 + n / 256 % 256 = n / 256 by omega, show n / 256 * 256 + n % 256 = n by omega]

/-! ### back -/
theorem beGo_le : ∀ (l : List UInt8) (n : Int), 0 ≤ n → 0 ≤ beGo n l ∧ beGo n l < (n + 1) * 256 ^ l.length
  | [], n, h => by simp only [beGo, List.length_nil]; omega
  | b :: r, n, h => by
    have hb := UInt8.toNat_lt b
    obtain ⟨h1, h2⟩ := beGo_le r (n * 256 + b.toNat) (by omega)
    refine ⟨h1, Int.lt_of_lt_of_le h2 ?_⟩
    rw [List.length_cons, Int.pow_succ, Int.mul_comm (256 ^ r.length), ← Int.mul_assoc]
    have h3 : (0 : Int) ≤ 256 ^ r.length := Int.pow_nonneg (by omega)
    exact Int.mul_le_mul_of_nonneg_right (by omega) h3
set_option maxRecDepth 100000 in
theorem rawN_u64 (f : UInt8) (t : List UInt8) (ht : t.length = behindN f.toNat) : U64 (rawN f.toNat t) := by
  have hf := UInt8.toNat_lt f
  obtain ⟨h1, h2⟩ := beGo_le t 0 (by omega)
  rw [ht] at h2
  unfold rawN
  unfold behindN at h2
  split
  · unfold U64; omega
  split
  · rename_i h3 h4
    rw [if_neg h3, if_pos h4] at h2
    unfold U64; omega
  split
  · rename_i h3 h4 h5
    rw [if_neg h3, if_neg h4, if_pos h5] at h2
    unfold U64; omega
  · rename_i h3 h4 h5
    rw [if_neg h3, if_neg h4, if_neg h5] at h2
    have h6 : (256 : Int) ^ (f.toNat - 247) ≤ 256 ^ 8 := by
      have : (256 : Nat) ^ (f.toNat - 247) ≤ 256 ^ 8 := Nat.pow_le_pow_right (by omega) (by omega)
      exact_mod_cast this
    unfold U64; omega
theorem getN_got {l : List UInt8} {n : Int} {r : List UInt8} (h : getN l = .got n r) : U64 n ∧ r.length < l.length := by
  cases l with
  | nil => cases h
  | cons f t =>
    rw [getN] at h
    split at h
    · cases h
    rename_i h1
    split at h
    · injection h with h2 h3
      subst h2; subst h3
      refine ⟨rawN_u64 f _ (by rw [List.length_take]; omega), by rw [List.length_drop, List.length_cons]; omega⟩
    · cases h
theorem ofNat_of {b : UInt8} {n : Int} (h : n = b.toNat) : UInt8.ofNat n.toNat = b := by
  subst h; simp
theorem putNums_size (n : Int) : ((putNums n).length = 1 → n ≤ 240) ∧ ((putNums n).length = 2 → 240 < n ∧ n ≤ 2287) ∧ ((putNums n).length = 3 → 2287 < n ∧ n ≤ 67823) ∧ ((putNums n).length = 4 → 67823 < n ∧ n ≤ 16777215) ∧ ((putNums n).length = 5 → 16777215 < n ∧ n ≤ 4294967295) ∧
    ((putNums n).length = 6 → 4294967295 < n ∧ n ≤ 1099511627775) ∧ ((putNums n).length = 7 → 1099511627775 < n ∧ n ≤ 281474976710655) ∧ ((putNums n).length = 8 → 281474976710655 < n ∧ n ≤ 72057594037927935) ∧ ((putNums n).length = 9 → 72057594037927935 < n) := by
  unfold putNums
  repeat' split
  all_goals simp only [List.length_cons, List.length_nil]; omega
set_option maxHeartbeats 4000000 in
theorem getN_inv {l : List UInt8} {n : Int} {r : List UInt8} (h : getN l = .got n r) : l = numsB [n] ++ r := by
  cases l with
  | nil => cases h
  | cons f t =>
    rw [getN] at h
    split at h
    · cases h
    rename_i h1
    split at h
    case isFalse => cases h
    rename_i h2
    injection h with h3 h4
    obtain ⟨ts, hts⟩ : ∃ ts, t.take (behindN f.toNat) = ts := ⟨_, rfl⟩
    have htl : ts.length = behindN f.toNat := by rw [← hts, List.length_take]; omega
    have htt : t = ts ++ r := by rw [← h4, ← hts, List.take_append_drop]
    rw [hts] at h2 h3
    have hu := rawN_u64 f ts htl
    rw [h3] at h2 hu
    have hs := putNums_size n
    obtain ⟨s1, s2, s3, s4, s5, s6, s7, s8, s9⟩ := hs
    obtain ⟨hu0, hu1⟩ := hu
    have hf := UInt8.toNat_lt f
    rw [htt, numsB_one, ← List.cons_append]
    congr 1
    clear h4 htt hts h1
    by_cases c0 : f.toNat ≤ 240
    · have hb : behindN f.toNat = 0 := by unfold behindN; rw [if_pos c0]
      rw [hb] at htl h2
      obtain rfl : ts = [] := List.eq_nil_of_length_eq_zero htl
      unfold rawN at h3
      rw [if_pos c0] at h3
      have s := s1 h2
      rw [putNums_0 s]
      simp only [List.map_cons, List.map_nil]
      rw [ofNat_of (b := f) (by omega)]
    by_cases c1 : f.toNat ≤ 248
    · have hb : behindN f.toNat = 1 := by unfold behindN; rw [if_neg c0, if_pos c1]
      rw [hb] at htl h2
      match ts, htl with
      | [b0], _ =>
        unfold rawN at h3
        rw [if_neg c0, if_pos c1] at h3
        simp only [beGo] at h3
        have q0 := UInt8.toNat_lt b0
        have s := s2 h2
        rw [putNums_1 s]
        simp only [List.map_cons, List.map_nil]
        rw [ofNat_of (b := f) (by omega), ofNat_of (b := b0) (by omega)]
    by_cases c2 : f.toNat = 249
    · have hb : behindN f.toNat = 2 := by unfold behindN; rw [if_neg c0, if_neg c1, if_pos c2]
      rw [hb] at htl h2
      match ts, htl with
      | [b0, b1], _ =>
        unfold rawN at h3
        rw [if_neg c0, if_neg c1, if_pos c2] at h3
        simp only [beGo] at h3
        have q0 := UInt8.toNat_lt b0
        have q1 := UInt8.toNat_lt b1
        have s := s3 h2
        rw [putNums_2 s]
        simp only [List.map_cons, List.map_nil]
        rw [ofNat_of (b := f) (by omega), ofNat_of (b := b0) (by omega), ofNat_of (b := b1) (by omega)]
    have hb : behindN f.toNat = f.toNat - 247 := by unfold behindN; rw [if_neg c0, if_neg c1, if_neg c2]
    rw [hb] at htl h2
    unfold rawN at h3
    rw [if_neg c0, if_neg c1, if_neg c2] at h3
    by_cases d3 : f.toNat = 250
    · rw [d3] at htl h2
      match ts, htl with
      | [b0, b1, b2], _ =>
        simp only [beGo] at h3
        have qb0 := UInt8.toNat_lt b0
        have qb1 := UInt8.toNat_lt b1
        have qb2 := UInt8.toNat_lt b2
        have s := s4 h2
        rw [putNums_3 s]
        simp only [List.map_cons, List.map_nil]
        rw [ofNat_of (b := f) (by omega), ofNat_of (b := b0) (by omega), ofNat_of (b := b1) (by omega), ofNat_of (b := b2) (by omega)]
    by_cases d4 : f.toNat = 251
    · rw [d4] at htl h2
      match ts, htl with
      | [b0, b1, b2, b3], _ =>
        simp only [beGo] at h3
        have qb0 := UInt8.toNat_lt b0
        have qb1 := UInt8.toNat_lt b1
        have qb2 := UInt8.toNat_lt b2
        have qb3 := UInt8.toNat_lt b3
        have s := s5 h2
        rw [putNums_4 s]
        simp only [List.map_cons, List.map_nil]
        rw [ofNat_of (b := f) (by omega), ofNat_of (b := b0) (by omega), ofNat_of (b := b1) (by omega), ofNat_of (b := b2) (by omega), ofNat_of (b := b3) (by omega)]
    by_cases d5 : f.toNat = 252
    · rw [d5] at htl h2
      match ts, htl with
      | [b0, b1, b2, b3, b4], _ =>
        simp only [beGo] at h3
        have qb0 := UInt8.toNat_lt b0
        have qb1 := UInt8.toNat_lt b1
        have qb2 := UInt8.toNat_lt b2
        have qb3 := UInt8.toNat_lt b3
        have qb4 := UInt8.toNat_lt b4
        have s := s6 h2
        rw [putNums_5 s]
        simp only [List.map_cons, List.map_nil]
        rw [ofNat_of (b := f) (by omega), ofNat_of (b := b0) (by omega), ofNat_of (b := b1) (by omega), ofNat_of (b := b2) (by omega), ofNat_of (b := b3) (by omega), ofNat_of (b := b4) (by omega)]
    by_cases d6 : f.toNat = 253
    · rw [d6] at htl h2
      match ts, htl with
      | [b0, b1, b2, b3, b4, b5], _ =>
        simp only [beGo] at h3
        have qb0 := UInt8.toNat_lt b0
        have qb1 := UInt8.toNat_lt b1
        have qb2 := UInt8.toNat_lt b2
        have qb3 := UInt8.toNat_lt b3
        have qb4 := UInt8.toNat_lt b4
        have qb5 := UInt8.toNat_lt b5
        have s := s7 h2
        rw [putNums_6 s]
        simp only [List.map_cons, List.map_nil]
        rw [ofNat_of (b := f) (by omega), ofNat_of (b := b0) (by omega), ofNat_of (b := b1) (by omega), ofNat_of (b := b2) (by omega), ofNat_of (b := b3) (by omega), ofNat_of (b := b4) (by omega), ofNat_of (b := b5) (by omega)]
    by_cases d7 : f.toNat = 254
    · rw [d7] at htl h2
      match ts, htl with
      | [b0, b1, b2, b3, b4, b5, b6], _ =>
        simp only [beGo] at h3
        have qb0 := UInt8.toNat_lt b0
        have qb1 := UInt8.toNat_lt b1
        have qb2 := UInt8.toNat_lt b2
        have qb3 := UInt8.toNat_lt b3
        have qb4 := UInt8.toNat_lt b4
        have qb5 := UInt8.toNat_lt b5
        have qb6 := UInt8.toNat_lt b6
        have s := s8 h2
        rw [putNums_7 s]
        simp only [List.map_cons, List.map_nil]
        rw [ofNat_of (b := f) (by omega), ofNat_of (b := b0) (by omega), ofNat_of (b := b1) (by omega), ofNat_of (b := b2) (by omega), ofNat_of (b := b3) (by omega), ofNat_of (b := b4) (by omega), ofNat_of (b := b5) (by omega), ofNat_of (b := b6) (by omega)]
    have d8 : f.toNat = 255 := by omega
    rw [d8] at htl h2
    match ts, htl with
    | [b0, b1, b2, b3, b4, b5, b6, b7], _ =>
      simp only [beGo] at h3
      have qb0 := UInt8.toNat_lt b0
      have qb1 := UInt8.toNat_lt b1
      have qb2 := UInt8.toNat_lt b2
      have qb3 := UInt8.toNat_lt b3
      have qb4 := UInt8.toNat_lt b4
      have qb5 := UInt8.toNat_lt b5
      have qb6 := UInt8.toNat_lt b6
      have qb7 := UInt8.toNat_lt b7
      have s := s9 h2
      rw [putNums_8 s]
      simp only [List.map_cons, List.map_nil]
      rw [ofNat_of (b := f) (by omega), ofNat_of (b := b0) (by omega), ofNat_of (b := b1) (by omega), ofNat_of (b := b2) (by omega), ofNat_of (b := b3) (by omega), ofNat_of (b := b4) (by omega), ofNat_of (b := b5) (by omega), ofNat_of (b := b6) (by omega), ofNat_of (b := b7) (by omega)]
end Go.Proofs.YtjpnbkdhmjgdgaaDoor

/- Package code: writer.exact, bins. -/
import Derived.Test.YtjpnbkdhmjgdgaaDoorY3
namespace Go.Proofs.YtjpnbkdhmjgdgaaDoor
open Go Go.RowKit

def Rise : Int → List Int → Prop
  | _, [] => True
  | p, n :: r => p ≤ n ∧ Rise n r
def diffs : Int → List Int → List Int
  | _, [] => []
  | p, n :: r => (n - p) :: diffs n r
theorem diffs_len : ∀ (l : List Int) (p : Int), (diffs p l).length = l.length
  | [], _ => rfl
  | n :: r, p => by simp only [diffs, List.length_cons, diffs_len r]
theorem drop_cons'' {α : Type} {l : List α} {k : Nat} {x : α} (h : l[k]? = some x) : l.drop k = x :: l.drop (k + 1) := by
  obtain ⟨hk, rfl⟩ := List.getElem?_eq_some_iff.1 h
  exact List.drop_eq_getElem_cons hk
theorem Wr.lt {B b : Nat} {bs : List UInt8} {w : World} (h : Wr B b bs w) : b < w.heap.size ∧ B ≤ b := by
  rcases h with ⟨h1, v, h2, h3, h4⟩ | ⟨h1, v, h2, h3, h4⟩
  · exact ⟨(Array.getElem?_eq_some_iff.1 h2).1, h1⟩
  · exact ⟨(Array.getElem?_eq_some_iff.1 h2).1, h1⟩
theorem WK.block {B b k : Nat} {w w' : World} {c : Array Value} {t : TypeId} {fz : Nat × Nat} (h : WK B b w w') (hk : w.heap[k]? = some (.cells c t fz)) (hb : k ≠ b) (ht : t ≠ 5) : w'.heap[k]? = some (.cells c t fz) :=
  h.2 k _ hk (fun e => hb (Option.some.inj e)) (fun c' fz' e => by injection e with e1 e2; exact ht e2)
theorem sl_one {B b k : Nat} {W : World} {x : Int} (hX : W.heap[k]? = some (.cells #[.int .u64 x] 46 (0, 0))) (hb : k ≠ b) : ∀ w', WK B b W w' → SlE encU 1 w'.heap.size w' (some ⟨k, 0, none⟩) 1 [x] := fun w' h => by
  have hX' := h.block hX hb (by decide)
  refine ⟨rfl, fun j y hy => ?_⟩
  have hj : j = 0 := by have := (List.getElem?_eq_some_iff.1 hy).1; simp at this; exact this
  subst hj
  obtain rfl : x = y := by simpa using hy
  refine ⟨k, 0, rfl, (Array.getElem?_eq_some_iff.1 hX').1, fun i hi => ?_⟩
  obtain rfl : i = 0 := by omega
  rw [cell_of_cells hX']
  rfl
theorem sl_two {B b k : Nat} {W : World} {x y : Int} (hX : W.heap[k]? = some (.cells #[.int .u64 x, .int .u64 y] 46 (0, 0))) (hb : k ≠ b) : ∀ w', WK B b W w' → SlE encU 1 w'.heap.size w' (some ⟨k, 0, none⟩) 2 [x, y] := fun w' h => by
  have hX' := h.block hX hb (by decide)
  refine ⟨rfl, fun j z hz => ⟨k, 0, rfl, (Array.getElem?_eq_some_iff.1 hX').1, fun i hi => ?_⟩⟩
  obtain rfl : i = 0 := by omega
  have hj := (List.getElem?_eq_some_iff.1 hz).1
  simp only [List.length_cons, List.length_nil] at hj
  rw [cell_of_cells hX']
  rcases (show j = 0 ∨ j = 1 by omega) with rfl | rfl
  · obtain rfl : x = z := by simpa using hz
    rfl
  · obtain rfl : y = z := by simpa using hz
    rfl

set_option maxRecDepth 100000 in
set_option maxHeartbeats 4000000 in
theorem exact_any (B b : Nat) (bs : List UInt8) (l : List Int) (a : Option Addr) (len cap : Nat) (w : World) (h : Wr B b bs w) (hk : ∀ w', WK B b w w' → SlE encU 1 w'.heap.size w' a len l) (hu : U64s l) (hr : Rise 0 l) (hl : len ≤ 1000) (hlen : bs.length ≤ 100000) (hBw : B ≤ w.heap.size) :
    Calls Tryd.prog 20 #[.pointer (some ⟨b, 0, none⟩), .agg #[.slice a len cap]] w fun e w' => e = .returned (.tuple #[]) ∧ Wr B b (bs ++ numsB ((len : Int) :: diffs 0 l)) w' ∧ WK B b w w' := by
  have hll := (hk w (WK.refl _ _ _)).1
  obtain ⟨W0, hW0, hX0, hB0, hs0⟩ := boxes1 w #[.slice a len cap] 24
  have c0 : W0.cell? ⟨w.heap.size, 0, none⟩ = some (.slice a len cap) := cell_of_cells hX0 0
  have H0 : Hid (Wr B b bs W0) := h.go hB0
  have HK0 : Hid (WK B b w W0) := WK.of_below hB0 hBw
  obtain ⟨W1, hW1, hX1, hB1, hs1⟩ := boxes1 W0 #[.int .u64 (len : Int)] 46
  have hblt := h.lt.1
  have HN := Lib.hid (numbers_any B b bs [(len : Int)] (some ⟨W0.heap.size, 0, none⟩) 1 1 W1 (H0.out.go hB1) (sl_one hX1 (by omega)) (fun n hn => by rw [List.mem_singleton] at hn; subst hn; unfold U64; omega) (by omega) (by omega))
  have HX0 := Lib.hid (known hB1 (Nat.le_refl _) hX0)
  have HK1 : Hid (WK B b w W1) := HK0.out.trans (WK.of_below hB1 (by omega))
  have HK := Lib.hid hk
  have HU := Lib.hid hu
  have HR := Lib.hid hr
  have HLL := Lib.hid hll
  replace hs0 : w.heap.size < W0.heap.size := by omega
  clear h hk hu hr hX0 hX1 hs1 hll
  go_enter Tryd.func20, Tryd.ntmps20
  go_wp2_with fail
  refine HN.out.mono ?_
  rintro e w2 ⟨rfl, hW2, hk2⟩
  have HW2 := Lib.hid hW2
  have HK2 : Hid (WK B b w w2) := HK1.out.trans hk2
  have hX2 := hk2.block HX0.out (by omega) (by decide)
  have c2 : w2.cell? ⟨w.heap.size, 0, none⟩ = some (.slice a len cap) := cell_of_cells hX2 0
  clear hW1 hW0 hW2 c0 hX2 hk2
  go_wp2_with fail
  go_loopw [4, 17] (fun la i wr => ∃ (k : Nat) (last : Int) (cur : List UInt8), i = .int .i64 k ∧ la = .int .u64 last ∧ k ≤ len ∧ U64 last ∧ Hid (Wr B b cur wr) ∧ Hid (cur ++ numsB (diffs last (l.drop k)) = bs ++ numsB ((len : Int) :: diffs 0 l)) ∧ Hid (Rise last (l.drop k)) ∧ Hid (cur.length ≤ bs.length + 9 * (k + 1)) ∧ Hid (WK B b w wr)) (fun _ i _ => len - (intOf i).toNat)
  case atStart => exact ⟨0, 0, _, rfl, rfl, Nat.zero_le _, ⟨by omega, by omega⟩, HW2.out, by rw [Hid, List.drop_zero, List.append_assoc, ← numsB_append]; rfl, HR.out, by rw [Hid, List.length_append]; have := (numsB_len [(len : Int)]).2; simp at this; omega, HK2.out⟩
  case round =>
    obtain ⟨k, last, cur, rfl, rfl, hkl, hul, HW, HE, HRi, HLe, HC⟩ := hrel
    by_cases hlt : k < len
    · obtain ⟨n, hn⟩ : ∃ n, l[k]? = some n := ⟨_, List.getElem?_eq_getElem (by rw [← HLL.out]; exact hlt)⟩
      obtain ⟨b1, o1, rfl, hbb, hc⟩ := (HK.out wr HC.out).2 k n hn
      have c0 : wr.cell? ⟨b1, o1 + k * 1, none⟩ = some (.int .u64 n) := hc 0 (by omega)
      rw [Nat.mul_one] at c0
      have hun : U64 n := HU.out n (List.mem_of_getElem? hn)
      have hd : l.drop k = n :: l.drop (k + 1) := drop_cons'' hn
      have hRn := HRi.out
      rw [hd] at hRn
      obtain ⟨hle, hRn⟩ := hRn
      have HEn : Hid ((cur ++ numsB [n - last]) ++ numsB (diffs n (l.drop (k + 1))) = bs ++ numsB ((len : Int) :: diffs 0 l)) := by
        rw [Hid, ← HE.out, hd, List.append_assoc, ← numsB_append]; rfl
      have HRn := Lib.hid hRn
      obtain ⟨h0, h1⟩ := hun
      obtain ⟨h2, h3⟩ := hul
      have hblt := HW.out.lt
      obtain ⟨V, hV, hXV, hBV, hsV⟩ := boxes1 wr #[.int .u64 (n - last)] 46
      have HNu := Lib.hid (numbers_any B b cur [n - last] (some ⟨wr.heap.size, 0, none⟩) 1 1 V (HW.out.go hBV) (sl_one hXV (by omega)) (fun z hz => by rw [List.mem_singleton] at hz; subst hz; unfold U64; omega) (by have := HLe.out; omega) (by omega))
      have HKV : Hid (WK B b w V) := HC.out.trans (WK.of_below hBV (by omega))
      clear hc hn hd hRn hXV hsV hblt
      go_wp2_with fail
      refine HNu.out.mono ?_
      rintro e w4 ⟨rfl, hW4, hk4⟩
      have HW4 := Lib.hid hW4
      have HK4 := Lib.hid hk4
      clear hW4 hk4
      go_wp2_with fail
      go_roundw
      case rel => exact ⟨k + 1, n, _, by go_num, by go_num, by omega, ⟨h0, h1⟩, HW4.out, HEn.out, HRn.out, by rw [Hid, List.length_append]; have h7 := (numsB_len [n - last]).2; have h8 := HLe.out; simp at h7; omega, HKV.out.trans HK4.out⟩
      case measure => simp [intOf]; omega
    · obtain rfl : k = len := by omega
      have H9 : Hid (Wr B b (bs ++ numsB ((k : Int) :: diffs 0 l)) wr) := by
        have h1 := HE.out
        rw [List.drop_eq_nil_of_le (by rw [← HLL.out]; exact Nat.le_refl _), show numsB (diffs last []) = [] from rfl, List.append_nil] at h1
        rw [Hid, ← h1]
        exact HW.out
      go_wp2_with fail
      go_end0
      exact ⟨rfl, H9.out, HC.out⟩
def RiseB : Int → List (Int × Int) → Prop
  | _, [] => True
  | p, n :: r => p ≤ n.1 ∧ RiseB n.1 r
def diffsB : Int → List (Int × Int) → List Int
  | _, [] => []
  | p, n :: r => (n.1 - p) :: n.2 :: diffsB n.1 r
theorem diffsB_len : ∀ (l : List (Int × Int)) (p : Int), (diffsB p l).length = 2 * l.length
  | [], _ => rfl
  | n :: r, p => by simp only [diffsB, List.length_cons, diffsB_len r]; omega
set_option maxRecDepth 100000 in
set_option maxHeartbeats 4000000 in
theorem bins_any (B b : Nat) (bs : List UInt8) (l : List (Int × Int)) (gf : Int) (a : Option Addr) (len cap : Nat) (w : World) (h : Wr B b bs w) (hk : ∀ w', WK B b w w' → SlE encB 2 w'.heap.size w' a len l) (hu : ∀ z ∈ l, I64 z.1 ∧ U64 z.2) (hr : RiseB 0 l) (hl : len ≤ 1000) (hlen : bs.length ≤ 100000) (hBw : B ≤ w.heap.size) :
    Calls Tryd.prog 22 #[.pointer (some ⟨b, 0, none⟩), .agg #[.int .i64 gf, .slice a len cap]] w fun e w' => e = .returned (.tuple #[]) ∧ Wr B b (bs ++ numsB ((len : Int) :: diffsB 0 l)) w' ∧ WK B b w w' := by
  have hll := (hk w (WK.refl _ _ _)).1
  obtain ⟨W0, hW0, hX0, hB0, hs0⟩ := boxes1 w #[.int .i64 gf, .slice a len cap] 31
  have c0 : W0.cell? ⟨w.heap.size, 1, none⟩ = some (.slice a len cap) := cell_of_cells hX0 1
  have H0 : Hid (Wr B b bs W0) := h.go hB0
  have HK0 : Hid (WK B b w W0) := WK.of_below hB0 hBw
  obtain ⟨W1, hW1, hX1, hB1, hs1⟩ := boxes1 W0 #[.int .u64 (len : Int)] 46
  have hblt := h.lt.1
  have HN := Lib.hid (numbers_any B b bs [(len : Int)] (some ⟨W0.heap.size, 0, none⟩) 1 1 W1 (H0.out.go hB1) (sl_one hX1 (by omega)) (fun n hn => by rw [List.mem_singleton] at hn; subst hn; unfold U64; omega) (by omega) (by omega))
  have HX0 := Lib.hid (known hB1 (Nat.le_refl _) hX0)
  have HK1 : Hid (WK B b w W1) := HK0.out.trans (WK.of_below hB1 (by omega))
  have HK := Lib.hid hk
  have HU := Lib.hid hu
  have HR := Lib.hid hr
  have HLL := Lib.hid hll
  replace hs0 : w.heap.size < W0.heap.size := by omega
  clear h hk hu hr hX0 hX1 hs1 hll
  go_enter Tryd.func22, Tryd.ntmps22
  go_wp2_with fail
  refine HN.out.mono ?_
  rintro e w2 ⟨rfl, hW2, hk2⟩
  have HW2 := Lib.hid hW2
  have HK2 : Hid (WK B b w w2) := HK1.out.trans hk2
  have hX2 := hk2.block HX0.out (by omega) (by decide)
  have c2 : w2.cell? ⟨w.heap.size, 1, none⟩ = some (.slice a len cap) := cell_of_cells hX2 1
  clear hW1 hW0 hW2 c0 hX2 hk2
  go_wp2_with fail
  go_loopw [4, 17] (fun la i wr => ∃ (k : Nat) (last : Int) (cur : List UInt8), i = .int .i64 k ∧ la = .int .i64 last ∧ k ≤ len ∧ (0 ≤ last ∧ last ≤ 9223372036854775807) ∧ Hid (Wr B b cur wr) ∧ Hid (cur ++ numsB (diffsB last (l.drop k)) = bs ++ numsB ((len : Int) :: diffsB 0 l)) ∧ Hid (RiseB last (l.drop k)) ∧ Hid (cur.length ≤ bs.length + 18 * (k + 1)) ∧ Hid (WK B b w wr)) (fun _ i _ => len - (intOf i).toNat)
  case atStart => exact ⟨0, 0, _, rfl, rfl, Nat.zero_le _, ⟨by omega, by omega⟩, HW2.out, by rw [Hid, List.drop_zero, List.append_assoc, ← numsB_append]; rfl, HR.out, by rw [Hid, List.length_append]; have := (numsB_len [(len : Int)]).2; simp at this; omega, HK2.out⟩
  case round =>
    obtain ⟨k, last, cur, rfl, rfl, hkl, hul, HW, HE, HRi, HLe, HC⟩ := hrel
    by_cases hlt : k < len
    · obtain ⟨⟨n, m⟩, hn⟩ : ∃ n, l[k]? = some n := ⟨_, List.getElem?_eq_getElem (by rw [← HLL.out]; exact hlt)⟩
      obtain ⟨b1, o1, rfl, hbb, hc⟩ := (HK.out wr HC.out).2 k (n, m) hn
      have c0 : wr.cell? ⟨b1, o1 + k * 2, none⟩ = some (.int .i64 n) := hc 0 (by omega)
      have c1 : wr.cell? ⟨b1, o1 + k * 2 + 1, none⟩ = some (.int .u64 m) := hc 1 (by omega)
      obtain ⟨hun, hum⟩ := HU.out (n, m) (List.mem_of_getElem? hn)
      have hd : l.drop k = (n, m) :: l.drop (k + 1) := drop_cons'' hn
      obtain ⟨T, hTe, hXT, hBT, hsT⟩ := boxes1 wr #[.int .i64 n, .int .u64 m] 85
      have r0 : T.cell? ⟨wr.heap.size, 0, none⟩ = some (.int .i64 n) := cell_of_cells hXT 0
      have r1 : T.cell? ⟨wr.heap.size, 1, none⟩ = some (.int .u64 m) := cell_of_cells hXT 1
      have hRn := HRi.out
      rw [hd] at hRn
      obtain ⟨hle, hRn⟩ := hRn
      have HEn : Hid ((cur ++ numsB [n - last, m]) ++ numsB (diffsB n (l.drop (k + 1))) = bs ++ numsB ((len : Int) :: diffsB 0 l)) := by
        rw [Hid, ← HE.out, hd, List.append_assoc, ← numsB_append]; rfl
      have HRn := Lib.hid hRn
      obtain ⟨h0, h1⟩ := hun
      obtain ⟨m0, m1⟩ := hum
      dsimp only at h0 h1 m0 m1 hle
      obtain ⟨h2, h3⟩ := hul
      have hblt := HW.out.lt
      obtain ⟨V, hV, hXV, hBV, hsV⟩ := boxes1 T #[.int .u64 (n - last), .int .u64 m] 46
      have HNu := Lib.hid (numbers_any B b cur [n - last, m] (some ⟨T.heap.size, 0, none⟩) 2 2 V ((HW.out.go hBT).go hBV) (sl_two hXV (by omega)) (fun z hz => by simp only [List.mem_cons, List.not_mem_nil, or_false] at hz; rcases hz with rfl | rfl <;> (unfold U64; omega)) (by have := HLe.out; omega) (by omega))
      have HKV : Hid (WK B b w V) := (HC.out.trans (WK.of_below hBT (by omega))).trans (WK.of_below hBV (by omega))
      have hX4 := known hBV (Nat.le_refl _) hXT
      have HX4 := Lib.hid hX4
      have hzT : wr.heap.size < T.heap.size := by omega
      have hneb : wr.heap.size ≠ b := by omega
      have HNE := Lib.hid hneb
      clear hc hn hd hRn hXV hsV hblt hXT hsT hX4 hneb
      go_wp2_with fail
      refine HNu.out.mono ?_
      rintro e w4 ⟨rfl, hW4, hk4⟩
      have HW4 := Lib.hid hW4
      have HK4 := Lib.hid hk4
      have r4 : w4.cell? ⟨wr.heap.size, 0, none⟩ = some (.int .i64 n) := cell_of_cells (hk4.block HX4.out HNE.out (by decide)) 0
      clear hW4 hk4
      go_wp2_with fail
      go_roundw
      case rel => exact ⟨k + 1, n, _, by go_num, by go_num, by omega, ⟨by omega, h1⟩, HW4.out, HEn.out, HRn.out, by rw [Hid, List.length_append]; have h7 := (numsB_len [n - last, m]).2; have h8 := HLe.out; simp at h7; omega, HKV.out.trans HK4.out⟩
      case measure => simp [intOf]; omega
    · obtain rfl : k = len := by omega
      have H9 : Hid (Wr B b (bs ++ numsB ((k : Int) :: diffsB 0 l)) wr) := by
        have h1 := HE.out
        rw [List.drop_eq_nil_of_le (by rw [← HLL.out]; exact Nat.le_refl _), show numsB (diffsB last []) = [] from rfl, List.append_nil] at h1
        rw [Hid, ← h1]
        exact HW.out
      go_wp2_with fail
      go_end0
      exact ⟨rfl, H9.out, HC.out⟩
end Go.Proofs.YtjpnbkdhmjgdgaaDoor

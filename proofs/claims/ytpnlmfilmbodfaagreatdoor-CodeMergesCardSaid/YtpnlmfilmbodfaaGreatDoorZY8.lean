/- Package code: writer.exact, bins. Package code: Encode: printed by wip/tools/gen_y5.py. What bytes decode to, and back: plain laws, no program in sight. -/
import Derived.Test.YtpnlmfilmbodfaaGreatDoorZY7
namespace Go.Proofs.YtpnlmfilmbodfaaGreatDoor
open Go Go.RowKit
def Rise : Int → List Int → Prop
  | _, [] => True
  | p, n :: r => p ≤ n ∧ Rise n r
def diffs : Int → List Int → List Int
  | _, [] => []
  | p, n :: r => (n - p) :: diffs n r
theorem diffs_len : ∀ (l : List Int) (p : Int), (diffs p l).length = l.length
  | [], _ => rfl
  | n :: r, p => by simp only [diffs, List.length_cons, diffs_len r]
theorem drop_cons'' {α : Type} {l : List α} {k : Nat} {x : α} (h : l[k]? = some x) : l.drop k = x :: l.drop (k + 1) := by
  obtain ⟨hk, rfl⟩ := List.getElem?_eq_some_iff.1 h
  exact List.drop_eq_getElem_cons hk
theorem Wr.lt {B b : Nat} {bs : List UInt8} {w : World} (h : Wr B b bs w) : b < w.heap.size ∧ B ≤ b := by
  rcases h with ⟨h1, v, h2, h3, h4⟩ | ⟨h1, v, h2, h3, h4⟩
  · exact ⟨(Array.getElem?_eq_some_iff.1 h2).1, h1⟩
  · exact ⟨(Array.getElem?_eq_some_iff.1 h2).1, h1⟩
theorem WK.block {B b k : Nat} {w w' : World} {c : Array Value} {t : TypeId} {fz : Nat × Nat} (h : WK B b w w') (hk : w.heap[k]? = some (.cells c t fz)) (hb : k ≠ b) (ht : t ≠ 5) : w'.heap[k]? = some (.cells c t fz) :=
  h.2 k _ hk (fun e => hb (Option.some.inj e)) (fun c' fz' e => by injection e with e1 e2; exact ht e2)
theorem sl_one {B b k : Nat} {W : World} {x : Int} (hX : W.heap[k]? = some (.cells #[.int .u64 x] 43 (0, 0))) (hb : k ≠ b) : ∀ w', WK B b W w' → SlE encU 1 w'.heap.size w' (some ⟨k, 0, none⟩) 1 [x] := fun w' h => by
  have hX' := h.block hX hb (by decide)
  refine ⟨rfl, fun j y hy => ?_⟩
  have hj : j = 0 := by have := (List.getElem?_eq_some_iff.1 hy).1; simp at this; exact this
  subst hj
  obtain rfl : x = y := by simpa using hy
  refine ⟨k, 0, rfl, (Array.getElem?_eq_some_iff.1 hX').1, fun i hi => ?_⟩
  obtain rfl : i = 0 := by omega
  rw [cCc hX']
  rfl
theorem sl_two {B b k : Nat} {W : World} {x y : Int} (hX : W.heap[k]? = some (.cells #[.int .u64 x, .int .u64 y] 43 (0, 0))) (hb : k ≠ b) : ∀ w', WK B b W w' → SlE encU 1 w'.heap.size w' (some ⟨k, 0, none⟩) 2 [x, y] := fun w' h => by
  have hX' := h.block hX hb (by decide)
  refine ⟨rfl, fun j z hz => ⟨k, 0, rfl, (Array.getElem?_eq_some_iff.1 hX').1, fun i hi => ?_⟩⟩
  obtain rfl : i = 0 := by omega
  have hj := (List.getElem?_eq_some_iff.1 hz).1
  simp only [List.length_cons, List.length_nil] at hj
  rw [cCc hX']
  rcases (show j = 0 ∨ j = 1 by omega) with rfl | rfl
  · obtain rfl : x = z := by simpa using hz
    rfl
  · obtain rfl : y = z := by simpa using hz
    rfl
set_option maxRecDepth 100000 in
set_option maxHeartbeats 4000000 in
theorem exact_any (B b : Nat) (bs : List UInt8) (l : List Int) (a : Option Addr) (len cap : Nat) (w : World) (h : Wr B b bs w) (hk : ∀ w', WK B b w w' → SlE encU 1 w'.heap.size w' a len l) (hu : U64s l) (hr : Rise 0 l) (hl : len ≤ 1000) (hlen : bs.length ≤ 100000) (hBw : B ≤ w.heap.size) :
    Calls Tryz.prog 100 #[.pointer (some ⟨b, 0, none⟩), .agg #[.slice a len cap]] w fun e w' => e = .returned (.tuple #[]) ∧ Wr B b (bs ++ numsB ((len : Int) :: diffs 0 l)) w' ∧ WK B b w w' := by
  have hll := (hk w (WK.refl _ _ _)).1
  obtain ⟨W0, hW0, hX0, hB0, hs0⟩ := boxes1 w #[.slice a len cap] 24
  have c0 : W0.cell? ⟨w.heap.size, 0, none⟩ = some (.slice a len cap) := cCc hX0 0
  have H0 : Hid (Wr B b bs W0) := h.go hB0
  have HK0 : Hid (WK B b w W0) := WK.of_below hB0 hBw
  obtain ⟨W1, hW1, hX1, hB1, hs1⟩ := boxes1 W0 #[.int .u64 (len : Int)] 43
  have hblt := h.lt.1
  have HN := Lib.hid (numbers_any B b bs [(len : Int)] (some ⟨W0.heap.size, 0, none⟩) 1 1 W1 (H0.out.go hB1) (sl_one hX1 (by omega)) (fun n hn => by rw [List.mem_singleton] at hn; subst hn; unfold U64; omega) (by omega) (by omega))
  have HX0 := Lib.hid (known hB1 (Nat.le_refl _) hX0)
  have HK1 : Hid (WK B b w W1) := HK0.out.trans (WK.of_below hB1 (by omega))
  have HK := Lib.hid hk
  have HU := Lib.hid hu
  have HR := Lib.hid hr
  have HLL := Lib.hid hll
  replace hs0 : w.heap.size < W0.heap.size := by omega
  clear h hk hu hr hX0 hX1 hs1 hll
  go_enter Tryz.func100, Tryz.ntmps100
  go_wp2_with fail
  refine HN.out.mono ?_
  rintro e w2 ⟨rfl, hW2, hk2⟩
  have HW2 := Lib.hid hW2
  have HK2 : Hid (WK B b w w2) := HK1.out.trans hk2
  have hX2 := hk2.block HX0.out (by omega) (by decide)
  have c2 : w2.cell? ⟨w.heap.size, 0, none⟩ = some (.slice a len cap) := cCc hX2 0
  clear hW1 hW0 hW2 c0 hX2 hk2
  go_wp2_with fail
  go_loopw [4, 17] (fun la i wr => ∃ (k : Nat) (last : Int) (cur : List UInt8), i = .int .i64 k ∧ la = .int .u64 last ∧ k ≤ len ∧ U64 last ∧ Hid (Wr B b cur wr) ∧ Hid (cur ++ numsB (diffs last (l.drop k)) = bs ++ numsB ((len : Int) :: diffs 0 l)) ∧ Hid (Rise last (l.drop k)) ∧ Hid (cur.length ≤ bs.length + 9 * (k + 1)) ∧ Hid (WK B b w wr)) (fun _ i _ => len - (intOf i).toNat)
  case atStart => exact ⟨0, 0, _, rfl, rfl, Nat.zero_le _, ⟨by omega, by omega⟩, HW2.out, by rw [Hid, List.drop_zero, List.append_assoc, ← numsB_append]; rfl, HR.out, by rw [Hid, List.length_append]; have := (numsB_len [(len : Int)]).2; simp at this; omega, HK2.out⟩
  case round =>
    obtain ⟨k, last, cur, rfl, rfl, hkl, hul, HW, HE, HRi, HLe, HC⟩ := hrel
    by_cases hlt : k < len
    · obtain ⟨n, hn⟩ : ∃ n, l[k]? = some n := ⟨_, List.getElem?_eq_getElem (by rw [← HLL.out]; exact hlt)⟩
      obtain ⟨b1, o1, rfl, hbb, hc⟩ := (HK.out wr HC.out).2 k n hn
      have c0 : wr.cell? ⟨b1, o1 + k * 1, none⟩ = some (.int .u64 n) := hc 0 (by omega)
      rw [Nat.mul_one] at c0
      have hun : U64 n := HU.out n (List.mem_of_getElem? hn)
      have hd : l.drop k = n :: l.drop (k + 1) := drop_cons'' hn
      have hRn := HRi.out
      rw [hd] at hRn
      obtain ⟨hle, hRn⟩ := hRn
      have HEn : Hid ((cur ++ numsB [n - last]) ++ numsB (diffs n (l.drop (k + 1))) = bs ++ numsB ((len : Int) :: diffs 0 l)) := by
        rw [Hid, ← HE.out, hd, List.append_assoc, ← numsB_append]; rfl
      have HRn := Lib.hid hRn
      obtain ⟨h0, h1⟩ := hun
      obtain ⟨h2, h3⟩ := hul
      have hblt := HW.out.lt
      obtain ⟨V, hV, hXV, hBV, hsV⟩ := boxes1 wr #[.int .u64 (n - last)] 43
      have HNu := Lib.hid (numbers_any B b cur [n - last] (some ⟨wr.heap.size, 0, none⟩) 1 1 V (HW.out.go hBV) (sl_one hXV (by omega)) (fun z hz => by rw [List.mem_singleton] at hz; subst hz; unfold U64; omega) (by have := HLe.out; omega) (by omega))
      have HKV : Hid (WK B b w V) := HC.out.trans (WK.of_below hBV (by omega))
      clear hc hn hd hRn hXV hsV hblt
      go_wp2_with fail
      refine HNu.out.mono ?_
      rintro e w4 ⟨rfl, hW4, hk4⟩
      have HW4 := Lib.hid hW4
      have HK4 := Lib.hid hk4
      clear hW4 hk4
      go_wp2_with fail
      go_roundw
      case rel => exact ⟨k + 1, n, _, by go_num, by go_num, by omega, ⟨h0, h1⟩, HW4.out, HEn.out, HRn.out, by rw [Hid, List.length_append]; have h7 := (numsB_len [n - last]).2; have h8 := HLe.out; simp at h7; omega, HKV.out.trans HK4.out⟩
      case measure => simp [intOf]; omega
    · obtain rfl : k = len := by omega
      have H9 : Hid (Wr B b (bs ++ numsB ((k : Int) :: diffs 0 l)) wr) := by
        have h1 := HE.out
        rw [List.drop_eq_nil_of_le (by rw [← HLL.out]; exact Nat.le_refl _), show numsB (diffs last []) = [] from rfl, List.append_nil] at h1
        rw [Hid, ← h1]
        exact HW.out
      go_wp2_with fail
      go_end0
      exact ⟨rfl, H9.out, HC.out⟩
def RiseB : Int → List (Int × Int) → Prop
  | _, [] => True
  | p, n :: r => p ≤ n.1 ∧ RiseB n.1 r
def diffsB : Int → List (Int × Int) → List Int
  | _, [] => []
  | p, n :: r => (n.1 - p) :: n.2 :: diffsB n.1 r
theorem diffsB_len : ∀ (l : List (Int × Int)) (p : Int), (diffsB p l).length = 2 * l.length
  | [], _ => rfl
  | n :: r, p => by simp only [diffsB, List.length_cons, diffsB_len r]; omega
set_option maxRecDepth 100000 in
set_option maxHeartbeats 4000000 in
theorem bins_any (B b : Nat) (bs : List UInt8) (l : List (Int × Int)) (gf : Int) (a : Option Addr) (len cap : Nat) (w : World) (h : Wr B b bs w) (hk : ∀ w', WK B b w w' → SlE encB 2 w'.heap.size w' a len l) (hu : ∀ z ∈ l, I64 z.1 ∧ U64 z.2) (hr : RiseB 0 l) (hl : len ≤ 1000) (hlen : bs.length ≤ 100000) (hBw : B ≤ w.heap.size) :
    Calls Tryz.prog 102 #[.pointer (some ⟨b, 0, none⟩), .agg #[.int .i64 gf, .slice a len cap]] w fun e w' => e = .returned (.tuple #[]) ∧ Wr B b (bs ++ numsB ((len : Int) :: diffsB 0 l)) w' ∧ WK B b w w' := by
  have hll := (hk w (WK.refl _ _ _)).1
  obtain ⟨W0, hW0, hX0, hB0, hs0⟩ := boxes1 w #[.int .i64 gf, .slice a len cap] 31
  have c0 : W0.cell? ⟨w.heap.size, 1, none⟩ = some (.slice a len cap) := cCc hX0 1
  have H0 : Hid (Wr B b bs W0) := h.go hB0
  have HK0 : Hid (WK B b w W0) := WK.of_below hB0 hBw
  obtain ⟨W1, hW1, hX1, hB1, hs1⟩ := boxes1 W0 #[.int .u64 (len : Int)] 43
  have hblt := h.lt.1
  have HN := Lib.hid (numbers_any B b bs [(len : Int)] (some ⟨W0.heap.size, 0, none⟩) 1 1 W1 (H0.out.go hB1) (sl_one hX1 (by omega)) (fun n hn => by rw [List.mem_singleton] at hn; subst hn; unfold U64; omega) (by omega) (by omega))
  have HX0 := Lib.hid (known hB1 (Nat.le_refl _) hX0)
  have HK1 : Hid (WK B b w W1) := HK0.out.trans (WK.of_below hB1 (by omega))
  have HK := Lib.hid hk
  have HU := Lib.hid hu
  have HR := Lib.hid hr
  have HLL := Lib.hid hll
  replace hs0 : w.heap.size < W0.heap.size := by omega
  clear h hk hu hr hX0 hX1 hs1 hll
  go_enter Tryz.func102, Tryz.ntmps102
  go_wp2_with fail
  refine HN.out.mono ?_
  rintro e w2 ⟨rfl, hW2, hk2⟩
  have HW2 := Lib.hid hW2
  have HK2 : Hid (WK B b w w2) := HK1.out.trans hk2
  have hX2 := hk2.block HX0.out (by omega) (by decide)
  have c2 : w2.cell? ⟨w.heap.size, 1, none⟩ = some (.slice a len cap) := cCc hX2 1
  clear hW1 hW0 hW2 c0 hX2 hk2
  go_wp2_with fail
  go_loopw [4, 17] (fun la i wr => ∃ (k : Nat) (last : Int) (cur : List UInt8), i = .int .i64 k ∧ la = .int .i64 last ∧ k ≤ len ∧ (0 ≤ last ∧ last ≤ 9223372036854775807) ∧ Hid (Wr B b cur wr) ∧ Hid (cur ++ numsB (diffsB last (l.drop k)) = bs ++ numsB ((len : Int) :: diffsB 0 l)) ∧ Hid (RiseB last (l.drop k)) ∧ Hid (cur.length ≤ bs.length + 18 * (k + 1)) ∧ Hid (WK B b w wr)) (fun _ i _ => len - (intOf i).toNat)
  case atStart => exact ⟨0, 0, _, rfl, rfl, Nat.zero_le _, ⟨by omega, by omega⟩, HW2.out, by rw [Hid, List.drop_zero, List.append_assoc, ← numsB_append]; rfl, HR.out, by rw [Hid, List.length_append]; have := (numsB_len [(len : Int)]).2; simp at this; omega, HK2.out⟩
  case round =>
    obtain ⟨k, last, cur, rfl, rfl, hkl, hul, HW, HE, HRi, HLe, HC⟩ := hrel
    by_cases hlt : k < len
    · obtain ⟨⟨n, m⟩, hn⟩ : ∃ n, l[k]? = some n := ⟨_, List.getElem?_eq_getElem (by rw [← HLL.out]; exact hlt)⟩
      obtain ⟨b1, o1, rfl, hbb, hc⟩ := (HK.out wr HC.out).2 k (n, m) hn
      have c0 : wr.cell? ⟨b1, o1 + k * 2, none⟩ = some (.int .i64 n) := hc 0 (by omega)
      have c1 : wr.cell? ⟨b1, o1 + k * 2 + 1, none⟩ = some (.int .u64 m) := hc 1 (by omega)
      obtain ⟨hun, hum⟩ := HU.out (n, m) (List.mem_of_getElem? hn)
      have hd : l.drop k = (n, m) :: l.drop (k + 1) := drop_cons'' hn
      obtain ⟨T, hTe, hXT, hBT, hsT⟩ := boxes1 wr #[.int .i64 n, .int .u64 m] 192
      have r0 : T.cell? ⟨wr.heap.size, 0, none⟩ = some (.int .i64 n) := cCc hXT 0
      have r1 : T.cell? ⟨wr.heap.size, 1, none⟩ = some (.int .u64 m) := cCc hXT 1
      have hRn := HRi.out
      rw [hd] at hRn
      obtain ⟨hle, hRn⟩ := hRn
      have HEn : Hid ((cur ++ numsB [n - last, m]) ++ numsB (diffsB n (l.drop (k + 1))) = bs ++ numsB ((len : Int) :: diffsB 0 l)) := by
        rw [Hid, ← HE.out, hd, List.append_assoc, ← numsB_append]; rfl
      have HRn := Lib.hid hRn
      obtain ⟨h0, h1⟩ := hun
      obtain ⟨m0, m1⟩ := hum
      dsimp only at h0 h1 m0 m1 hle
      obtain ⟨h2, h3⟩ := hul
      have hblt := HW.out.lt
      obtain ⟨V, hV, hXV, hBV, hsV⟩ := boxes1 T #[.int .u64 (n - last), .int .u64 m] 43
      have HNu := Lib.hid (numbers_any B b cur [n - last, m] (some ⟨T.heap.size, 0, none⟩) 2 2 V ((HW.out.go hBT).go hBV) (sl_two hXV (by omega)) (fun z hz => by simp only [List.mem_cons, List.not_mem_nil, or_false] at hz; rcases hz with rfl | rfl <;> (unfold U64; omega)) (by have := HLe.out; omega) (by omega))
      have HKV : Hid (WK B b w V) := (HC.out.trans (WK.of_below hBT (by omega))).trans (WK.of_below hBV (by omega))
      have hX4 := known hBV (Nat.le_refl _) hXT
      have HX4 := Lib.hid hX4
      have hzT : wr.heap.size < T.heap.size := by omega
      have hneb : wr.heap.size ≠ b := by omega
      have HNE := Lib.hid hneb
      clear hc hn hd hRn hXV hsV hblt hXT hsT hX4 hneb
      go_wp2_with fail
      refine HNu.out.mono ?_
      rintro e w4 ⟨rfl, hW4, hk4⟩
      have HW4 := Lib.hid hW4
      have HK4 := Lib.hid hk4
      have r4 : w4.cell? ⟨wr.heap.size, 0, none⟩ = some (.int .i64 n) := cCc (hk4.block HX4.out HNE.out (by decide)) 0
      clear hW4 hk4
      go_wp2_with fail
      go_roundw
      case rel => exact ⟨k + 1, n, _, by go_num, by go_num, by omega, ⟨by omega, h1⟩, HW4.out, HEn.out, HRn.out, by rw [Hid, List.length_append]; have h7 := (numsB_len [n - last, m]).2; have h8 := HLe.out; simp at h7; omega, HKV.out.trans HK4.out⟩
      case measure => simp [intOf]; omega
    · obtain rfl : k = len := by omega
      have H9 : Hid (Wr B b (bs ++ numsB ((k : Int) :: diffsB 0 l)) wr) := by
        have h1 := HE.out
        rw [List.drop_eq_nil_of_le (by rw [← HLL.out]; exact Nat.le_refl _), show numsB (diffsB last []) = [] from rfl, List.append_nil] at h1
        rw [Hid, ← h1]
        exact HW.out
      go_wp2_with fail
      go_end0
      exact ⟨rfl, H9.out, HC.out⟩
end Go.Proofs.YtpnlmfilmbodfaaGreatDoor
namespace Go.Proofs.YtpnlmfilmbodfaaGreatDoor
open Go Go.RowKit
def encBytes (x : Sk) : List UInt8 := numsB [x.kind, x.level] ++
  (if x.kind == 1 then (if x.level == 0 then numsB ((x.e.length : Int) :: diffs 0 x.e) else x.hr.data.toList) else if x.kind == 2 then numsB x.cl else numsB ((x.gl.length : Int) :: diffsB 0 x.gl))
def encS (x : Sk) : ByteArray := if skOk x then ⟨(encBytes x).toArray⟩ else ⟨#[]⟩
def encE (x : Sk) : Int := if skOk x then 0 else 100
structure Sk.num (x : Sk) : Prop where
  e : U64s x.e
  c : U64s x.cl
  g : ∀ z ∈ x.gl, I64 z.1 ∧ U64 z.2
structure Sk.few (x : Sk) : Prop where
  e : x.e.length ≤ 1000
  c : x.cl.length ≤ 1000
  g : x.gl.length ≤ 1000
  r : x.hr.size ≤ 1000
theorem rise_of_ex : ∀ (l : List Int) (st : Option Int) (p : Int), (foldO exStep st l).isSome = true → (∀ m, st = some m → p = m) → (st = none → ∀ n ∈ l, p ≤ n) → Rise p l
  | [], _, _, _, _, _ => trivial
  | n :: r, st, p, h, h1, h2 => by
    rw [foldO_cons] at h
    cases hx : exStep st n with
    | none => rw [hx] at h; cases h
    | some y =>
      rw [hx] at h
      unfold exStep at hx
      cases st with
      | none =>
        simp at hx
        refine ⟨h2 rfl n List.mem_cons_self, rise_of_ex r y n h (fun m hm => ?_) (fun hm => ?_)⟩
        · rw [← hx] at hm; exact Option.some.inj hm
        · rw [← hx] at hm; cases hm
      | some m =>
        have hp := h1 m rfl
        by_cases hc : n ≤ m
        · simp [hc] at hx
        · simp [hc] at hx
          refine ⟨by omega, rise_of_ex r y n h (fun m hm => ?_) (fun hm => ?_)⟩
          · rw [← hx] at hm; exact Option.some.inj hm
          · rw [← hx] at hm; cases hm
theorem rise_of_hist (f : Int) : ∀ (l : List (Int × Int)) (p : Int), (foldO (histStep f) p l).isSome = true → ∀ q, q ≤ p + 1 → RiseB q l
  | [], _, _, _, _ => trivial
  | n :: r, p, h, q, hq => by
    rw [foldO_cons] at h
    cases hx : histStep f p n with
    | none => rw [hx] at h; cases h
    | some y =>
      rw [hx] at h
      unfold histStep at hx
      split at hx
      · cases hx
      · rename_i hc
        have hy := Option.some.inj hx
        simp only [Bool.or_eq_true, decide_eq_true_eq, not_or] at hc
        exact ⟨by omega, rise_of_hist f r y h n.1 (by omega)⟩
theorem wr_new {W : World} {b : Nat} (h : W.heap[b]? = some (.cells #[.pointer none, .slice none 0 0] 131 (0, 0))) : Wr b b [] W :=
  .inl ⟨Nat.le_refl _, _, h, ⟨rfl, .inl ⟨rfl, rfl⟩⟩, (fun h => by cases h)⟩
theorem ok_parts {x : Sk} (h : skOk x = true) : (1 ≤ x.kind ∧ x.kind ≤ 3) ∧ (0 ≤ x.level ∧ x.level ≤ bottomB x.kind) ∧ bodyRight x = true ∧ skSame x (skCanon x) = true := by
  simp only [skOk, Bool.and_eq_true, decide_eq_true_eq] at h
  exact ⟨h.1.1, h.1.2, h.2.1, h.2.2⟩
theorem ok_level {x : Sk} (h : skOk x = true) : 0 ≤ x.level ∧ x.level ≤ 4 := by
  obtain ⟨-, ⟨h1, h2⟩, -⟩ := ok_parts h
  refine ⟨h1, Int.le_trans h2 ?_⟩
  unfold bottomB
  repeat' split
  all_goals omega
theorem ok_rise {x : Sk} (h : skOk x = true) (hk : x.kind = 1) (hl : x.level = 0) (hu : U64s x.e) : Rise 0 x.e := by
  obtain ⟨-, -, h3, -⟩ := ok_parts h
  simp only [bodyRight, hk, hl] at h3
  simp [exRight] at h3
  exact rise_of_ex x.e none 0 h3.2 (fun m hm => by cases hm) (fun _ n hn => (hu n hn).1)
theorem ok_riseB {x : Sk} (h : skOk x = true) (hk : x.kind = 3) : RiseB 0 x.gl := by
  obtain ⟨-, -, h3, -⟩ := ok_parts h
  simp only [bodyRight, hk] at h3
  simp [hiRight] at h3
  exact rise_of_hist x.gf x.gl (-1) h3.1.2 0 (by omega)
theorem ne_enc {a b : List UInt8} (h : 1 ≤ a.length) : a ++ b ≠ [] := fun h2 => by
  have := congrArg List.length h2
  simp only [List.length_append, List.length_nil] at this
  omega
set_option maxRecDepth 100000 in
set_option maxHeartbeats 4000000 in
theorem Encode_cnt (x : Sk) (s : SS) (w : World) (hx : s.At w.heap.size w x) (hs : s.Short) (hf : x.fit) (hn : x.num) (hw : x.few) (hok : skOk x = true) (hk : x.kind = 2) :
    Calls Tryz.prog 38 #[.agg #[.int .i64 x.kind, .int .i64 x.level, .slice s.ea s.el s.ec, .int .i64 x.hb, .string x.hr, .int .i64 x.cr, .int .i64 x.cc, .slice s.ca s.cl s.cc, .int .i64 x.gf, .slice s.ga s.gl s.gc]] w fun e w' => e = .returned (.tuple #[.string ⟨(encBytes x).toArray⟩, .int .i64 0]) ∧ Below w.heap.size w w' := by
  obtain ⟨W0, hW0, hX0, hB0, hs0⟩ := boxes1 w #[.int .i64 x.kind, .int .i64 x.level, .slice s.ea s.el s.ec, .int .i64 x.hb, .string x.hr, .int .i64 x.cr, .int .i64 x.cc, .slice s.ca s.cl s.cc, .int .i64 x.gf, .slice s.ga s.gl s.gc] 33
  have c0 : W0.cell? ⟨w.heap.size, 0, none⟩ = some (.int .i64 x.kind) := cCc hX0 0
  have c1 : W0.cell? ⟨w.heap.size, 1, none⟩ = some (.int .i64 x.level) := cCc hX0 1
  have c2 : W0.cell? ⟨w.heap.size, 2, none⟩ = some (.slice s.ea s.el s.ec) := cCc hX0 2
  have c3 : W0.cell? ⟨w.heap.size, 3, none⟩ = some (.int .i64 x.hb) := cCc hX0 3
  have c4 : W0.cell? ⟨w.heap.size, 4, none⟩ = some (.string x.hr) := cCc hX0 4
  have c5 : W0.cell? ⟨w.heap.size, 5, none⟩ = some (.int .i64 x.cr) := cCc hX0 5
  have c6 : W0.cell? ⟨w.heap.size, 6, none⟩ = some (.int .i64 x.cc) := cCc hX0 6
  have c7 : W0.cell? ⟨w.heap.size, 7, none⟩ = some (.slice s.ca s.cl s.cc) := cCc hX0 7
  have c8 : W0.cell? ⟨w.heap.size, 8, none⟩ = some (.int .i64 x.gf) := cCc hX0 8
  have c9 : W0.cell? ⟨w.heap.size, 9, none⟩ = some (.slice s.ga s.gl s.gc) := cCc hX0 9
  have HX : Hid (s.At W0.heap.size W0 x) := hx.go hB0
  have hR := ladder_Right_any x s W0 HX.out hs hf
  rw [hok] at hR
  obtain ⟨hl0, hl1⟩ := ok_level hok
  have HN := Lib.hid hn
  have HW := Lib.hid hw
  have HOK := Lib.hid hok
  have hz0 : w.heap.size < W0.heap.size := by omega
  have HB0 := Lib.hid hB0
  have HEB : Hid (encBytes x = numsB [2, x.level] ++ numsB x.cl) := by rw [Hid, encBytes]; simp [hk]
  generalize encBytes x = EB at HEB ⊢
  obtain ⟨NL, HNL⟩ : ∃ NL, Hid (numsB [2, x.level] = NL) := ⟨_, rfl⟩
  have HNn : Hid (2 ≤ NL.length ∧ NL.length ≤ 18) := by have h2 := numsB_len [2, x.level]; rw [HNL.out] at h2; exact h2
  rw [HNL.out] at HEB
  rw [hk] at c0 hR hW0 ⊢
  clear hx hs hf hn hw hok hX0 hs0
  go_enter Tryz.func38, Tryz.ntmps38
  go_wp2_with (go_at_call 29; refine hR.mono ?_; rintro e w1 ⟨rfl, hb1⟩; obtain ⟨W2, hW2, hX2, hB2, hs2⟩ := boxes1 w1 #[.pointer none, .slice none 0 0] 131; have hb02 := hb1.trans (hB2.mono hb1.size); obtain ⟨hc2, hd2⟩ := bcell hb02; obtain ⟨W3, hW3, hX3, hB3, hs3⟩ := boxes1 W2 #[.int .u64 2, .int .u64 x.level] 43; replace hs2 : w1.heap.size < W2.heap.size := (by omega); replace hs3 : W2.heap.size < W3.heap.size := (by omega))
  have hz1 := hb1.size
  refine (numbers_any w1.heap.size w1.heap.size [] [2, x.level] (some ⟨W2.heap.size, 0, none⟩) 2 2 W3 ((wr_new hX2).go hB3) (sl_two hX3 (by omega)) (fun n hn => by simp only [List.mem_cons, List.not_mem_nil, or_false] at hn; rcases hn with rfl | rfl <;> (unfold U64; omega)) (by simp) (by omega)).mono ?_
  rintro e w4 ⟨rfl, hW4, hk4⟩
  have hb14 : Below w1.heap.size w1 w4 := (hB2.trans (hB3.mono hB2.size)).trans hk4.1
  have hb04 : Below W0.heap.size W0 w4 := hb1.trans (hb14.mono hz1)
  obtain ⟨hc4, hd4⟩ := bcell hb04
  have HX4 : Hid (∀ w', Below w1.heap.size w4 w' → s.At w'.heap.size w' x) := fun w' hb => HX.out.go (hb04.trans (hb.mono hz1))
  have HW4 : Hid (Wr w1.heap.size w1.heap.size NL w4) := by rw [List.nil_append, HNL.out] at hW4; exact hW4
  have hz4 : w1.heap.size ≤ w4.heap.size := hb14.size
  clear hW2 hW3 hX2 hX3 hW4 hk4 hc2 hd2 hW0
  go_wp2_with fail
  have hlc := HX.out.c.1.1
  refine (numbers_any w1.heap.size w1.heap.size _ x.cl s.ca s.cl s.cc w4 HW4.out (fun w' h => (HX4.out w' h.1).c.1) HN.out.c (by have h2 := HNn.out; have h3 := HW.out.c; omega) hz4).mono ?_
  rintro e w6 ⟨rfl, hW6, hk6⟩
  have HW6 := Lib.hid hW6
  have hb46 := hk6.1
  clear hW6 hk6 hlc
  go_wp2_with fail
  refine (String_w w1.heap.size w1.heap.size EB w6 (by rw [HEB.out]; exact HW6.out) (by rw [HEB.out]; exact ne_enc (by have := HNn.out; omega))).mono ?_
  rintro e w7 ⟨rfl, hb7⟩
  go_wp2_with fail
  go_ret2
  exact ⟨rfl, HB0.out.trans ((hb04.trans ((hb46.trans hb7).mono hz1)).mono (by omega))⟩
set_option maxRecDepth 100000 in
set_option maxHeartbeats 4000000 in
theorem Encode_exa (x : Sk) (s : SS) (w : World) (hx : s.At w.heap.size w x) (hs : s.Short) (hf : x.fit) (hn : x.num) (hw : x.few) (hok : skOk x = true) (hk : x.kind = 1) (hl : x.level = 0) :
    Calls Tryz.prog 38 #[.agg #[.int .i64 x.kind, .int .i64 x.level, .slice s.ea s.el s.ec, .int .i64 x.hb, .string x.hr, .int .i64 x.cr, .int .i64 x.cc, .slice s.ca s.cl s.cc, .int .i64 x.gf, .slice s.ga s.gl s.gc]] w fun e w' => e = .returned (.tuple #[.string ⟨(encBytes x).toArray⟩, .int .i64 0]) ∧ Below w.heap.size w w' := by
  obtain ⟨W0, hW0, hX0, hB0, hs0⟩ := boxes1 w #[.int .i64 x.kind, .int .i64 x.level, .slice s.ea s.el s.ec, .int .i64 x.hb, .string x.hr, .int .i64 x.cr, .int .i64 x.cc, .slice s.ca s.cl s.cc, .int .i64 x.gf, .slice s.ga s.gl s.gc] 33
  have c0 : W0.cell? ⟨w.heap.size, 0, none⟩ = some (.int .i64 x.kind) := cCc hX0 0
  have c1 : W0.cell? ⟨w.heap.size, 1, none⟩ = some (.int .i64 x.level) := cCc hX0 1
  have c2 : W0.cell? ⟨w.heap.size, 2, none⟩ = some (.slice s.ea s.el s.ec) := cCc hX0 2
  have c3 : W0.cell? ⟨w.heap.size, 3, none⟩ = some (.int .i64 x.hb) := cCc hX0 3
  have c4 : W0.cell? ⟨w.heap.size, 4, none⟩ = some (.string x.hr) := cCc hX0 4
  have c5 : W0.cell? ⟨w.heap.size, 5, none⟩ = some (.int .i64 x.cr) := cCc hX0 5
  have c6 : W0.cell? ⟨w.heap.size, 6, none⟩ = some (.int .i64 x.cc) := cCc hX0 6
  have c7 : W0.cell? ⟨w.heap.size, 7, none⟩ = some (.slice s.ca s.cl s.cc) := cCc hX0 7
  have c8 : W0.cell? ⟨w.heap.size, 8, none⟩ = some (.int .i64 x.gf) := cCc hX0 8
  have c9 : W0.cell? ⟨w.heap.size, 9, none⟩ = some (.slice s.ga s.gl s.gc) := cCc hX0 9
  have HX : Hid (s.At W0.heap.size W0 x) := hx.go hB0
  have hR := ladder_Right_any x s W0 HX.out hs hf
  rw [hok] at hR
  obtain ⟨hl0, hl1⟩ := ok_level hok
  have HN := Lib.hid hn
  have HW := Lib.hid hw
  have HOK := Lib.hid hok
  have hz0 : w.heap.size < W0.heap.size := by omega
  have HB0 := Lib.hid hB0
  have hle := HX.out.e.1.1
  have HRi : Hid (Rise 0 x.e) := ok_rise hok hk hl hn.e
  have HEB : Hid (encBytes x = numsB [1, 0] ++ numsB ((s.el : Int) :: diffs 0 x.e)) := by rw [Hid, encBytes]; simp [hk, hl, hle]
  generalize encBytes x = EB at HEB ⊢
  obtain ⟨NL, HNL⟩ : ∃ NL, Hid (numsB [1, 0] = NL) := ⟨_, rfl⟩
  have HNn : Hid (2 ≤ NL.length ∧ NL.length ≤ 18) := by have h2 := numsB_len [1, 0]; rw [HNL.out] at h2; exact h2
  rw [HNL.out] at HEB
  rw [hk] at c0 hR hW0 ⊢
  rw [hl] at c1 hR hW0 ⊢
  have HLE := Lib.hid hle
  clear hle
  clear hx hs hf hn hw hok hX0 hs0
  go_enter Tryz.func38, Tryz.ntmps38
  go_wp2_with (go_at_call 29; refine hR.mono ?_; rintro e w1 ⟨rfl, hb1⟩; obtain ⟨W2, hW2, hX2, hB2, hs2⟩ := boxes1 w1 #[.pointer none, .slice none 0 0] 131; have hb02 := hb1.trans (hB2.mono hb1.size); obtain ⟨hc2, hd2⟩ := bcell hb02; obtain ⟨W3, hW3, hX3, hB3, hs3⟩ := boxes1 W2 #[.int .u64 1, .int .u64 0] 43; replace hs2 : w1.heap.size < W2.heap.size := (by omega); replace hs3 : W2.heap.size < W3.heap.size := (by omega))
  have hz1 := hb1.size
  refine (numbers_any w1.heap.size w1.heap.size [] [1, 0] (some ⟨W2.heap.size, 0, none⟩) 2 2 W3 ((wr_new hX2).go hB3) (sl_two hX3 (by omega)) (fun n hn => by simp only [List.mem_cons, List.not_mem_nil, or_false] at hn; rcases hn with rfl | rfl <;> (unfold U64; omega)) (by simp) (by omega)).mono ?_
  rintro e w4 ⟨rfl, hW4, hk4⟩
  have hb14 : Below w1.heap.size w1 w4 := (hB2.trans (hB3.mono hB2.size)).trans hk4.1
  have hb04 : Below W0.heap.size W0 w4 := hb1.trans (hb14.mono hz1)
  obtain ⟨hc4, hd4⟩ := bcell hb04
  have HX4 : Hid (∀ w', Below w1.heap.size w4 w' → s.At w'.heap.size w' x) := fun w' hb => HX.out.go (hb04.trans (hb.mono hz1))
  have HW4 : Hid (Wr w1.heap.size w1.heap.size NL w4) := by rw [List.nil_append, HNL.out] at hW4; exact hW4
  have hz4 : w1.heap.size ≤ w4.heap.size := hb14.size
  clear hW2 hW3 hX2 hX3 hW4 hk4 hc2 hd2 hW0
  go_wp2_with fail
  refine (exact_any w1.heap.size w1.heap.size _ x.e s.ea s.el s.ec w4 HW4.out (fun w' h => (HX4.out w' h.1).e.1) HN.out.e HRi.out (by have h3 := HW.out.e; have h4 := HLE.out; omega) (by have h2 := HNn.out; omega) hz4).mono ?_
  rintro e w6 ⟨rfl, hW6, hk6⟩
  have HW6 := Lib.hid hW6
  have hb46 := hk6.1
  clear hW6 hk6
  go_wp2_with fail
  refine (String_w w1.heap.size w1.heap.size EB w6 (by rw [HEB.out]; exact HW6.out) (by rw [HEB.out]; exact ne_enc (by have := HNn.out; omega))).mono ?_
  rintro e w7 ⟨rfl, hb7⟩
  go_wp2_with fail
  go_ret2
  exact ⟨rfl, HB0.out.trans ((hb04.trans ((hb46.trans hb7).mono hz1)).mono (by omega))⟩
set_option maxRecDepth 100000 in
set_option maxHeartbeats 4000000 in
theorem Encode_reg (x : Sk) (s : SS) (w : World) (hx : s.At w.heap.size w x) (hs : s.Short) (hf : x.fit) (hn : x.num) (hw : x.few) (hok : skOk x = true) (hk : x.kind = 1) (hl : ¬ x.level = 0) :
    Calls Tryz.prog 38 #[.agg #[.int .i64 x.kind, .int .i64 x.level, .slice s.ea s.el s.ec, .int .i64 x.hb, .string x.hr, .int .i64 x.cr, .int .i64 x.cc, .slice s.ca s.cl s.cc, .int .i64 x.gf, .slice s.ga s.gl s.gc]] w fun e w' => e = .returned (.tuple #[.string ⟨(encBytes x).toArray⟩, .int .i64 0]) ∧ Below w.heap.size w w' := by
  obtain ⟨W0, hW0, hX0, hB0, hs0⟩ := boxes1 w #[.int .i64 x.kind, .int .i64 x.level, .slice s.ea s.el s.ec, .int .i64 x.hb, .string x.hr, .int .i64 x.cr, .int .i64 x.cc, .slice s.ca s.cl s.cc, .int .i64 x.gf, .slice s.ga s.gl s.gc] 33
  have c0 : W0.cell? ⟨w.heap.size, 0, none⟩ = some (.int .i64 x.kind) := cCc hX0 0
  have c1 : W0.cell? ⟨w.heap.size, 1, none⟩ = some (.int .i64 x.level) := cCc hX0 1
  have c2 : W0.cell? ⟨w.heap.size, 2, none⟩ = some (.slice s.ea s.el s.ec) := cCc hX0 2
  have c3 : W0.cell? ⟨w.heap.size, 3, none⟩ = some (.int .i64 x.hb) := cCc hX0 3
  have c4 : W0.cell? ⟨w.heap.size, 4, none⟩ = some (.string x.hr) := cCc hX0 4
  have c5 : W0.cell? ⟨w.heap.size, 5, none⟩ = some (.int .i64 x.cr) := cCc hX0 5
  have c6 : W0.cell? ⟨w.heap.size, 6, none⟩ = some (.int .i64 x.cc) := cCc hX0 6
  have c7 : W0.cell? ⟨w.heap.size, 7, none⟩ = some (.slice s.ca s.cl s.cc) := cCc hX0 7
  have c8 : W0.cell? ⟨w.heap.size, 8, none⟩ = some (.int .i64 x.gf) := cCc hX0 8
  have c9 : W0.cell? ⟨w.heap.size, 9, none⟩ = some (.slice s.ga s.gl s.gc) := cCc hX0 9
  have HX : Hid (s.At W0.heap.size W0 x) := hx.go hB0
  have hR := ladder_Right_any x s W0 HX.out hs hf
  rw [hok] at hR
  obtain ⟨hl0, hl1⟩ := ok_level hok
  have HN := Lib.hid hn
  have HW := Lib.hid hw
  have HOK := Lib.hid hok
  have hz0 : w.heap.size < W0.heap.size := by omega
  have HB0 := Lib.hid hB0
  have hl9 : (x.level == 0) = false := by simp [hl]
  have HEB : Hid (encBytes x = numsB [1, x.level] ++ x.hr.data.toList) := by rw [Hid, encBytes]; simp [hk, hl]
  generalize encBytes x = EB at HEB ⊢
  obtain ⟨NL, HNL⟩ : ∃ NL, Hid (numsB [1, x.level] = NL) := ⟨_, rfl⟩
  have HNn : Hid (2 ≤ NL.length ∧ NL.length ≤ 18) := by have h2 := numsB_len [1, x.level]; rw [HNL.out] at h2; exact h2
  rw [HNL.out] at HEB
  rw [hk] at c0 hR hW0 ⊢
  clear hx hs hf hn hw hok hX0 hs0
  go_enter Tryz.func38, Tryz.ntmps38
  go_wp2_with (go_at_call 29; refine hR.mono ?_; rintro e w1 ⟨rfl, hb1⟩; obtain ⟨W2, hW2, hX2, hB2, hs2⟩ := boxes1 w1 #[.pointer none, .slice none 0 0] 131; have hb02 := hb1.trans (hB2.mono hb1.size); obtain ⟨hc2, hd2⟩ := bcell hb02; obtain ⟨W3, hW3, hX3, hB3, hs3⟩ := boxes1 W2 #[.int .u64 1, .int .u64 x.level] 43; replace hs2 : w1.heap.size < W2.heap.size := (by omega); replace hs3 : W2.heap.size < W3.heap.size := (by omega))
  have hz1 := hb1.size
  refine (numbers_any w1.heap.size w1.heap.size [] [1, x.level] (some ⟨W2.heap.size, 0, none⟩) 2 2 W3 ((wr_new hX2).go hB3) (sl_two hX3 (by omega)) (fun n hn => by simp only [List.mem_cons, List.not_mem_nil, or_false] at hn; rcases hn with rfl | rfl <;> (unfold U64; omega)) (by simp) (by omega)).mono ?_
  rintro e w4 ⟨rfl, hW4, hk4⟩
  have hb14 : Below w1.heap.size w1 w4 := (hB2.trans (hB3.mono hB2.size)).trans hk4.1
  have hb04 : Below W0.heap.size W0 w4 := hb1.trans (hb14.mono hz1)
  obtain ⟨hc4, hd4⟩ := bcell hb04
  have HX4 : Hid (∀ w', Below w1.heap.size w4 w' → s.At w'.heap.size w' x) := fun w' hb => HX.out.go (hb04.trans (hb.mono hz1))
  have HW4 : Hid (Wr w1.heap.size w1.heap.size NL w4) := by rw [List.nil_append, HNL.out] at hW4; exact hW4
  have hz4 : w1.heap.size ≤ w4.heap.size := hb14.size
  clear hW2 hW3 hX2 hX3 hW4 hk4 hc2 hd2 hW0
  go_wp2_with fail
  have e4 : w4.drew.cell? ⟨w.heap.size, 4, none⟩ = some (.string x.hr) := (hc4 _ _ hz0).trans c4
  refine wp_region_any (by kernel_rfl) ?_
  change wpAny _ _ _ _ _ _ _ (World.drew _)
  refine wpAny_take (i := 0) (v := ?_) rfl (by kernel_rfl) (by kernel_rfl) (by kernel_rfl) (fun _ _ _ h => h) (Or.inl ⟨by rfl, ?_⟩) ?_
  rotate_left
  · intro w; go_simp; with_reducible rfl
  refine wpAny_take (i := 1) (v := ?_) rfl (by kernel_rfl) (by kernel_rfl) (by kernel_rfl) (fun _ _ _ h => h) (Or.inl ⟨by rfl, ?_⟩) ?_
  rotate_left
  · intro w; go_simp; with_reducible rfl
  refine wpAny_take (i := 2) (v := ?_) rfl (by kernel_rfl) (by kernel_rfl) (by kernel_rfl) (fun _ _ _ h => h) (Or.inl ⟨by rfl, ?_⟩) ?_
  rotate_left
  · intro w; go_simp; with_reducible rfl
  refine wpAny_take (i := 3) (v := ?_) rfl (by kernel_rfl) (by kernel_rfl) (by kernel_rfl) (fun _ _ _ h => h) (Or.inl ⟨by rfl, ?_⟩) ?_
  rotate_left
  · intro w; go_simp; with_reducible rfl
  refine wpAny_take (i := 4) (v := ?_) rfl (by kernel_rfl) (by kernel_rfl) (by kernel_rfl) (fun _ _ _ h => h) (Or.inl ⟨by rfl, ?_⟩) ?_
  rotate_left
  · intro w; go_simp; with_reducible rfl
  refine wpAny_ready (rs := [5]) (by kernel_rfl) (by simp) ?_
  refine AllReady.cons rfl (fun K hK => ?_) ?_
  · go_simp
    refine hK _ _ ?_
    clear hK K
    refine wpAny_ready (rs := [6]) (by kernel_rfl) (by simp) ?_
    refine AllReady.cons rfl (fun K hK => ?_) ?_
    · go_simp
      refine (WriteString_any_w w1.heap.size w1.heap.size _ x.hr w4.drew (HW4.out.go ((Below.refl _ _).drew)) (by rw [Lib.byteCells_length]; have h2 := HNn.out; have h3 := HW.out.r; omega) hz4).mono ?_
      rintro e w6 ⟨rfl, hA6, hb46', hO6⟩
      have hb46 : Below w1.heap.size w4 w6 := ((Below.refl _ _).drew).trans hb46'
      have HW6 : Hid (Wr w1.heap.size w1.heap.size (NL ++ x.hr.data.toList) w6) := by rw [Hid, Wr, byteCells_append]; exact .inr hA6
      clear hA6 hO6
      refine hK _ _ ?_
      clear hK K
      refine wpAny_done (by kernel_rfl) ?_ _
      go_wp2_with fail
      refine (String_w w1.heap.size w1.heap.size EB w6 (by rw [HEB.out]; exact HW6.out) (by rw [HEB.out]; exact ne_enc (by have := HNn.out; omega))).mono ?_
      rintro e w7 ⟨rfl, hb7⟩
      go_wp2_with fail
      go_ret2
      exact ⟨rfl, HB0.out.trans ((hb04.trans ((hb46.trans hb7).mono hz1)).mono (by omega))⟩
    exact AllReady.nil
  exact AllReady.nil
set_option maxRecDepth 100000 in
set_option maxHeartbeats 4000000 in
theorem Encode_bkt (x : Sk) (s : SS) (w : World) (hx : s.At w.heap.size w x) (hs : s.Short) (hf : x.fit) (hn : x.num) (hw : x.few) (hok : skOk x = true) (hk : x.kind = 3) :
    Calls Tryz.prog 38 #[.agg #[.int .i64 x.kind, .int .i64 x.level, .slice s.ea s.el s.ec, .int .i64 x.hb, .string x.hr, .int .i64 x.cr, .int .i64 x.cc, .slice s.ca s.cl s.cc, .int .i64 x.gf, .slice s.ga s.gl s.gc]] w fun e w' => e = .returned (.tuple #[.string ⟨(encBytes x).toArray⟩, .int .i64 0]) ∧ Below w.heap.size w w' := by
  obtain ⟨W0, hW0, hX0, hB0, hs0⟩ := boxes1 w #[.int .i64 x.kind, .int .i64 x.level, .slice s.ea s.el s.ec, .int .i64 x.hb, .string x.hr, .int .i64 x.cr, .int .i64 x.cc, .slice s.ca s.cl s.cc, .int .i64 x.gf, .slice s.ga s.gl s.gc] 33
  have c0 : W0.cell? ⟨w.heap.size, 0, none⟩ = some (.int .i64 x.kind) := cCc hX0 0
  have c1 : W0.cell? ⟨w.heap.size, 1, none⟩ = some (.int .i64 x.level) := cCc hX0 1
  have c2 : W0.cell? ⟨w.heap.size, 2, none⟩ = some (.slice s.ea s.el s.ec) := cCc hX0 2
  have c3 : W0.cell? ⟨w.heap.size, 3, none⟩ = some (.int .i64 x.hb) := cCc hX0 3
  have c4 : W0.cell? ⟨w.heap.size, 4, none⟩ = some (.string x.hr) := cCc hX0 4
  have c5 : W0.cell? ⟨w.heap.size, 5, none⟩ = some (.int .i64 x.cr) := cCc hX0 5
  have c6 : W0.cell? ⟨w.heap.size, 6, none⟩ = some (.int .i64 x.cc) := cCc hX0 6
  have c7 : W0.cell? ⟨w.heap.size, 7, none⟩ = some (.slice s.ca s.cl s.cc) := cCc hX0 7
  have c8 : W0.cell? ⟨w.heap.size, 8, none⟩ = some (.int .i64 x.gf) := cCc hX0 8
  have c9 : W0.cell? ⟨w.heap.size, 9, none⟩ = some (.slice s.ga s.gl s.gc) := cCc hX0 9
  have HX : Hid (s.At W0.heap.size W0 x) := hx.go hB0
  have hR := ladder_Right_any x s W0 HX.out hs hf
  rw [hok] at hR
  obtain ⟨hl0, hl1⟩ := ok_level hok
  have HN := Lib.hid hn
  have HW := Lib.hid hw
  have HOK := Lib.hid hok
  have hz0 : w.heap.size < W0.heap.size := by omega
  have HB0 := Lib.hid hB0
  have hle := HX.out.g.1.1
  have HRi : Hid (RiseB 0 x.gl) := ok_riseB hok hk
  have HEB : Hid (encBytes x = numsB [3, x.level] ++ numsB ((s.gl : Int) :: diffsB 0 x.gl)) := by rw [Hid, encBytes]; simp [hk, hle]
  generalize encBytes x = EB at HEB ⊢
  obtain ⟨NL, HNL⟩ : ∃ NL, Hid (numsB [3, x.level] = NL) := ⟨_, rfl⟩
  have HNn : Hid (2 ≤ NL.length ∧ NL.length ≤ 18) := by have h2 := numsB_len [3, x.level]; rw [HNL.out] at h2; exact h2
  rw [HNL.out] at HEB
  rw [hk] at c0 hR hW0 ⊢
  have HLE := Lib.hid hle
  clear hle
  clear hx hs hf hn hw hok hX0 hs0
  go_enter Tryz.func38, Tryz.ntmps38
  go_wp2_with (go_at_call 29; refine hR.mono ?_; rintro e w1 ⟨rfl, hb1⟩; obtain ⟨W2, hW2, hX2, hB2, hs2⟩ := boxes1 w1 #[.pointer none, .slice none 0 0] 131; have hb02 := hb1.trans (hB2.mono hb1.size); obtain ⟨hc2, hd2⟩ := bcell hb02; obtain ⟨W3, hW3, hX3, hB3, hs3⟩ := boxes1 W2 #[.int .u64 3, .int .u64 x.level] 43; replace hs2 : w1.heap.size < W2.heap.size := (by omega); replace hs3 : W2.heap.size < W3.heap.size := (by omega))
  have hz1 := hb1.size
  refine (numbers_any w1.heap.size w1.heap.size [] [3, x.level] (some ⟨W2.heap.size, 0, none⟩) 2 2 W3 ((wr_new hX2).go hB3) (sl_two hX3 (by omega)) (fun n hn => by simp only [List.mem_cons, List.not_mem_nil, or_false] at hn; rcases hn with rfl | rfl <;> (unfold U64; omega)) (by simp) (by omega)).mono ?_
  rintro e w4 ⟨rfl, hW4, hk4⟩
  have hb14 : Below w1.heap.size w1 w4 := (hB2.trans (hB3.mono hB2.size)).trans hk4.1
  have hb04 : Below W0.heap.size W0 w4 := hb1.trans (hb14.mono hz1)
  obtain ⟨hc4, hd4⟩ := bcell hb04
  have HX4 : Hid (∀ w', Below w1.heap.size w4 w' → s.At w'.heap.size w' x) := fun w' hb => HX.out.go (hb04.trans (hb.mono hz1))
  have HW4 : Hid (Wr w1.heap.size w1.heap.size NL w4) := by rw [List.nil_append, HNL.out] at hW4; exact hW4
  have hz4 : w1.heap.size ≤ w4.heap.size := hb14.size
  clear hW2 hW3 hX2 hX3 hW4 hk4 hc2 hd2 hW0
  go_wp2_with fail
  refine (bins_any w1.heap.size w1.heap.size _ x.gl x.gf s.ga s.gl s.gc w4 HW4.out (fun w' h => (HX4.out w' h.1).g.1) HN.out.g HRi.out (by have h3 := HW.out.g; have h4 := HLE.out; omega) (by have h2 := HNn.out; omega) hz4).mono ?_
  rintro e w6 ⟨rfl, hW6, hk6⟩
  have HW6 := Lib.hid hW6
  have hb46 := hk6.1
  clear hW6 hk6
  go_wp2_with fail
  refine (String_w w1.heap.size w1.heap.size EB w6 (by rw [HEB.out]; exact HW6.out) (by rw [HEB.out]; exact ne_enc (by have := HNn.out; omega))).mono ?_
  rintro e w7 ⟨rfl, hb7⟩
  go_wp2_with fail
  go_ret2
  exact ⟨rfl, HB0.out.trans ((hb04.trans ((hb46.trans hb7).mono hz1)).mono (by omega))⟩
set_option maxRecDepth 100000 in
set_option maxHeartbeats 1000000 in
theorem Encode_wrong (x : Sk) (s : SS) (w : World) (hx : s.At w.heap.size w x) (hs : s.Short) (hf : x.fit) (hok : skOk x = false) :
    Calls Tryz.prog 38 #[.agg #[.int .i64 x.kind, .int .i64 x.level, .slice s.ea s.el s.ec, .int .i64 x.hb, .string x.hr, .int .i64 x.cr, .int .i64 x.cc, .slice s.ca s.cl s.cc, .int .i64 x.gf, .slice s.ga s.gl s.gc]] w fun e w' => e = .returned (.tuple #[.string ⟨#[]⟩, .int .i64 100]) ∧ Below w.heap.size w w' := by
  obtain ⟨W0, hW0, hX0, hB0, hs0⟩ := boxes1 w #[.int .i64 x.kind, .int .i64 x.level, .slice s.ea s.el s.ec, .int .i64 x.hb, .string x.hr, .int .i64 x.cr, .int .i64 x.cc, .slice s.ca s.cl s.cc, .int .i64 x.gf, .slice s.ga s.gl s.gc] 33
  have c0 : W0.cell? ⟨w.heap.size, 0, none⟩ = some (.int .i64 x.kind) := cCc hX0 0
  have c1 : W0.cell? ⟨w.heap.size, 1, none⟩ = some (.int .i64 x.level) := cCc hX0 1
  have c2 : W0.cell? ⟨w.heap.size, 2, none⟩ = some (.slice s.ea s.el s.ec) := cCc hX0 2
  have c3 : W0.cell? ⟨w.heap.size, 3, none⟩ = some (.int .i64 x.hb) := cCc hX0 3
  have c4 : W0.cell? ⟨w.heap.size, 4, none⟩ = some (.string x.hr) := cCc hX0 4
  have c5 : W0.cell? ⟨w.heap.size, 5, none⟩ = some (.int .i64 x.cr) := cCc hX0 5
  have c6 : W0.cell? ⟨w.heap.size, 6, none⟩ = some (.int .i64 x.cc) := cCc hX0 6
  have c7 : W0.cell? ⟨w.heap.size, 7, none⟩ = some (.slice s.ca s.cl s.cc) := cCc hX0 7
  have c8 : W0.cell? ⟨w.heap.size, 8, none⟩ = some (.int .i64 x.gf) := cCc hX0 8
  have c9 : W0.cell? ⟨w.heap.size, 9, none⟩ = some (.slice s.ga s.gl s.gc) := cCc hX0 9
  have hR := ladder_Right_any x s W0 (hx.go hB0) hs hf
  rw [hok] at hR
  have hz0 : w.heap.size < W0.heap.size := by omega
  clear hx hs hf hok hX0 hs0
  go_enter Tryz.func38, Tryz.ntmps38
  go_wp2_with (go_at_call 29; refine hR.mono ?_; rintro e w1 ⟨rfl, hb1⟩)
  go_ret2
  exact ⟨rfl, hB0.trans (hb1.mono (by omega))⟩
theorem Encode_any (x : Sk) (s : SS) (w : World) (hx : s.At w.heap.size w x) (hs : s.Short) (hf : x.fit) (hn : x.num) (hw : x.few) :
    Calls Tryz.prog 38 #[.agg #[.int .i64 x.kind, .int .i64 x.level, .slice s.ea s.el s.ec, .int .i64 x.hb, .string x.hr, .int .i64 x.cr, .int .i64 x.cc, .slice s.ca s.cl s.cc, .int .i64 x.gf, .slice s.ga s.gl s.gc]] w fun e w' => e = .returned (.tuple #[.string (encS x), .int .i64 (encE x)]) ∧ Below w.heap.size w w' := by
  cases hok : skOk x with
  | false => rw [encS, encE, hok]; exact Encode_wrong x s w hx hs hf hok
  | true =>
    rw [encS, encE, hok, if_pos rfl, if_pos rfl]
    obtain ⟨⟨k1, k2⟩, -⟩ := ok_parts hok
    by_cases h2 : x.kind = 2
    · exact Encode_cnt x s w hx hs hf hn hw hok h2
    · by_cases h3 : x.kind = 3
      · exact Encode_bkt x s w hx hs hf hn hw hok h3
      · have h1 : x.kind = 1 := by omega
        by_cases hl : x.level = 0
        · exact Encode_exa x s w hx hs hf hn hw hok h1 hl
        · exact Encode_reg x s w hx hs hf hn hw hok h1 hl
end Go.Proofs.YtpnlmfilmbodfaaGreatDoor
namespace Go.Proofs.YtpnlmfilmbodfaaGreatDoor
open Go Go.RowKit
inductive ListR (α : Type) where
  | got (l : List α) (r : List UInt8)
  | more
  | bad
def toI (n : Int) : Int := if n < 9223372036854775808 then n else n - 18446744073709551616
def exG : Nat → Int → List Int → List UInt8 → ListR Int
  | 0, _, acc, l => .got acc l
  | k + 1, last, acc, l => match getN l with
    | .got n r => exG k ((last + n) % 18446744073709551616) (acc ++ [(last + n) % 18446744073709551616]) r
    | .more => .more
    | .bad => .bad
def cnG : Nat → List Int → List UInt8 → ListR Int
  | 0, acc, l => .got acc l
  | k + 1, acc, l => match getN l with
    | .got n r => cnG k (acc ++ [n]) r
    | .more => .more
    | .bad => .bad
def biG : Nat → Int → List (Int × Int) → List UInt8 → ListR (Int × Int)
  | 0, _, acc, l => .got acc l
  | k + 1, at_, acc, l => match getN l with
    | .more => .more
    | .bad => .bad
    | .got m r => match getN r with
      | .more => .more
      | .bad => .bad
      | .got n r2 => biG k ((at_ + m) % 18446744073709551616) (acc ++ [(toI ((at_ + m) % 18446744073709551616), n)]) r2
def cntG (limit : Int) (l : List UInt8) : NumR := match getN l with
  | .got n r => if limit < n then .bad else .got n r
  | .more => .more
  | .bad => .bad
inductive DecR where
  | got (x : Sk) (r : List UInt8)
  | more
  | code
def ListR.dec {α : Type} (f : List α → Sk) : ListR α → DecR
  | .got l r => .got (f l) r
  | .more => .more
  | .bad => .code
def exDec (level : Int) (l : List UInt8) : DecR := match cntG 64 l with
  | .got n r => (exG n.toNat 0 [] r).dec (skNum 1 level)
  | .more => .more
  | .bad => .code
def hlDec (level : Int) (l : List UInt8) : DecR :=
  if (l.length : Int) < 2 ^ (8 - level).toNat then .more else .got (skReg 1 level (8 - level) ⟨(l.take (2 ^ (8 - level).toNat)).toArray⟩) (l.drop (2 ^ (8 - level).toNat))
def cnDec (level : Int) (l : List UInt8) : DecR := (cnG (2 * (32 / 2 ^ level.toNat)) [] l).dec (skCnt 2 level 2 (32 / 2 ^ level.toNat))
def biDec (level : Int) (l : List UInt8) : DecR := match cntG 1000 l with
  | .got n r => (biG n.toNat 0 [] r).dec (skBkt 3 level (3 - level))
  | .more => .more
  | .bad => .code
def bodyDec (kind level : Int) (l : List UInt8) : DecR :=
  if kind = 1 then (if level = 0 then exDec level l else hlDec level l) else if kind = 2 then cnDec level l else biDec level l
def skDec (l : List UInt8) : DecR := match getN l with
  | .more => .more
  | .bad => .code
  | .got kind r => if kind < 1 ∨ 3 < kind then .code else match cntG (bottomB kind) r with
    | .more => .more
    | .bad => .code
    | .got level r2 => bodyDec kind level r2
def decB (l : List UInt8) : DecR := match skDec l with
  | .got x r => if skOk x then .got x r else .code
  | .more => .more
  | .code => .code
theorem numsB_cons (n : Int) (l : List Int) : numsB (n :: l) = numsB [n] ++ numsB l := by rw [← numsB_append]; rfl
theorem getN_nums (n : Int) (l : List Int) (h : U64 n) (r : List UInt8) : getN (numsB (n :: l) ++ r) = .got n (numsB l ++ r) := by
  rw [numsB_cons, List.append_assoc]; exact getN_put n h _
theorem exG_enc : ∀ (e : List Int) (last : Int) (acc : List Int) (r : List UInt8), U64 last → U64s e → Rise last e → exG e.length last acc (numsB (diffs last e) ++ r) = .got (acc ++ e) r
  | [], last, acc, r, _, _, _ => by simp [exG, diffs, numsB]
  | n :: e, last, acc, r, hl, hu, hr => by
    have hn := hu n List.mem_cons_self
    obtain ⟨h1, h2⟩ := hr
    obtain ⟨l0, l1⟩ := hl
    obtain ⟨n0, n1⟩ := hn
    simp only [diffs, List.length_cons, exG]
    rw [getN_nums _ _ ⟨by omega, by omega⟩]
    simp only
    rw [show (last + (n - last)) % 18446744073709551616 = n by omega, exG_enc e n _ r ⟨n0, n1⟩ (fun z hz => hu z (List.mem_cons_of_mem _ hz)) h2, List.append_assoc]
    rfl
theorem cnG_enc : ∀ (e : List Int) (acc : List Int) (r : List UInt8), U64s e → cnG e.length acc (numsB e ++ r) = .got (acc ++ e) r
  | [], acc, r, _ => by simp [cnG, numsB]
  | n :: e, acc, r, hu => by
    simp only [List.length_cons, cnG]
    rw [getN_nums _ _ (hu n List.mem_cons_self)]
    simp only
    rw [cnG_enc e _ r (fun z hz => hu z (List.mem_cons_of_mem _ hz)), List.append_assoc]
    rfl
theorem biG_enc : ∀ (e : List (Int × Int)) (last : Int) (acc : List (Int × Int)) (r : List UInt8), 0 ≤ last → last ≤ 9223372036854775807 → (∀ z ∈ e, I64 z.1 ∧ U64 z.2) → RiseB last e → biG e.length last acc (numsB (diffsB last e) ++ r) = .got (acc ++ e) r
  | [], last, acc, r, _, _, _, _ => by simp [biG, diffsB, numsB]
  | n :: e, last, acc, r, hl, hl1, hu, hr => by
    obtain ⟨⟨n0, n1⟩, hm⟩ := hu n List.mem_cons_self
    obtain ⟨h1, h2⟩ := hr
    simp only [diffsB, List.length_cons, biG]
    rw [getN_nums _ _ ⟨by omega, by omega⟩]
    simp only
    rw [getN_nums _ _ hm]
    simp only
    rw [show (last + (n.1 - last)) % 18446744073709551616 = n.1 by omega, show toI n.1 = n.1 by (unfold toI; rw [if_pos (by omega)]), biG_enc e n.1 _ r (by omega) n1 (fun z hz => hu z (List.mem_cons_of_mem _ hz)) h2, List.append_assoc]
    rfl
theorem skSame_eq {x y : Sk} (h : skSame x y = true) : x = y := by
  simp only [skSame, Bool.and_eq_true, beq_iff_eq] at h
  obtain ⟨⟨⟨⟨⟨h1, h2⟩, h3, h4⟩, h5⟩, ⟨h6, h7⟩, h8⟩, h9, h10⟩ := h
  have h4' : x.hr = y.hr := by
    rw [Lib.toList_data, Lib.toList_data] at h4
    cases hx : x.hr with | mk a => cases hy : y.hr with | mk b =>
    rw [hx, hy] at h4
    rw [show a = b from Array.toList_inj.1 h4]
  cases x; cases y
  simp_all
theorem bottom_u64 (k : Int) : bottomB k ≤ 4 := by
  unfold bottomB
  repeat' split
  all_goals omega
set_option maxRecDepth 100000 in
theorem dec_enc (x : Sk) (hok : skOk x = true) (hn : x.num) (hg : x.gl.length ≤ 1000) (r : List UInt8) : decB (encBytes x ++ r) = .got x r := by
  obtain ⟨⟨k1, k2⟩, ⟨v1, v2⟩, hb, hs⟩ := ok_parts hok
  have v3 := bottom_u64 x.kind
  have hx := skSame_eq hs
  have hsk : skDec (encBytes x ++ r) = .got x r := by
    unfold skDec encBytes
    rw [List.append_assoc, getN_nums _ _ ⟨by omega, by omega⟩]
    simp only
    rw [if_neg (by omega)]
    unfold cntG
    rw [show numsB [x.level] = numsB (x.level :: []) from rfl, getN_nums _ _ ⟨by omega, by omega⟩]
    simp only
    rw [if_neg (by omega)]
    simp only [show numsB [] = [] from rfl, List.nil_append]
    unfold bodyDec
    by_cases c1 : x.kind = 1
    · rw [if_pos c1]
      simp only [show (x.kind == 1) = true by simp [c1], if_true]
      by_cases c2 : x.level = 0
      · rw [if_pos c2]
        simp only [show (x.level == 0) = true by simp [c2], if_true]
        unfold exDec cntG
        have hb' := hb
        simp only [bodyRight, c1, c2] at hb'
        simp [exRight] at hb'
        rw [getN_nums _ _ ⟨by omega, by omega⟩]
        simp only
        rw [if_neg (by omega)]
        simp only
        rw [show ((x.e.length : Int)).toNat = x.e.length by omega, exG_enc x.e 0 [] r ⟨by omega, by omega⟩ hn.e (ok_rise hok c1 c2 hn.e)]
        simp only [ListR.dec, List.nil_append]
        congr 1
        unfold skCanon at hx
        simp only [show (x.kind == 1) = true by simp [c1], show (x.level == 0) = true by simp [c2], if_true] at hx
        exact hx.symm
      · rw [if_neg c2]
        simp only [show (x.level == 0) = false by simp [c2], Bool.false_eq_true, if_false]
        have hb' := hb
        simp only [bodyRight, show (x.kind == 1) = true by simp [c1], show (x.level == 0) = false by simp [c2], Bool.false_eq_true, if_true, if_false, Bool.and_eq_true, hlRight, beq_iff_eq] at hb'
        obtain ⟨⟨⟨-, hz⟩, -⟩, h8⟩ := hb'
        rw [h8] at hz
        have hz' : x.hr.data.toList.length = 2 ^ (8 - x.level).toNat := by
          have : x.hr.data.toList.length = x.hr.size := Array.length_toList
          rw [this]; exact_mod_cast hz
        unfold hlDec
        rw [if_neg (by rw [List.length_append, hz']; have h9 : (0 : Int) ≤ (r.length : Int) := by omega
                       push_cast; omega)]
        rw [← hz', List.take_left, List.drop_left, Array.toArray_toList]
        congr 1
        unfold skCanon at hx
        simp only [show (x.kind == 1) = true by simp [c1], show (x.level == 0) = false by simp [c2], Bool.false_eq_true, if_true, if_false] at hx
        rw [← h8]
        exact hx.symm
    · rw [if_neg c1]
      simp only [show (x.kind == 1) = false by simp [c1], Bool.false_eq_true, if_false]
      by_cases c2 : x.kind = 2
      · rw [if_pos c2]
        simp only [show (x.kind == 2) = true by simp [c2], if_true]
        have hb' := hb
        simp only [bodyRight, show (x.kind == 1) = false by simp [c1], show (x.kind == 2) = true by simp [c2], Bool.false_eq_true, if_true, if_false, Bool.and_eq_true, cmRight, beq_iff_eq] at hb'
        obtain ⟨⟨⟨-, hz⟩, h8⟩, h9⟩ := hb'
        have hz' : x.cl.length = 2 * (32 / 2 ^ x.level.toNat) := by rw [h8, h9] at hz; exact_mod_cast hz
        unfold cnDec
        rw [← hz', cnG_enc x.cl [] r hn.c]
        simp only [ListR.dec, List.nil_append]
        congr 1
        unfold skCanon at hx
        simp only [show (x.kind == 1) = false by simp [c1], show (x.kind == 2) = true by simp [c2], Bool.false_eq_true, if_true, if_false] at hx
        rw [← h9, h8] at *
        exact hx.symm
      · rw [if_neg c2]
        simp only [show (x.kind == 2) = false by simp [c2], Bool.false_eq_true, if_false]
        have c3 : x.kind = 3 := by omega
        have hb' := hb
        simp only [bodyRight, show (x.kind == 1) = false by simp [c1], show (x.kind == 2) = false by simp [c2], Bool.false_eq_true, if_false, Bool.and_eq_true, beq_iff_eq] at hb'
        obtain ⟨-, h8⟩ := hb'
        unfold biDec cntG
        rw [getN_nums _ _ ⟨by omega, by omega⟩]
        simp only
        rw [if_neg (by omega)]
        simp only
        rw [show ((x.gl.length : Int)).toNat = x.gl.length by omega, biG_enc x.gl 0 [] r (by omega) (by omega) hn.g (ok_riseB hok c3)]
        simp only [ListR.dec, List.nil_append]
        congr 1
        unfold skCanon at hx
        simp only [show (x.kind == 1) = false by simp [c1], show (x.kind == 2) = false by simp [c2], Bool.false_eq_true, if_false] at hx
        rw [← h8]
        exact hx.symm
  unfold decB
  rw [hsk]
  simp only [hok, if_true]
theorem exG_inv : ∀ (k : Nat) (last : Int) (acc : List Int) (l : List UInt8) (e : List Int) (r : List UInt8), exG k last acc l = .got e r → U64 last →
    ∃ e', e = acc ++ e' ∧ e'.length = k ∧ U64s e' ∧ (Rise last e' → l = numsB (diffs last e') ++ r)
  | 0, last, acc, l, e, r, h, _ => by
    simp only [exG, ListR.got.injEq] at h
    exact ⟨[], by rw [h.1, List.append_nil], rfl, (fun _ h => by cases h), fun _ => by rw [h.2]; rfl⟩
  | k + 1, last, acc, l, e, r, h, hl => by
    simp only [exG] at h
    cases hg : getN l with
    | more => rw [hg] at h; cases h
    | bad => rw [hg] at h; cases h
    | got n r1 =>
      rw [hg] at h
      simp only at h
      have hl2 := getN_inv hg
      obtain ⟨hn, -⟩ := getN_got hg
      obtain ⟨v, hv⟩ : ∃ v, (last + n) % 18446744073709551616 = v := ⟨_, rfl⟩
      rw [hv] at h
      obtain ⟨l0, l1⟩ := hl
      obtain ⟨n0, n1⟩ := hn
      have hvu : U64 v := ⟨by omega, by omega⟩
      obtain ⟨e', he, hk, hu, hr⟩ := exG_inv k v _ r1 e r h hvu
      refine ⟨v :: e', by rw [he, List.append_assoc]; rfl, by rw [List.length_cons, hk], ?_, ?_⟩
      · intro z hz
        rcases List.mem_cons.1 hz with rfl | hz
        · exact hvu
        · exact hu z hz
      · rintro ⟨h1, h2⟩
        have hnv : n = v - last := by omega
        simp only [diffs]
        rw [numsB_cons, List.append_assoc, ← hr h2, hl2, hnv]
theorem cnG_inv : ∀ (k : Nat) (acc : List Int) (l : List UInt8) (e : List Int) (r : List UInt8), cnG k acc l = .got e r →
    ∃ e', e = acc ++ e' ∧ e'.length = k ∧ U64s e' ∧ l = numsB e' ++ r
  | 0, acc, l, e, r, h => by
    simp only [cnG, ListR.got.injEq] at h
    exact ⟨[], by rw [h.1, List.append_nil], rfl, (fun _ h => by cases h), by rw [h.2]; rfl⟩
  | k + 1, acc, l, e, r, h => by
    simp only [cnG] at h
    cases hg : getN l with
    | more => rw [hg] at h; cases h
    | bad => rw [hg] at h; cases h
    | got n r1 =>
      rw [hg] at h
      simp only at h
      have hl2 := getN_inv hg
      obtain ⟨hn, -⟩ := getN_got hg
      obtain ⟨e', he, hk, hu, hr⟩ := cnG_inv k _ r1 e r h
      refine ⟨n :: e', by rw [he, List.append_assoc]; rfl, by rw [List.length_cons, hk], ?_, ?_⟩
      · intro z hz
        rcases List.mem_cons.1 hz with rfl | hz
        · exact hn
        · exact hu z hz
      · rw [numsB_cons, List.append_assoc, ← hr, hl2]
theorem biG_inv : ∀ (k : Nat) (last : Int) (acc : List (Int × Int)) (l : List UInt8) (e : List (Int × Int)) (r : List UInt8), biG k last acc l = .got e r → U64 last →
    ∃ e', e = acc ++ e' ∧ e'.length = k ∧ (∀ z ∈ e', I64 z.1 ∧ U64 z.2) ∧ (last ≤ 9223372036854775807 → RiseB last e' → l = numsB (diffsB last e') ++ r)
  | 0, last, acc, l, e, r, h, _ => by
    simp only [biG, ListR.got.injEq] at h
    exact ⟨[], by rw [h.1, List.append_nil], rfl, (fun _ h => by cases h), fun _ _ => by rw [h.2]; rfl⟩
  | k + 1, last, acc, l, e, r, h, hl => by
    simp only [biG] at h
    cases hg : getN l with
    | more => rw [hg] at h; cases h
    | bad => rw [hg] at h; cases h
    | got m r1 =>
      rw [hg] at h
      simp only at h
      cases hg2 : getN r1 with
      | more => rw [hg2] at h; cases h
      | bad => rw [hg2] at h; cases h
      | got n r2 =>
        rw [hg2] at h
        simp only at h
        have hl2 := getN_inv hg
        have hl3 := getN_inv hg2
        obtain ⟨hm, -⟩ := getN_got hg
        obtain ⟨hn, -⟩ := getN_got hg2
        obtain ⟨v, hv⟩ : ∃ v, (last + m) % 18446744073709551616 = v := ⟨_, rfl⟩
        rw [hv] at h
        obtain ⟨l0, l1⟩ := hl
        obtain ⟨m0, m1⟩ := hm
        have hvu : U64 v := ⟨by omega, by omega⟩
        obtain ⟨e', he, hk, hu, hr⟩ := biG_inv k v _ r2 e r h hvu
        refine ⟨(toI v, n) :: e', by rw [he, List.append_assoc]; rfl, by rw [List.length_cons, hk], ?_, ?_⟩
        · intro z hz
          rcases List.mem_cons.1 hz with rfl | hz
          · refine ⟨?_, hn⟩
            show I64 (toI v)
            unfold toI I64
            split <;> omega
          · exact hu z hz
        · rintro hl9 ⟨h1, h2⟩
          have hv9 : v < 9223372036854775808 := by
            simp only [toI] at h1
            split at h1 <;> omega
          have ht : toI v = v := by unfold toI; rw [if_pos hv9]
          dsimp only at h1 h2
          rw [ht] at h1 h2 ⊢
          have hnv : m = v - last := by omega
          simp only [diffsB]
          rw [numsB_cons, numsB_cons n, List.append_assoc, List.append_assoc, ← hr (by omega) h2, ← hl3, hl2, hnv]
end Go.Proofs.YtpnlmfilmbodfaaGreatDoor

/- Package field: number, Get. (Printed by gen_w1.py.) Package field: Get, text, GetText. Package wire: the reader: number, atMost, text, ended. -/
import Derived.Test.YtpklkhgnjbopnaaGreatDoorVW8
namespace Go.Proofs.YtpklkhgnjbopnaaGreatDoor
open Go Go.RowKit Go.Shelf
attribute [local go_sem] Oper.semAt_some
def beW : Int → List UInt8 → Int
 | n, [] => n
 | n, b :: r => beW ((n * 256 + b.toNat) % 18446744073709551616) r
theorem beW_snoc : ∀ (l : List UInt8) (n : Int) (b : UInt8), beW n (l ++ [b]) = (beW n l * 256 + b.toNat) % 18446744073709551616
 | [], n, b => rfl
 | c :: l, n, b => by simp only [List.cons_append, beW]; exact beW_snoc l _ b
theorem beW_u64 : ∀ (l : List UInt8) (n : Int), U64 n → U64 (beW n l)
 | [], n, h => h
 | c :: l, n, h => by simp only [beW]; exact beW_u64 l _ ⟨by omega, by omega⟩
theorem beGo_snoc : ∀ (l : List UInt8) (n : Int) (b : UInt8), beGo n (l ++ [b]) = beGo n l * 256 + b.toNat
 | [], n, b => rfl
 | c :: l, n, b => by simp only [List.cons_append, beGo]; exact beGo_snoc l _ b
theorem beW_gen : ∀ (l : List UInt8) (n : Int), 0 ≤ n → (n + 1) * 256 ^ l.length ≤ 18446744073709551616 → beW n l = beGo n l
 | [], n, _, _ => rfl
 | b :: r, n, h, h2 => by
  have hb := UInt8.toNat_lt b
  have h3 : (0 : Int) < 256 ^ r.length := Int.pow_pos (by omega)
  rw [List.length_cons, Int.pow_succ, Int.mul_comm (256 ^ r.length), ← Int.mul_assoc] at h2
  have h4 : (n * 256 + b.toNat + 1) * 256 ^ r.length ≤ (n + 1) * 256 * 256 ^ r.length := Int.mul_le_mul_of_nonneg_right (by omega) (by omega)
  have h5 : (n * 256 + b.toNat + 1) * 1 ≤ (n * 256 + b.toNat + 1) * 256 ^ r.length := Int.mul_le_mul_of_nonneg_left (by omega) (by omega)
  simp only [beW, beGo]
  rw [Int.emod_eq_of_lt (by omega) (by omega)]
  exact beW_gen r _ (by omega) (by omega)
theorem beW_go (l : List UInt8) (h : l.length ≤ 8) : beW 0 l = beGo 0 l := by
 refine beW_gen l 0 (by omega) ?_
 have h3 : (256 : Nat) ^ l.length ≤ 256 ^ 8 := Nat.pow_le_pow_right (by omega) h
 have h4 := Int.ofNat_le.2 h3
 rw [Int.natCast_pow, Int.natCast_pow] at h4
 rw [Int.zero_add, Int.one_mul]
 exact Int.le_trans h4 (by decide)
theorem shl_or (n : Int) (b : Nat) (h : U64 n) (hb : b < 256) : bits .or .u64 ((n * 256) % 18446744073709551616) (b : Int) = (n * 256 + b) % 18446744073709551616 := by
 obtain ⟨h0, h1⟩ := h
 obtain ⟨m, rfl⟩ := Int.eq_ofNat_of_zero_le h0
 have e : ((m : Int) * 256) % 18446744073709551616 = ((m * 256 % 18446744073709551616 : Nat) : Int) := by omega
 rw [e, bits_or_u64_nat _ _ (by omega) (by omega)]
 have e2 : m * 256 % 18446744073709551616 = (m % 72057594037927936) <<< 8 := by rw [Nat.shiftLeft_eq]; omega
 rw [e2, ← Nat.shiftLeft_add_eq_or_of_lt (by omega : b < 2 ^ 8), Nat.shiftLeft_eq]
 omega
theorem extract_tail (s : ByteArray) : (s.extract 1 s.size).data.toList = s.data.toList.drop 1 := by
 rw [ByteArray.data_extract, Array.toList_extract, List.extract_eq_take_drop, List.take_of_length_le (by rw [List.length_drop, Array.length_toList]; exact Nat.le_refl _)]
theorem getN_str (s t : ByteArray) (f : UInt8) (hlt : 0 < s.size) (hf : s[0]'hlt = f) (ht : s.extract 1 s.size = t) : getN s.data.toList = (if t.size < behindN f.toNat then .more else
  if (putNums (rawN f.toNat (t.data.toList.take (behindN f.toNat)))).length = 1 + behindN f.toNat then .got (rawN f.toNat (t.data.toList.take (behindN f.toNat))) (t.data.toList.drop (behindN f.toNat)) else .bad) := by
 have h1 : s.data.toList = f :: t.data.toList := by
  rw [← ht, extract_tail]
  have h2 : 0 < s.data.toList.length := by rw [Array.length_toList]; exact hlt
  have h3 : s.data.toList[0]'h2 = f := by rw [← hf]; rfl
  generalize s.data.toList = q at h2 h3 ⊢
  subst h3
  cases q with
  | nil => exact absurd h2 (by simp)
  | cons a r => rfl
 rw [h1, getN]
 have h4 : t.data.toList.length = t.size := Array.length_toList
 rw [h4]
theorem octs_snd (s : ByteArray) : (octs s).map (·.2) = s.data.toList := by
 apply List.ext_getElem?
 intro i
 by_cases hi : i < s.size
 ·simp [octs, hi]
 ·simp [octs, hi]
theorem octs_done (t : ByteArray) (k : Nat) (hk : k ≤ t.size) (h : ∀ p ∈ octs t, p.1 ≠ k) : (octs t).map (·.2) = t.data.toList.take k := by
 have h1 : ¬ k < t.size := fun hlt => h _ (List.mem_of_getElem? (octs_at t k hlt)) rfl
 rw [octs_snd, List.take_of_length_le (by rw [Array.length_toList]; show t.size ≤ k; omega)]
theorem octs_stop (t : ByteArray) (k : Nat) (pr : List (Nat × UInt8)) (x : Nat × UInt8) (h : pr ++ [x] <+: octs t) (hx : x.1 = k) : pr.map (·.2) = t.data.toList.take k := by
 have h1 : (octs t)[pr.length]? = some x := by
  obtain ⟨r, hr⟩ := h
  rw [← hr, List.append_assoc]; simp
 have h2 : pr.length < t.size := by have := (List.getElem?_eq_some_iff.1 h1).1; rwa [octs_len] at this
 rw [octs_at t _ h2] at h1
 have h3 : pr.length = k := by rw [← hx, ← Option.some.inj h1]
 obtain ⟨r, hr⟩ := h
 have h4 : pr = (octs t).take k := by rw [← hr, ← h3, List.append_assoc, List.take_left]
 rw [h4, List.map_take, octs_snd]
structure NumIn (b k D : Nat) (s : ByteArray) (n : Int) (fm ff : Addr) (w W : World) : Prop where
 size : W.heap[w.heap.size]? = some (.cells #[.int .i64 (k : Int)] 3 (0, 0))
 num : W.heap[w.heap.size + 1]? = some (.cells #[.int .u64 n] 22 (0, 0))
 str : W.heap[b]? = some (.cells #[.string s] 213 (0, 0))
 ge : GF fm ff W
 dfr : W.heap[D]? = some (.deferred (some []))
 below : Below w.heap.size w W
theorem NumIn.go {b k D : Nat} {s : ByteArray} {n : Int} {fm ff : Addr} {w W W' : World} (h : NumIn b k D s n fm ff w W) (hb : Below W.heap.size W W') : NumIn b k D s n fm ff w W' :=
 ⟨known hb (Nat.le_refl _) h.size, known hb (Nat.le_refl _) h.num, known hb (Nat.le_refl _) h.str, h.ge.below hb, known hb (Nat.le_refl _) h.dfr, h.below.trans (hb.mono h.below.size)⟩
theorem NumIn.store {b k D : Nat} {s : ByteArray} {n : Int} {fm ff : Addr} {w W : World} (h : NumIn b k D s n fm ff w W) (hE : GF fm ff w) (hbl : b < w.heap.size) (m : Int) : NumIn b k D s m fm ff w (W.setCell ⟨w.heap.size + 1, 0, none⟩ (.int .u64 m)) := by
 have hb := h.below.setCell (p := ⟨w.heap.size + 1, 0, none⟩) (Nat.le_succ _) (.int .u64 m)
 have hD : D ≠ w.heap.size + 1 := fun e => by have h1 := h.dfr; rw [e, h.num] at h1; cases h1
 exact ⟨(Below.heap_setCell _ _ _ _ (by show w.heap.size ≠ w.heap.size + 1; omega)).trans h.size, one_setCell h.num, (Below.heap_setCell _ _ _ _ (by show b ≠ w.heap.size + 1; omega)).trans h.str, hE.below hb, (Below.heap_setCell _ _ _ _ (by show D ≠ w.heap.size + 1; exact hD)).trans h.dfr, hb⟩
theorem Below.set_both {n b : Nat} {w V : World} (h : Below n w V) (v : Value) : Below n (w.setCell ⟨b, 0, none⟩ v) (V.setCell ⟨b, 0, none⟩ v) := by
 refine ⟨h.os, h.tape, h.output, by simpa using h.size, fun k hk => ?_⟩
 have h1 := h.block k hk
 simp only [World.setCell, Array.getElem?_modify, h1]
theorem extract_drop (s t : ByteArray) (k : Nat) (ht : s.extract 1 s.size = t) : s.extract (1 + k) s.size = ⟨(t.data.toList.drop k).toArray⟩ := by
 have h2 : (s.extract (1 + k) s.size).data.toList = t.data.toList.drop k := by
  rw [← ht, extract_tail, List.drop_drop, ByteArray.data_extract, Array.toList_extract, List.extract_eq_take_drop, List.take_of_length_le (by rw [List.length_drop, Array.length_toList]; exact Nat.le_refl _)]
 rw [← h2, Array.toArray_toList]
theorem strOfNums_size (l : List Int) : (strOfNums l).size = l.length := by
 unfold strOfNums
 show (l.map _).toArray.size = _
 rw [List.size_toArray, List.length_map]
set_option maxRecDepth 100000 in
set_option maxHeartbeats 4000000 in
theorem number_any (b : Nat) (s : ByteArray) (fm ff : Addr) (w : World) (hX : w.heap[b]? = some (.cells #[.string s] 213 (0, 0))) (hl : s.size < 4294967281) (hE : GF fm ff w) :
  Calls Tryz.prog 112 #[.pointer (some ⟨b, 0, none⟩)] w fun e w' => match getN s.data.toList with
   | .got n r => e = .returned (.tuple #[.int .u64 n, .nilIface]) ∧ Below w.heap.size (w.setCell ⟨b, 0, none⟩ (.string ⟨r.toArray⟩)) w'
   | .more => e = .returned (.tuple #[.int .u64 0, errV fm]) ∧ Below w.heap.size w w'
   | .bad => e = .returned (.tuple #[.int .u64 0, errV ff]) ∧ Below w.heap.size w w' := by
 have c0 : w.cell? ⟨b, 0, none⟩ = some (.string s) := cCc hX 0
 have f0 : w.frozen? ⟨b, 0, none⟩ = false := cFz hX 0
 have g0 := hE.efm
 have g1 := hE.eff
 have HE := Lib.hid hE
 have HX := Lib.hid hX
 clear hE hX
 refine calls_marks Tryz.func112 rfl ?_
 simp only [Tryz.ntmps112, List.size_toArray, List.length_cons, List.length_nil, Nat.reduceAdd, Nat.reduceSub, Array.replicate_succ, Array.replicate_zero, List.push_toArray, List.append_toArray, List.nil_append, List.cons_append]
 by_cases hs0 : s.size = 0
 ·have h1 : s.toList.isEmpty = true := by rw [toList_isEmpty, hs0]; rfl
  have h2 : getN s.data.toList = .more := by
   have : s.data.toList = [] := List.eq_nil_of_length_eq_zero (by rw [Array.length_toList]; exact hs0)
   rw [this]; rfl
  rw [h2]
  go_wp2_with fail
  go_step3
  go_wp2_with fail
  go_quiet (fail)
  go_wp2_with fail
  rw [Exit.noGoto_ret]
  refine marks_ret0 (v := .tuple #[.int .u64 0, errV fm]) ?_ rfl ⟨rfl, bDr (Below.refl _ _) _⟩
  simp [results, Tryz.f112, go_sem]
 ·have h1 : s.toList.isEmpty = false := by rw [toList_isEmpty]; simp [hs0]
  have hlt : 0 < s.size := by omega
  obtain ⟨f, hf⟩ : ∃ f : UInt8, s[0]'hlt = f := ⟨_, rfl⟩
  obtain ⟨t, ht⟩ : ∃ t : ByteArray, s.extract 1 s.size = t := ⟨_, rfl⟩
  have hG := getN_str s t f hlt hf ht
  have htz : t.size = s.size - 1 := by rw [← ht]; simp
  have hf8 := UInt8.toNat_lt f
  have hb := behind_any f.toNat w hf8
  have hk8 : behindN f.toNat ≤ 8 := by unfold behindN; (repeat' split) <;> omega
  obtain ⟨k, hk⟩ : ∃ k, behindN f.toNat = k := ⟨_, rfl⟩
  rw [hk] at hb hk8 hG
  have HG := Lib.hid hG
  have HK := Lib.hid hk
  obtain ⟨W1, hW1, hX1, hB1, hs1⟩ := boxes1 w #[.int .i64 (k : Int)] 3
  have c1 : W1.cell? ⟨w.heap.size, 0, none⟩ = some (.int .i64 k) := cCc hX1 0
  have c0' : W1.cell? ⟨b, 0, none⟩ = some (.string s) := cCc (known hB1 (Nat.le_refl _) HX.out) 0
  have g0' : W1.cell? ⟨1, 0, none⟩ = some (errV fm) := (HE.out.below hB1).efm
  clear hk hG
  go_wp2_with fail
  go_step3
  go_wp2_with (go_at_call 142; refine hb.mono ?_; rintro e w1 ⟨rfl, h9⟩; obtain rfl : w = w1 := h9.symm)
  go_quiet (fail)
  by_cases hsz : (s.size : Int) - 1 < k
  ·have hG : getN s.data.toList = .more := by rw [HG.out, if_pos (by omega)]
   have HG2 := Lib.hid hG
   clear hG
   go_wp2_with fail
   go_quiet (fail)
   go_wp2_with fail
   rw [Exit.noGoto_ret]
   refine marks_ret0 (v := .tuple #[.int .u64 0, errV fm]) ?_ rfl (by rw [HG2.out]; exact ⟨rfl, bDr (bDr hB1 _) _⟩)
   simp [results, Tryz.f112, go_sem]
  ·obtain ⟨W2, hW2, hX2, hB2, hs2⟩ := boxes1 (W1.drewN nq) #[.int .u64 0] 22
   have hz1 : (W1.drewN nq).heap.size = w.heap.size + 1 := hs1
   rw [hz1] at hX2 hB2 hs2
   have hX21 : W2.heap[w.heap.size]? = some (.cells #[.int .i64 (k : Int)] 3 (0, 0)) := (hB2.block _ (by omega)).trans hX1
   have hX20 : W2.heap[b]? = some (.cells #[.string s] 213 (0, 0)) := (hB2.mono (Nat.le_succ _)).block b (by have := (Array.getElem?_eq_some_iff.1 HX.out).1; omega) |>.trans (show W1.heap[b]? = _ from known hB1 (Nat.le_refl _) HX.out)
   have e0 : W2.cell? ⟨w.heap.size + 1, 0, none⟩ = some (.int .u64 0) := cCc hX2 0
   have e1 : W2.frozen? ⟨w.heap.size + 1, 0, none⟩ = false := cFz hX2 0
   obtain ⟨V2, hV2, hY2, hYk⟩ : ∃ V, W2.setCell ⟨w.heap.size + 1, 0, none⟩ (.int .u64 0) = V ∧ Boxed V (w.heap.size + 1) 22 (.int .u64 0) ∧ ∀ j, j ≠ w.heap.size + 1 → V.heap[j]? = W2.heap[j]? :=
    ⟨_, rfl, (show Boxed W2 (w.heap.size + 1) 22 (.int .u64 0) from hX2).set _, fun j hj => Below.heap_setCell _ _ _ _ hj⟩
   have hV2z : V2.heap.size = w.heap.size + 2 := by rw [← hV2]; simp; omega
   have hblt : b < w.heap.size := (Array.getElem?_eq_some_iff.1 HX.out).1
   have hY1 : V2.heap[w.heap.size]? = some (.cells #[.int .i64 (k : Int)] 3 (0, 0)) := (hYk _ (by omega)).trans hX21
   have hY0 : V2.heap[b]? = some (.cells #[.string s] 213 (0, 0)) := (hYk _ (by omega)).trans hX20
   have d0 : V2.cell? ⟨b, 0, none⟩ = some (.string s) := cCc hY0 0
   obtain ⟨W3, hW3, hX3, hB3, hs3⟩ := boxes1 V2 #[.string t] 9
   have HW3 := Lib.hid hW3
   clear hW3
   go_wp2_with fail
   apply wp_label
   go_wp2_with (go_at_call 143; refine (octets_any _ _).mono ?_; rintro e w2 ⟨rfl, rfl⟩; rw [HW3.out])
   rw [hV2z] at hX3 hB3 hs3
   have hX31 : W3.heap[w.heap.size]? = some (.cells #[.int .i64 (k : Int)] 3 (0, 0)) := (hB3.block _ (by omega)).trans hY1
   have hX30 : W3.heap[b]? = some (.cells #[.string s] 213 (0, 0)) := (hB3.block _ (by omega)).trans hY0
   have hX32 : Boxed W3 (w.heap.size + 1) 22 (.int .u64 0) := (hB3.block _ (by omega)).trans hY2
   have hBw : Below w.heap.size w W3 := ((hB1.trans (bDr (Below.refl _ _) nq)).trans ((hB2.mono (by omega)).trans (Below.trans (by rw [← hV2]; exact (Below.refl _ W2).setCell (p := ⟨w.heap.size + 1, 0, none⟩) (Nat.le_succ _) _) (hB3.mono (by omega)))))
   have hseq := octets_seq (w.heap.size + 2) t (by omega) W3 hX3
   clear hX1 hX2 hX21 hX20 hY0 hY1 hY2 hYk d0 e0 e1 c1 c0' g0' hW1 hW2 hV2 HW3 hB3 hB2 hB1 hX3
   refine wp_range_brk2 (w.heap.size + 2) 7 8 (fun x : Nat × UInt8 => .int .i64 x.1) (fun x : Nat × UInt8 => .int .u8 x.2.toNat) (gf := 170) (lb := #[.pointer (some ⟨w.heap.size + 2, 0, none⟩)]) rfl (enters_of Tryz.func170 (by kernel_rfl) rfl)
    hseq (by omega) (Below.refl _ _) (fun _ => rfl)
    (fun pre W => W.heap[w.heap.size]? = some (.cells #[.int .i64 (k : Int)] 3 (0, 0)) ∧ Boxed W (w.heap.size + 1) 22 (.int .u64 (beW 0 (pre.map (·.2)))) ∧ (∀ p ∈ pre, p.1 ≠ k) ∧ Below w.heap.size w W)
    (fun pre W => W.heap[w.heap.size]? = some (.cells #[.int .i64 (k : Int)] 3 (0, 0)) ∧ (∃ pr x, pre = pr ++ [x] ∧ x.1 = k ∧ Boxed W (w.heap.size + 1) 22 (.int .u64 (beW 0 (pr.map (·.2))))) ∧ Below w.heap.size w W)
    ((ownCells _ _ (fun _ => #[.int .i64 (k : Int)]) _).and ((ownBox _ _ _ (fun pre : List (Nat × UInt8) => .int .u64 (beW 0 (pre.map (·.2))))).and ((ownFrom_pure _ _).and (ownFrom_below (Nat.le_refl _) hBw.size))))
    ((ownCells _ _ (fun _ => #[.int .i64 (k : Int)]) _).and (OwnFrom.and (fun s X Y row hs hg hr => by obtain ⟨pr, x, h1, h2, h3⟩ := hs; exact ⟨pr, x, h1, h2, ownBox _ _ _ (fun _ => .int .u64 (beW 0 (pr.map (·.2)))) s X Y row h3 hg hr⟩) (ownFrom_below (Nat.le_refl _) hBw.size)))
    ⟨hX31, hX32, (fun _ h => by cases h), hBw⟩ ?assign ?body ?fin
   case assign =>
    rintro l pre x W K hI hK
    simp only [List.zip_toArray, List.zip_cons_cons, List.zip_nil_right, List.size_toArray, List.foldl_toArray', List.foldl_cons, List.foldl_nil, List.setIfInBounds_toArray, List.set_cons_succ, List.set_cons_zero] at hK ⊢
    gi_wp2
    exact hI
   case body =>
    rintro l pre x W ⟨hx1, hx2, hne, hB⟩ hlt
    simp only [List.zip_toArray, List.zip_cons_cons, List.zip_nil_right, List.size_toArray, List.foldl_toArray', List.foldl_cons, List.foldl_nil, List.setIfInBounds_toArray, List.set_cons_succ, List.set_cons_zero]
    have c0 : W.cell? ⟨w.heap.size, 0, none⟩ = some (.int .i64 k) := cCc hx1 0
    have c1 := hx2.cell
    have c2 := hx2.frozen
    obtain ⟨n, hn⟩ : ∃ n, beW 0 (pre.map (·.2)) = n := ⟨_, rfl⟩
    have hun : U64 n := by rw [← hn]; exact beW_u64 _ 0 ⟨by omega, by omega⟩
    rw [hn] at c1
    have HN := Lib.hid hn
    have HNE := Lib.hid hne
    have HX1 := Lib.hid hx1
    have HX2 := Lib.hid hx2
    have HSO := Lib.hid (shl_or n x.2.toNat hun (UInt8.toNat_lt _))
    have hx8 := UInt8.toNat_lt x.2
    obtain ⟨hn0, hn1⟩ := hun
    clear hn hne hx1 hx2
    by_cases hxk : (x.1 : Int) = k
    ·gi_wp2_with fail
     exact ⟨KeepsFrom.refl _ _, rfl, HX1.out, ⟨pre, x, rfl, by omega, HX2.out⟩, hB⟩
    ·gi_wp2_with fail
     refine ⟨(KeepsOthers.setCell _ _ _).from _, fun o ho => (Below.heap_setCell _ _ _ _ (by show w.heap.size + 2 ≠ w.heap.size + 1; omega)).trans ho, (Below.heap_setCell _ _ _ _ (by show w.heap.size ≠ w.heap.size + 1; omega)).trans HX1.out, ?_, ?_, hB.setCell (p := ⟨w.heap.size + 1, 0, none⟩) (Nat.le_succ _) _⟩
     ·rw [IntKind.wrap_u64, HSO.out, List.map_append, List.map_singleton, beW_snoc, HN.out]
      exact HX2.out.set _
     ·intro p hp
      rcases List.mem_append.1 hp with hp | hp
      ·exact HNE.out p hp
      ·rw [List.mem_singleton.1 hp]; omega
   case fin =>
    intro D W hD hI hK
    obtain ⟨ts, hts⟩ : ∃ ts, t.data.toList.take k = ts := ⟨_, rfl⟩
    have htl : ts.length = k := by rw [← hts, List.length_take, Array.length_toList]; show min k t.size = k; omega
    have hI2 : NumIn b k D s (beGo 0 ts) fm ff w W := by
     have hv : beW 0 ts = beGo 0 ts := beW_go ts (by omega)
     rcases hI with ⟨h1, h2, h3, h4⟩ | ⟨pre, hp, h1, ⟨pr, x, rfl, hx, h2⟩, h4⟩
     ·rw [octs_done t k (by omega) h3, hts, hv] at h2
      exact ⟨h1, h2, known h4 (Nat.le_refl _) HX.out, HE.out.below h4, hK, h4⟩
     ·rw [octs_stop t k pr x hp hx, hts, hv] at h2
      exact ⟨h1, h2, known h4 (Nat.le_refl _) HX.out, HE.out.below h4, hK, h4⟩
    have hDs : w.heap.size ≤ D := Nat.le_trans hBw.size hD
    have HDs := Lib.hid hDs
    clear hI hK hX31 hX30 hX32 hBw hs1 hs2 hz1 hs3 hV2z hseq
    have HG3 := Lib.hid (HG.out.trans (if_neg (by omega)))
    rw [hts] at HG3
    have hbg := beGo_le ts 0 (by omega)
    rw [htl] at hbg
    obtain ⟨v, hv⟩ : ∃ v, beGo 0 ts = v := ⟨_, rfl⟩
    rw [hv] at hI2 hbg
    have HU := Lib.hid (rawN_u64 f ts (by rw [htl, HK.out]))
    have HI := Lib.hid hI2
    have c0 : W.cell? ⟨w.heap.size + 1, 0, none⟩ = some (.int .u64 v) := cCc hI2.num 0
    have c1 : W.frozen? ⟨w.heap.size + 1, 0, none⟩ = false := cFz hI2.num 0
    clear hI2 HG
    obtain ⟨nn, hnn⟩ : ∃ nn, rawN f.toNat ts = nn := ⟨_, rfl⟩
    rw [hnn] at HG3 HU
    have HNN := Lib.hid hnn
    by_cases f0 : f.toNat ≤ 240
    ·have e9 : (f.toNat : Int) = nn := by rw [← hnn]; unfold rawN; rw [if_pos f0]
     have hI0 : Hid (NumIn b k D s nn fm ff w (W.setCell ⟨w.heap.size + 1, 0, none⟩ (.int .u64 nn))) := HI.out.store HE.out hblt _
     obtain ⟨Wx, hWx⟩ : ∃ Wx, W.setCell ⟨w.heap.size + 1, 0, none⟩ (.int .u64 nn) = Wx := ⟨_, rfl⟩
     rw [hWx] at hI0
     clear hnn
     go_wp2_with fail
     let Inv : World → Prop := NumIn b k D s nn fm ff w
     have hgo : ∀ W W', Inv W → Below W.heap.size W W' → Inv W' := fun W W' h hb => NumIn.go h hb
     have q0 : ∀ X : WIn Inv, X.world.cell? ⟨w.heap.size, 0, none⟩ = some (.int .i64 (k : Int)) := fun X => cCc (NumIn.size X.ok) 0
     have q1 : ∀ X : WIn Inv, X.world.cell? ⟨w.heap.size + 1, 0, none⟩ = some (.int .u64 nn) := fun X => cCc (NumIn.num X.ok) 0
     have q2 : ∀ X : WIn Inv, X.world.cell? ⟨b, 0, none⟩ = some (.string s) := fun X => cCc (NumIn.str X.ok) 0
     have q3 : ∀ X : WIn Inv, X.world.frozen? ⟨b, 0, none⟩ = false := fun X => cFz (NumIn.str X.ok) 0
     have q4 : ∀ X : WIn Inv, X.world.cell? ⟨2, 0, none⟩ = some (errV ff) := fun X => (NumIn.ge X.ok).eff
     have HQ : Hid (∀ X : WIn Inv, NumIn b k D s nn fm ff w X.world) := fun X => X.ok
     have K1 : Hid (∀ X : WIn Inv, Calls Tryz.prog 50 #[.int .u64 nn] X.world fun e w' => e = .returned (.string (strOfNums (putNums nn))) ∧ ∃ Y : WIn Inv, w' = Y.world) := fun X => calls_class_below hgo (field_Put_any nn X.world HU.out)
     obtain ⟨ps, hps⟩ : ∃ ps, strOfNums (putNums nn) = ps := ⟨_, rfl⟩
     have hpz : ps.size = (putNums nn).length := by rw [← hps, strOfNums_size]
     rw [hps] at K1
     obtain ⟨m, hm⟩ : ∃ m, (putNums nn).length = m := ⟨_, rfl⟩
     rw [hm] at hpz HG3
     have hI1 : Hid (Inv Wx.drew) := hI0.out.go (Below.refl _ _).drew
     have hne : Nonempty (WIn Inv) := ⟨⟨_, hI1.out⟩⟩
     clear hps hm hgo HI c0 c1
     clear_value Inv
     refine wp_region_class Inv (by kernel_rfl) (by kernel_rfl) hI1.out ?_
     repeat (first | go_big_quiet_step ((go_at_call 50; with_reducible exact K1.out _)) | quiet_step ((go_at_call 50; with_reducible exact K1.out _)))
     refine wpQuiet_nil ?_
     rintro _ ⟨X, rfl⟩
     have HX9 := Lib.hid (HQ.out X)
     obtain ⟨V, hV⟩ : ∃ V, X.world = V := ⟨_, rfl⟩
     have r0 : V.cell? ⟨w.heap.size, 0, none⟩ = some (.int .i64 (k : Int)) := by rw [← hV]; exact q0 X
     have r2 : V.cell? ⟨b, 0, none⟩ = some (.string s) := by rw [← hV]; exact q2 X
     have r3 : V.frozen? ⟨b, 0, none⟩ = false := by rw [← hV]; exact q3 X
     have r1 : V.cell? ⟨w.heap.size + 1, 0, none⟩ = some (.int .u64 nn) := by rw [← hV]; exact q1 X
     have r4 : V.cell? ⟨2, 0, none⟩ = some (errV ff) := by rw [← hV]; exact q4 X
     rw [hV] at HX9 ⊢
     clear q0 q1 q2 q3 q4 HQ K1 hI0 hI1 hne hWx hV X
     by_cases hm9 : m = 1 + k
     ·have HG9 := Lib.hid (HG3.out.trans (if_pos hm9))
      have hz9 : ((m : Int) != 1 + k) = false := by rw [hm9]; simp
      clear hpz hm9
      go_wp2_with fail
      have b2 : V.cell? ⟨w.heap.size + 1, 0, none⟩ = some (.int .u64 nn) := cCc HX9.out.num 0
      clear r1 r4
      go_region
      have HSL := Lib.hid (extract_drop s t k ht)
      go_wp2_with fail
      rw [Exit.noGoto_ret, HSL.out]
      have hK9 : (V.setCell ⟨b, 0, none⟩ (.string ⟨(t.data.toList.drop k).toArray⟩)).drew.heap[D]? = some (.deferred (some [])) := (Below.heap_setCell _ _ _ _ (by show D ≠ b; omega)).trans HX9.out.dfr
      refine marks_ret1 (v := .tuple #[.int .u64 nn, .nilIface]) hK9 ?_ (by rw [HG9.out]; exact ⟨rfl, bPutD ((Below.set_both HX9.out.below _).drew) HDs.out hK9⟩)
      simp [results, Tryz.f112, go_sem]
     ·have HG9 := Lib.hid (HG3.out.trans (if_neg hm9))
      have hz9 : ((m : Int) != 1 + k) = true := by rw [bne_iff_ne]; omega
      clear hpz hm9
      go_wp2_with fail
      go_quiet (fail)
      go_wp2_with fail
      rw [Exit.noGoto_ret]
      have hK9 : (V.drewN nq).heap[D]? = some (.deferred (some [])) := HX9.out.dfr
      refine marks_ret1 (v := .tuple #[.int .u64 0, errV ff]) hK9 ?_ (by rw [HG9.out]; exact ⟨rfl, bPutD (bDr HX9.out.below _) HDs.out hK9⟩)
      simp [results, Tryz.f112, go_sem]
    by_cases f1 : f.toNat ≤ 248
    ·have hk1 : k = 1 := by rw [← HK.out]; unfold behindN; rw [if_neg f0, if_pos f1]
     have e9 : v + (240 + 256 * ((f.toNat : Int) - 241)) = nn := by rw [← hnn]; unfold rawN; rw [if_neg f0, if_pos f1, hv]
     have hv0 : 0 ≤ v := hbg.1
     have hv1 : v ≤ 255 := by have := hbg.2; rw [hk1] at this; omega
     have hI0 : Hid (NumIn b k D s nn fm ff w (W.setCell ⟨w.heap.size + 1, 0, none⟩ (.int .u64 nn))) := HI.out.store HE.out hblt _
     obtain ⟨Wx, hWx⟩ : ∃ Wx, W.setCell ⟨w.heap.size + 1, 0, none⟩ (.int .u64 nn) = Wx := ⟨_, rfl⟩
     rw [hWx] at hI0
     clear hnn hbg hk1
     go_wp2_with fail
     let Inv : World → Prop := NumIn b k D s nn fm ff w
     have hgo : ∀ W W', Inv W → Below W.heap.size W W' → Inv W' := fun W W' h hb => NumIn.go h hb
     have q0 : ∀ X : WIn Inv, X.world.cell? ⟨w.heap.size, 0, none⟩ = some (.int .i64 (k : Int)) := fun X => cCc (NumIn.size X.ok) 0
     have q1 : ∀ X : WIn Inv, X.world.cell? ⟨w.heap.size + 1, 0, none⟩ = some (.int .u64 nn) := fun X => cCc (NumIn.num X.ok) 0
     have q2 : ∀ X : WIn Inv, X.world.cell? ⟨b, 0, none⟩ = some (.string s) := fun X => cCc (NumIn.str X.ok) 0
     have q3 : ∀ X : WIn Inv, X.world.frozen? ⟨b, 0, none⟩ = false := fun X => cFz (NumIn.str X.ok) 0
     have q4 : ∀ X : WIn Inv, X.world.cell? ⟨2, 0, none⟩ = some (errV ff) := fun X => (NumIn.ge X.ok).eff
     have HQ : Hid (∀ X : WIn Inv, NumIn b k D s nn fm ff w X.world) := fun X => X.ok
     have K1 : Hid (∀ X : WIn Inv, Calls Tryz.prog 50 #[.int .u64 nn] X.world fun e w' => e = .returned (.string (strOfNums (putNums nn))) ∧ ∃ Y : WIn Inv, w' = Y.world) := fun X => calls_class_below hgo (field_Put_any nn X.world HU.out)
     obtain ⟨ps, hps⟩ : ∃ ps, strOfNums (putNums nn) = ps := ⟨_, rfl⟩
     have hpz : ps.size = (putNums nn).length := by rw [← hps, strOfNums_size]
     rw [hps] at K1
     obtain ⟨m, hm⟩ : ∃ m, (putNums nn).length = m := ⟨_, rfl⟩
     rw [hm] at hpz HG3
     have hI1 : Hid (Inv Wx.drew) := hI0.out.go (Below.refl _ _).drew
     have hne : Nonempty (WIn Inv) := ⟨⟨_, hI1.out⟩⟩
     clear hps hm hgo HI c0 c1
     clear_value Inv
     refine wp_region_class Inv (by kernel_rfl) (by kernel_rfl) hI1.out ?_
     repeat (first | go_big_quiet_step ((go_at_call 50; with_reducible exact K1.out _)) | quiet_step ((go_at_call 50; with_reducible exact K1.out _)))
     refine wpQuiet_nil ?_
     rintro _ ⟨X, rfl⟩
     have HX9 := Lib.hid (HQ.out X)
     obtain ⟨V, hV⟩ : ∃ V, X.world = V := ⟨_, rfl⟩
     have r0 : V.cell? ⟨w.heap.size, 0, none⟩ = some (.int .i64 (k : Int)) := by rw [← hV]; exact q0 X
     have r2 : V.cell? ⟨b, 0, none⟩ = some (.string s) := by rw [← hV]; exact q2 X
     have r3 : V.frozen? ⟨b, 0, none⟩ = false := by rw [← hV]; exact q3 X
     have r1 : V.cell? ⟨w.heap.size + 1, 0, none⟩ = some (.int .u64 nn) := by rw [← hV]; exact q1 X
     have r4 : V.cell? ⟨2, 0, none⟩ = some (errV ff) := by rw [← hV]; exact q4 X
     rw [hV] at HX9 ⊢
     clear q0 q1 q2 q3 q4 HQ K1 hI0 hI1 hne hWx hV X
     by_cases hm9 : m = 1 + k
     ·have HG9 := Lib.hid (HG3.out.trans (if_pos hm9))
      have hz9 : ((m : Int) != 1 + k) = false := by rw [hm9]; simp
      clear hpz hm9
      go_wp2_with fail
      have b2 : V.cell? ⟨w.heap.size + 1, 0, none⟩ = some (.int .u64 nn) := cCc HX9.out.num 0
      clear r1 r4
      go_region
      have HSL := Lib.hid (extract_drop s t k ht)
      go_wp2_with fail
      rw [Exit.noGoto_ret, HSL.out]
      have hK9 : (V.setCell ⟨b, 0, none⟩ (.string ⟨(t.data.toList.drop k).toArray⟩)).drew.heap[D]? = some (.deferred (some [])) := (Below.heap_setCell _ _ _ _ (by show D ≠ b; omega)).trans HX9.out.dfr
      refine marks_ret1 (v := .tuple #[.int .u64 nn, .nilIface]) hK9 ?_ (by rw [HG9.out]; exact ⟨rfl, bPutD ((Below.set_both HX9.out.below _).drew) HDs.out hK9⟩)
      simp [results, Tryz.f112, go_sem]
     ·have HG9 := Lib.hid (HG3.out.trans (if_neg hm9))
      have hz9 : ((m : Int) != 1 + k) = true := by rw [bne_iff_ne]; omega
      clear hpz hm9
      go_wp2_with fail
      go_quiet (fail)
      go_wp2_with fail
      rw [Exit.noGoto_ret]
      have hK9 : (V.drewN nq).heap[D]? = some (.deferred (some [])) := HX9.out.dfr
      refine marks_ret1 (v := .tuple #[.int .u64 0, errV ff]) hK9 ?_ (by rw [HG9.out]; exact ⟨rfl, bPutD (bDr HX9.out.below _) HDs.out hK9⟩)
      simp [results, Tryz.f112, go_sem]
    by_cases f2 : f.toNat = 249
    ·have hk1 : k = 2 := by rw [← HK.out]; unfold behindN; rw [if_neg f0, if_neg f1, if_pos f2]
     have e9 : v + 2288 = nn := by rw [← hnn]; unfold rawN; rw [if_neg f0, if_neg f1, if_pos f2, hv]
     have hv0 : 0 ≤ v := hbg.1
     have hv1 : v ≤ 65535 := by have := hbg.2; rw [hk1] at this; omega
     have hq1 : decide ((f.toNat : Int) ≤ 240) = false := by simp; omega
     have hq2 : decide ((f.toNat : Int) ≤ 248) = false := by simp; omega
     have hq3 : ((f.toNat : Int) == 249) = true := by simp; omega
     have hI0 : Hid (NumIn b k D s nn fm ff w (W.setCell ⟨w.heap.size + 1, 0, none⟩ (.int .u64 nn))) := HI.out.store HE.out hblt _
     obtain ⟨Wx, hWx⟩ : ∃ Wx, W.setCell ⟨w.heap.size + 1, 0, none⟩ (.int .u64 nn) = Wx := ⟨_, rfl⟩
     rw [hWx] at hI0
     clear hnn hbg hk1
     go_wp2_with fail
     let Inv : World → Prop := NumIn b k D s nn fm ff w
     have hgo : ∀ W W', Inv W → Below W.heap.size W W' → Inv W' := fun W W' h hb => NumIn.go h hb
     have q0 : ∀ X : WIn Inv, X.world.cell? ⟨w.heap.size, 0, none⟩ = some (.int .i64 (k : Int)) := fun X => cCc (NumIn.size X.ok) 0
     have q1 : ∀ X : WIn Inv, X.world.cell? ⟨w.heap.size + 1, 0, none⟩ = some (.int .u64 nn) := fun X => cCc (NumIn.num X.ok) 0
     have q2 : ∀ X : WIn Inv, X.world.cell? ⟨b, 0, none⟩ = some (.string s) := fun X => cCc (NumIn.str X.ok) 0
     have q3 : ∀ X : WIn Inv, X.world.frozen? ⟨b, 0, none⟩ = false := fun X => cFz (NumIn.str X.ok) 0
     have q4 : ∀ X : WIn Inv, X.world.cell? ⟨2, 0, none⟩ = some (errV ff) := fun X => (NumIn.ge X.ok).eff
     have HQ : Hid (∀ X : WIn Inv, NumIn b k D s nn fm ff w X.world) := fun X => X.ok
     have K1 : Hid (∀ X : WIn Inv, Calls Tryz.prog 50 #[.int .u64 nn] X.world fun e w' => e = .returned (.string (strOfNums (putNums nn))) ∧ ∃ Y : WIn Inv, w' = Y.world) := fun X => calls_class_below hgo (field_Put_any nn X.world HU.out)
     obtain ⟨ps, hps⟩ : ∃ ps, strOfNums (putNums nn) = ps := ⟨_, rfl⟩
     have hpz : ps.size = (putNums nn).length := by rw [← hps, strOfNums_size]
     rw [hps] at K1
     obtain ⟨m, hm⟩ : ∃ m, (putNums nn).length = m := ⟨_, rfl⟩
     rw [hm] at hpz HG3
     have hI1 : Hid (Inv Wx.drew) := hI0.out.go (Below.refl _ _).drew
     have hne : Nonempty (WIn Inv) := ⟨⟨_, hI1.out⟩⟩
     clear hps hm hgo HI c0 c1
     clear_value Inv
     refine wp_region_class Inv (by kernel_rfl) (by kernel_rfl) hI1.out ?_
     repeat (first | go_big_quiet_step ((go_at_call 50; with_reducible exact K1.out _)) | quiet_step ((go_at_call 50; with_reducible exact K1.out _)))
     refine wpQuiet_nil ?_
     rintro _ ⟨X, rfl⟩
     have HX9 := Lib.hid (HQ.out X)
     obtain ⟨V, hV⟩ : ∃ V, X.world = V := ⟨_, rfl⟩
     have r0 : V.cell? ⟨w.heap.size, 0, none⟩ = some (.int .i64 (k : Int)) := by rw [← hV]; exact q0 X
     have r2 : V.cell? ⟨b, 0, none⟩ = some (.string s) := by rw [← hV]; exact q2 X
     have r3 : V.frozen? ⟨b, 0, none⟩ = false := by rw [← hV]; exact q3 X
     have r1 : V.cell? ⟨w.heap.size + 1, 0, none⟩ = some (.int .u64 nn) := by rw [← hV]; exact q1 X
     have r4 : V.cell? ⟨2, 0, none⟩ = some (errV ff) := by rw [← hV]; exact q4 X
     rw [hV] at HX9 ⊢
     clear q0 q1 q2 q3 q4 HQ K1 hI0 hI1 hne hWx hV X
     by_cases hm9 : m = 1 + k
     ·have HG9 := Lib.hid (HG3.out.trans (if_pos hm9))
      have hz9 : ((m : Int) != 1 + k) = false := by rw [hm9]; simp
      clear hpz hm9
      go_wp2_with fail
      have b2 : V.cell? ⟨w.heap.size + 1, 0, none⟩ = some (.int .u64 nn) := cCc HX9.out.num 0
      clear r1 r4
      go_region
      have HSL := Lib.hid (extract_drop s t k ht)
      go_wp2_with fail
      rw [Exit.noGoto_ret, HSL.out]
      have hK9 : (V.setCell ⟨b, 0, none⟩ (.string ⟨(t.data.toList.drop k).toArray⟩)).drew.heap[D]? = some (.deferred (some [])) := (Below.heap_setCell _ _ _ _ (by show D ≠ b; omega)).trans HX9.out.dfr
      refine marks_ret1 (v := .tuple #[.int .u64 nn, .nilIface]) hK9 ?_ (by rw [HG9.out]; exact ⟨rfl, bPutD ((Below.set_both HX9.out.below _).drew) HDs.out hK9⟩)
      simp [results, Tryz.f112, go_sem]
     ·have HG9 := Lib.hid (HG3.out.trans (if_neg hm9))
      have hz9 : ((m : Int) != 1 + k) = true := by rw [bne_iff_ne]; omega
      clear hpz hm9
      go_wp2_with fail
      go_quiet (fail)
      go_wp2_with fail
      rw [Exit.noGoto_ret]
      have hK9 : (V.drewN nq).heap[D]? = some (.deferred (some [])) := HX9.out.dfr
      refine marks_ret1 (v := .tuple #[.int .u64 0, errV ff]) hK9 ?_ (by rw [HG9.out]; exact ⟨rfl, bPutD (bDr HX9.out.below _) HDs.out hK9⟩)
      simp [results, Tryz.f112, go_sem]
    ·have e9 : v = nn := by rw [← hnn]; unfold rawN; rw [if_neg f0, if_neg f1, if_neg f2, hv]
     have hq1 : decide ((f.toNat : Int) ≤ 240) = false := by simp; omega
     have hq2 : decide ((f.toNat : Int) ≤ 248) = false := by simp; omega
     have hq3 : ((f.toNat : Int) == 249) = false := by simp; omega
     rw [e9] at HI
     obtain ⟨Wx, hWx⟩ : ∃ Wx, W = Wx := ⟨_, rfl⟩
     have hI0 := HI
     rw [hWx] at hI0
     clear hnn hbg
     go_wp2_with fail
     let Inv : World → Prop := NumIn b k D s nn fm ff w
     have hgo : ∀ W W', Inv W → Below W.heap.size W W' → Inv W' := fun W W' h hb => NumIn.go h hb
     have q0 : ∀ X : WIn Inv, X.world.cell? ⟨w.heap.size, 0, none⟩ = some (.int .i64 (k : Int)) := fun X => cCc (NumIn.size X.ok) 0
     have q1 : ∀ X : WIn Inv, X.world.cell? ⟨w.heap.size + 1, 0, none⟩ = some (.int .u64 nn) := fun X => cCc (NumIn.num X.ok) 0
     have q2 : ∀ X : WIn Inv, X.world.cell? ⟨b, 0, none⟩ = some (.string s) := fun X => cCc (NumIn.str X.ok) 0
     have q3 : ∀ X : WIn Inv, X.world.frozen? ⟨b, 0, none⟩ = false := fun X => cFz (NumIn.str X.ok) 0
     have q4 : ∀ X : WIn Inv, X.world.cell? ⟨2, 0, none⟩ = some (errV ff) := fun X => (NumIn.ge X.ok).eff
     have HQ : Hid (∀ X : WIn Inv, NumIn b k D s nn fm ff w X.world) := fun X => X.ok
     have K1 : Hid (∀ X : WIn Inv, Calls Tryz.prog 50 #[.int .u64 nn] X.world fun e w' => e = .returned (.string (strOfNums (putNums nn))) ∧ ∃ Y : WIn Inv, w' = Y.world) := fun X => calls_class_below hgo (field_Put_any nn X.world HU.out)
     obtain ⟨ps, hps⟩ : ∃ ps, strOfNums (putNums nn) = ps := ⟨_, rfl⟩
     have hpz : ps.size = (putNums nn).length := by rw [← hps, strOfNums_size]
     rw [hps] at K1
     obtain ⟨m, hm⟩ : ∃ m, (putNums nn).length = m := ⟨_, rfl⟩
     rw [hm] at hpz HG3
     have hI1 : Hid (Inv Wx.drew) := hI0.out.go (Below.refl _ _).drew
     have hne : Nonempty (WIn Inv) := ⟨⟨_, hI1.out⟩⟩
     clear hps hm hgo HI c0 c1
     clear_value Inv
     refine wp_region_class Inv (by kernel_rfl) (by kernel_rfl) hI1.out ?_
     repeat (first | go_big_quiet_step ((go_at_call 50; with_reducible exact K1.out _)) | quiet_step ((go_at_call 50; with_reducible exact K1.out _)))
     refine wpQuiet_nil ?_
     rintro _ ⟨X, rfl⟩
     have HX9 := Lib.hid (HQ.out X)
     obtain ⟨V, hV⟩ : ∃ V, X.world = V := ⟨_, rfl⟩
     have r0 : V.cell? ⟨w.heap.size, 0, none⟩ = some (.int .i64 (k : Int)) := by rw [← hV]; exact q0 X
     have r2 : V.cell? ⟨b, 0, none⟩ = some (.string s) := by rw [← hV]; exact q2 X
     have r3 : V.frozen? ⟨b, 0, none⟩ = false := by rw [← hV]; exact q3 X
     have r1 : V.cell? ⟨w.heap.size + 1, 0, none⟩ = some (.int .u64 nn) := by rw [← hV]; exact q1 X
     have r4 : V.cell? ⟨2, 0, none⟩ = some (errV ff) := by rw [← hV]; exact q4 X
     rw [hV] at HX9 ⊢
     clear q0 q1 q2 q3 q4 HQ K1 hI0 hI1 hne hWx hV X
     by_cases hm9 : m = 1 + k
     ·have HG9 := Lib.hid (HG3.out.trans (if_pos hm9))
      have hz9 : ((m : Int) != 1 + k) = false := by rw [hm9]; simp
      clear hpz hm9
      go_wp2_with fail
      have b2 : V.cell? ⟨w.heap.size + 1, 0, none⟩ = some (.int .u64 nn) := cCc HX9.out.num 0
      clear r1 r4
      go_region
      have HSL := Lib.hid (extract_drop s t k ht)
      go_wp2_with fail
      rw [Exit.noGoto_ret, HSL.out]
      have hK9 : (V.setCell ⟨b, 0, none⟩ (.string ⟨(t.data.toList.drop k).toArray⟩)).drew.heap[D]? = some (.deferred (some [])) := (Below.heap_setCell _ _ _ _ (by show D ≠ b; omega)).trans HX9.out.dfr
      refine marks_ret1 (v := .tuple #[.int .u64 nn, .nilIface]) hK9 ?_ (by rw [HG9.out]; exact ⟨rfl, bPutD ((Below.set_both HX9.out.below _).drew) HDs.out hK9⟩)
      simp [results, Tryz.f112, go_sem]
     ·have HG9 := Lib.hid (HG3.out.trans (if_neg hm9))
      have hz9 : ((m : Int) != 1 + k) = true := by rw [bne_iff_ne]; omega
      clear hpz hm9
      go_wp2_with fail
      go_quiet (fail)
      go_wp2_with fail
      rw [Exit.noGoto_ret]
      have hK9 : (V.drewN nq).heap[D]? = some (.deferred (some [])) := HX9.out.dfr
      refine marks_ret1 (v := .tuple #[.int .u64 0, errV ff]) hK9 ?_ (by rw [HG9.out]; exact ⟨rfl, bPutD (bDr HX9.out.below _) HDs.out hK9⟩)
      simp [results, Tryz.f112, go_sem]
end Go.Proofs.YtpklkhgnjbopnaaGreatDoor
namespace Go.Proofs.YtpklkhgnjbopnaaGreatDoor
open Go Go.RowKit Go.Shelf
def getRes (s : ByteArray) : NumR → Value
 | .got n r => .tuple #[.int .u64 n, .string ⟨r.toArray⟩, .int .i64 0]
 | .more => .tuple #[.int .u64 0, .string s, .int .i64 20]
 | .bad => .tuple #[.int .u64 0, .string s, .int .i64 21]
set_option maxRecDepth 100000 in
set_option maxHeartbeats 4000000 in
theorem Get_any (s : ByteArray) (fm ff : Addr) (w : World) (hl : s.size < 4294967281) (hE : GF fm ff w) :
  Calls Tryz.prog 90 #[.string s] w fun e w' => e = .returned (getRes s (getN s.data.toList)) ∧ Below w.heap.size w w' := by
 obtain ⟨W0, hW0, hX0, hB0, hs0⟩ := boxes1 w #[.string s] 213
 have hN := number_any w.heap.size s fm ff W0 hX0 hl (hE.below hB0)
 have HE : Hid (∀ w', Below w.heap.size w w' → GF fm ff w') := fun w' hb => hE.below hb
 have HX0 := Lib.hid hX0
 cases hg : getN s.data.toList with
 | got n r =>
  rw [hg] at hN
  clear hE hg hX0
  go_enter Tryz.func90, Tryz.ntmps90
  go_wp2_with (go_at_call 112; refine hN.mono ?_; rintro e w1 ⟨rfl, hb1⟩)
  have hW1 : w1.heap[w.heap.size]? = some (.cells #[.string ⟨r.toArray⟩] 213 (0, 0)) := (hb1.block _ (by omega)).trans (one_setCell HX0.out)
  have c1 : w1.cell? ⟨w.heap.size, 0, none⟩ = some (.string ⟨r.toArray⟩) := cCc hW1 0
  go_quiet (fail)
  go_wp2_with fail
  go_ret3
  exact ⟨rfl, bDr ((hB0.setCell (p := ⟨w.heap.size, 0, none⟩) (Nat.le_refl _) _).trans (hb1.mono (by omega))) _⟩
 | more =>
  rw [hg] at hN
  clear hE hg hX0
  go_enter Tryz.func90, Tryz.ntmps90
  go_wp2_with (first | (go_at_call 112; refine hN.mono ?_; rintro e w1 ⟨rfl, hb1⟩) | (go_at_call 113; refine (errno_more fm ff w1 (HE.out w1 (hB0.trans (hb1.mono (by omega))))).mono ?_; rintro e w2 ⟨rfl, hb2⟩))
  go_ret3
  exact ⟨rfl, hB0.trans ((hb1.trans (hb2.mono hb1.size)).mono (by omega))⟩
 | bad =>
  rw [hg] at hN
  clear hE hg hX0
  go_enter Tryz.func90, Tryz.ntmps90
  go_wp2_with (first | (go_at_call 112; refine hN.mono ?_; rintro e w1 ⟨rfl, hb1⟩) | (go_at_call 113; refine (errno_field fm ff w1 (HE.out w1 (hB0.trans (hb1.mono (by omega))))).mono ?_; rintro e w2 ⟨rfl, hb2⟩))
  go_ret3
  exact ⟨rfl, hB0.trans ((hb1.trans (hb2.mono hb1.size)).mono (by omega))⟩
def getT (l : List UInt8) : Option (ByteArray × List UInt8) := match getN l with
 | .got n r => if 400 < n ∨ (r.length : Int) < n then none else some (⟨(r.take n.toNat).toArray⟩, r.drop n.toNat)
 | .more => none
 | .bad => none
def TextPost (b : Nat) (fm ff : Addr) (w : World) (g : Option (ByteArray × List UInt8)) (e : Ending) (w' : World) : Prop := match g with
 | some (t, r) => e = .returned (.tuple #[.string t, .nilIface]) ∧ Below w.heap.size (w.setCell ⟨b, 0, none⟩ (.string ⟨r.toArray⟩)) w'
 | none => (∃ er, (er = fm ∨ er = ff) ∧ e = .returned (.tuple #[.string ⟨#[]⟩, errV er])) ∧ Below b w w'
set_option maxRecDepth 100000 in
set_option maxHeartbeats 4000000 in
theorem text_any (b : Nat) (s : ByteArray) (fm ff : Addr) (w : World) (hX : w.heap[b]? = some (.cells #[.string s] 213 (0, 0))) (hl : s.size < 4294967281) (hE : ∀ W, Below b w W → GF fm ff W) :
  Calls Tryz.prog 114 #[.pointer (some ⟨b, 0, none⟩)] w (TextPost b fm ff w (getT s.data.toList)) := by
 have hN := number_any b s fm ff w hX hl (hE w (.refl _ _))
 have hbl : b < w.heap.size := (Array.getElem?_eq_some_iff.1 hX).1
 have HX := Lib.hid hX
 have HE := Lib.hid hE
 unfold getT TextPost
 cases hg : getN s.data.toList with
 | more =>
  rw [hg] at hN
  dsimp only at hN ⊢
  clear hE hX hg
  go_enter Tryz.func114, Tryz.ntmps114
  go_wp2_with (go_at_call 112; refine hN.mono ?_; rintro e w1 ⟨rfl, hb1⟩)
  go_ret2
  exact ⟨⟨fm, .inl rfl, rfl⟩, hb1.mono (by omega)⟩
 | bad =>
  rw [hg] at hN
  dsimp only at hN ⊢
  clear hE hX hg
  go_enter Tryz.func114, Tryz.ntmps114
  go_wp2_with (go_at_call 112; refine hN.mono ?_; rintro e w1 ⟨rfl, hb1⟩)
  go_ret2
  exact ⟨⟨ff, .inr rfl, rfl⟩, hb1.mono (by omega)⟩
 | got n r =>
  rw [hg] at hN
  dsimp only at hN ⊢
  have hu := (getN_got hg).1
  obtain ⟨hn0, hn1⟩ := hu
  have hR : Hid (∀ w1, Below w.heap.size (w.setCell ⟨b, 0, none⟩ (.string ⟨r.toArray⟩)) w1 → w1.cell? ⟨b, 0, none⟩ = some (.string ⟨r.toArray⟩) ∧ w1.frozen? ⟨b, 0, none⟩ = false ∧ Hid (Below b w w1) ∧ ∀ v, Hid (Below w.heap.size (w.setCell ⟨b, 0, none⟩ v) (w1.setCell ⟨b, 0, none⟩ v))) := fun w1 hb => by
   have h1 : w1.heap[b]? = some (.cells #[.string ⟨r.toArray⟩] 213 (0, 0)) := (hb.block _ (by omega)).trans (one_setCell HX.out)
   refine ⟨cCc h1 0, cFz h1 0, ((Below.refl b w).setCell (p := ⟨b, 0, none⟩) (Nat.le_refl _) _).trans (hb.mono (by omega)), fun v => ?_⟩
   exact ⟨hb.os, hb.tape, hb.output, by simpa using hb.size, fun k hk => by
    by_cases e : k = b
    ·subst e; rw [one_setCell h1, one_setCell HX.out]
    ·exact (Below.heap_setCell _ _ _ _ e).trans ((hb.block k hk).trans ((Below.heap_setCell _ _ _ _ e).trans (Below.heap_setCell _ _ _ _ e).symm))⟩
  have hsz : (ByteArray.mk r.toArray).size = r.length := by show r.toArray.size = _; rw [List.size_toArray]
  have hrl : r.length < 4294967281 := by
   have h1 := (getN_got hg).2
   have h2 : s.data.toList.length = s.size := by rw [Array.length_toList]; rfl
   omega
  clear hE hX hg
  by_cases h4 : 400 < n
  ·rw [if_pos (.inl h4)]
   go_enter Tryz.func114, Tryz.ntmps114
   go_wp2_with (go_at_call 112; refine hN.mono ?_; rintro e w1 ⟨rfl, hb1⟩; obtain ⟨r0, r1, HB1, -⟩ := hR.out w1 hb1; have g1 := (HE.out w1 HB1.out).eff; clear hb1)
   go_quiet (fail)
   go_wp2_with fail
   go_ret2
   exact ⟨⟨ff, .inr rfl, rfl⟩, bDr HB1.out _⟩
  ·by_cases h5 : (r.length : Int) < n
   ·rw [if_pos (.inr h5)]
    go_enter Tryz.func114, Tryz.ntmps114
    go_wp2_with (go_at_call 112; refine hN.mono ?_; rintro e w1 ⟨rfl, hb1⟩; obtain ⟨r0, r1, HB1, -⟩ := hR.out w1 hb1; have g1 := (HE.out w1 HB1.out).efm; clear hb1)
    go_quiet (fail)
    go_wp2_with fail
    go_ret2
    exact ⟨⟨fm, .inl rfl, rfl⟩, bDr HB1.out _⟩
   ·rw [if_neg (by omega)]
    obtain ⟨k, rfl⟩ : ∃ k : Nat, n = (k : Int) := ⟨n.toNat, by omega⟩
    rw [Int.toNat_natCast]
    have s1 : (ByteArray.mk r.toArray).extract 0 k = ⟨(r.take k).toArray⟩ := by
     apply ByteArray.ext
     simp [ByteArray.data_extract]
    have s2 : (ByteArray.mk r.toArray).extract k r.length = ⟨(r.drop k).toArray⟩ := by
     apply ByteArray.ext
     simp [ByteArray.data_extract]
     exact List.take_of_length_le (by rw [List.length_drop]; omega)
    go_enter Tryz.func114, Tryz.ntmps114
    go_wp2_with (go_at_call 112; refine hN.mono ?_; rintro e w1 ⟨rfl, hb1⟩; obtain ⟨r0, r1, HB1, HB2⟩ := hR.out w1 hb1; clear hb1)
    go_ret2
    exact ⟨rfl, (HB2 _).out⟩
def getTRes (s : ByteArray) : Option (ByteArray × List UInt8) → Ending → Prop
 | some (t, r), e => e = .returned (.tuple #[.string t, .string ⟨r.toArray⟩, .int .i64 0])
 | none, e => ∃ n : Int, n ≠ 0 ∧ e = .returned (.tuple #[.string ⟨#[]⟩, .string s, .int .i64 n])
set_option maxRecDepth 100000 in
set_option maxHeartbeats 4000000 in
theorem GetText_any (s : ByteArray) (fm ff : Addr) (w : World) (hl : s.size < 4294967281) (hE : ∀ W, Below w.heap.size w W → GF fm ff W) :
  Calls Tryz.prog 91 #[.string s] w fun e w' => getTRes s (getT s.data.toList) e ∧ Below w.heap.size w w' := by
 obtain ⟨W0, hW0, hX0, hB0, hs0⟩ := boxes1 w #[.string s] 213
 have hN := text_any w.heap.size s fm ff W0 hX0 hl (fun W hb => hE W (hB0.trans hb))
 have HE := Lib.hid hE
 have HX0 := Lib.hid hX0
 unfold TextPost at hN
 unfold getTRes
 cases hg : getT s.data.toList with
 | some x =>
  obtain ⟨t, r⟩ := x
  rw [hg] at hN
  dsimp only at hN ⊢
  clear hE hg hX0
  go_enter Tryz.func91, Tryz.ntmps91
  go_wp2_with (go_at_call 114; refine hN.mono ?_; rintro e w1 ⟨rfl, hb1⟩)
  have hW1 : w1.heap[w.heap.size]? = some (.cells #[.string ⟨r.toArray⟩] 213 (0, 0)) := (hb1.block _ (by omega)).trans (one_setCell HX0.out)
  have c1 : w1.cell? ⟨w.heap.size, 0, none⟩ = some (.string ⟨r.toArray⟩) := cCc hW1 0
  go_quiet (fail)
  go_wp2_with fail
  go_ret3
  exact ⟨rfl, bDr ((hB0.setCell (p := ⟨w.heap.size, 0, none⟩) (Nat.le_refl _) _).trans (hb1.mono (by omega))) _⟩
 | none =>
  rw [hg] at hN
  dsimp only at hN ⊢
  have hEr : Hid (∀ w1 er, Below w.heap.size w w1 → (er = fm ∨ er = ff) → ∃ no : Int, Hid (no ≠ 0) ∧ Calls Tryz.prog 113 #[errV er] w1 fun e w' => e = .returned (.int .i64 no) ∧ Below w1.heap.size w1 w') := fun w1 er hb h => by
   rcases h with rfl | rfl
   ·exact ⟨20, (by decide : (20 : Int) ≠ 0), errno_more _ ff w1 (HE.out w1 hb)⟩
   ·exact ⟨21, (by decide : (21 : Int) ≠ 0), errno_field fm _ w1 (HE.out w1 hb)⟩
  clear hE hg hX0
  go_enter Tryz.func91, Tryz.ntmps91
  go_wp2_with fail
  refine hN.mono ?_
  rintro e w1 ⟨⟨er, her, rfl⟩, hb1⟩
  obtain ⟨no, hno, hC⟩ := hEr.out w1 er (hB0.trans hb1) her
  have HB1 : Hid (Below w.heap.size w w1) := hB0.trans hb1
  clear her hb1
  go_wp2_with (go_at_call 113; refine hC.mono ?_; rintro e w2 ⟨rfl, hb2⟩)
  go_ret3
  exact ⟨⟨no, hno.out, rfl⟩, HB1.out.trans (hb2.mono HB1.out.size)⟩
end Go.Proofs.YtpklkhgnjbopnaaGreatDoor
namespace Go.Proofs.YtpklkhgnjbopnaaGreatDoor
open Go Go.RowKit Go.Shelf
def RdAt (b : Nat) (st : Rd) (W : World) : Prop := match st with
 | some l => l.length < 4294967281 ∧ W.heap[b]? = some (.cells #[.string ⟨l.toArray⟩, .bool false] 130 (0, 0))
 | none => ∃ s : ByteArray, W.heap[b]? = some (.cells #[.string s, .bool true] 130 (0, 0))
theorem RdAt.lt {b : Nat} {st : Rd} {W : World} (h : RdAt b st W) : b < W.heap.size := by
 cases st with
 | none => obtain ⟨s, h⟩ := h; exact (Array.getElem?_eq_some_iff.1 h).1
 | some l => exact (Array.getElem?_eq_some_iff.1 h.2).1
theorem RdAt.keep {b : Nat} {st : Rd} {q : Nat → Prop} {A B : World} (h : RdAt b st A) (hk : Kept q A B) (hq : q b) : RdAt b st B := by
 cases st with
 | none => obtain ⟨s, h⟩ := h; exact ⟨s, hk.known hq h⟩
 | some l => exact ⟨h.1, hk.known hq h.2⟩
theorem getN_len {l : List UInt8} {n : Int} {r : List UInt8} (h : getN l = .got n r) : r.length ≤ l.length := Nat.le_of_lt (getN_got h).2
theorem str_list (l : List UInt8) : (ByteArray.mk l.toArray).data.toList = l := rfl
theorem str_size (l : List UInt8) : (ByteArray.mk l.toArray).size = l.length := by show l.toArray.size = _; rw [List.size_toArray]
theorem rText_get (l : List UInt8) : rText (some l) = match getT l with
  | some (t, r) => (t, some r)
  | none => (⟨#[]⟩, none) := by
 unfold rText getT
 dsimp only
 cases getN l with
 | got n r => dsimp only; split <;> rfl
 | more => rfl
 | bad => rfl
set_option maxRecDepth 100000 in
set_option maxHeartbeats 4000000 in
theorem rdnum_x (b : Nat) (st : Rd) (fm ff : Addr) (w : World) (h : RdAt b st w) (hE : GF fm ff w) :
  Calls Tryz.prog 59 #[.pointer (some ⟨b, 0, none⟩)] w fun e w' => e = .returned (.int .u64 (rNum st).1) ∧ RdAt b (rNum st).2 w' ∧ Kept (· ≠ b) w w' := by
 cases st with
 | none =>
  obtain ⟨s, hX⟩ := h
  have c1 : w.cell? ⟨b, 1, none⟩ = some (.bool true) := cCc hX 1
  have HF : Hid (RdAt b none w) := ⟨s, hX⟩
  clear hE hX
  go_enter Tryz.func59, Tryz.ntmps59
  go_wp2_with fail
  go_ret
  exact ⟨rfl, HF.out, .refl⟩
 | some l =>
  obtain ⟨hl, hX⟩ := h
  obtain ⟨c0, c1⟩ := cl2 hX
  have hG := Get_any ⟨l.toArray⟩ fm ff w (by rw [str_size]; exact hl) hE
  rw [str_list] at hG
  have HX := Lib.hid hX
  have hfr : Hid (∀ w1, Below w.heap.size w w1 → (w1.frozen? ⟨b, 0, none⟩ = false ∧ w1.cell? ⟨b, 0, none⟩ = some (.string ⟨l.toArray⟩)) ∧ w1.frozen? ⟨b, 1, none⟩ = false ∧ w1.cell? ⟨b, 1, none⟩ = some (.bool false)) := fun w1 hb =>
   have h1 := known hb (Nat.le_refl _) hX
   ⟨⟨cFz h1 0, cCc h1 0⟩, cFz h1 1, cCc h1 1⟩
  cases hg : getN l with
  | got n r =>
   rw [hg] at hG
   have e : rNum (some l) = (n, some r) := by unfold rNum; dsimp only; rw [hg]
   rw [e]
   have HF : Hid (∀ w1, Below w.heap.size w w1 → RdAt b (some r) (w1.setCell ⟨b, 0, none⟩ (.string ⟨r.toArray⟩)) ∧ Kept (· ≠ b) w (w1.setCell ⟨b, 0, none⟩ (.string ⟨r.toArray⟩))) := fun w1 hb =>
    ⟨⟨Nat.lt_of_le_of_lt (getN_len hg) hl, hSk (known hb (Nat.le_refl _) hX) (i := 0) _⟩, (Kept.of hb).set (fun _ h => h rfl) _ _⟩
   clear hE hX hg e
   go_enter Tryz.func59, Tryz.ntmps59
   go_wp2_with (go_at_call 90; refine hG.mono ?_; rintro e w1 ⟨rfl, hb1⟩; unfold getRes; obtain ⟨⟨f0, d0⟩, f1, d1⟩ := hfr.out w1 hb1; have HB1 := Lib.hid hb1; clear hb1)
   go_ret
   exact ⟨rfl, HF.out w1 HB1.out⟩
  | more =>
   rw [hg] at hG
   have e : rNum (some l) = (0, none) := by unfold rNum; dsimp only; rw [hg]
   rw [e]
   have HF : Hid (∀ w1, Below w.heap.size w w1 → RdAt b none (w1.setCell ⟨b, 1, none⟩ (.bool true)) ∧ Kept (· ≠ b) w (w1.setCell ⟨b, 1, none⟩ (.bool true))) := fun w1 hb =>
    ⟨⟨_, hSk (known hb (Nat.le_refl _) hX) (i := 1) _⟩, (Kept.of hb).set (fun _ h => h rfl) _ _⟩
   clear hE hX hg e
   go_enter Tryz.func59, Tryz.ntmps59
   go_wp2_with (go_at_call 90; refine hG.mono ?_; rintro e w1 ⟨rfl, hb1⟩; unfold getRes; obtain ⟨⟨f0, d0⟩, f1, d1⟩ := hfr.out w1 hb1; have HB1 := Lib.hid hb1; clear hb1)
   go_ret
   exact ⟨rfl, HF.out w1 HB1.out⟩
  | bad =>
   rw [hg] at hG
   have e : rNum (some l) = (0, none) := by unfold rNum; dsimp only; rw [hg]
   rw [e]
   have HF : Hid (∀ w1, Below w.heap.size w w1 → RdAt b none (w1.setCell ⟨b, 1, none⟩ (.bool true)) ∧ Kept (· ≠ b) w (w1.setCell ⟨b, 1, none⟩ (.bool true))) := fun w1 hb =>
    ⟨⟨_, hSk (known hb (Nat.le_refl _) hX) (i := 1) _⟩, (Kept.of hb).set (fun _ h => h rfl) _ _⟩
   clear hE hX hg e
   go_enter Tryz.func59, Tryz.ntmps59
   go_wp2_with (go_at_call 90; refine hG.mono ?_; rintro e w1 ⟨rfl, hb1⟩; unfold getRes; obtain ⟨⟨f0, d0⟩, f1, d1⟩ := hfr.out w1 hb1; have HB1 := Lib.hid hb1; clear hb1)
   go_ret
   exact ⟨rfl, HF.out w1 HB1.out⟩
theorem rdmost_x (m : Int) (b : Nat) (st : Rd) (fm ff : Addr) (w : World) (hm : U64 m) (h : RdAt b st w) (hE : GF fm ff w) :
  Calls Tryz.prog 58 #[.pointer (some ⟨b, 0, none⟩), .int .u64 m] w fun e w' => e = .returned (.int .u64 (rMost m st).1) ∧ RdAt b (rMost m st).2 w' ∧ Kept (· ≠ b) w w' := by
 have hN := rdnum_x b st fm ff w h hE
 have hu : U64 (rNum st).1 := by
  unfold rNum
  split
  ·exact ⟨by decide, by decide⟩
  ·split
   ·rename_i e; exact (getN_got e).1
   ·exact ⟨by decide, by decide⟩
   ·exact ⟨by decide, by decide⟩
 obtain ⟨n, s', e⟩ : ∃ n s', rNum st = (n, s') := ⟨_, _, rfl⟩
 rw [e] at hN hu
 dsimp only at hN hu
 obtain ⟨hn0, hn1⟩ := hu
 obtain ⟨hm0, hm1⟩ := hm
 unfold rMost
 rw [e]
 dsimp only
 clear h hE e
 by_cases hc : m < n
 ·rw [if_pos hc]
  go_enter Tryz.func58, Tryz.ntmps58
  go_wp2_with
   (go_at_call 59
    refine hN.mono ?_
    rintro e w1 ⟨rfl, hr, hk⟩
    have hbx : ∃ (v : Value) (x : Bool), w1.heap[b]? = some (.cells #[v, .bool x] 130 (0, 0)) ∧ ∃ s, v = .string s := by
     cases s' with
     | none => obtain ⟨s, h⟩ := hr; exact ⟨_, _, h, _, rfl⟩
     | some l => exact ⟨_, _, hr.2, _, rfl⟩
    obtain ⟨v, x, hX, s, rfl⟩ := hbx
    have d1 : w1.cell? ⟨b, 1, none⟩ = some (.bool x) := cCc hX 1
    have f1 : w1.frozen? ⟨b, 1, none⟩ = false := cFz hX 1
    have HF : Hid (RdAt b none (w1.setCell ⟨b, 1, none⟩ (.bool true)) ∧ Kept (· ≠ b) w (w1.setCell ⟨b, 1, none⟩ (.bool true))) := ⟨⟨s, hSk hX (i := 1) _⟩, hk.set (fun _ h => h rfl) _ _⟩
    clear hr hk hX)
  go_ret
  exact ⟨rfl, HF.out⟩
 ·rw [if_neg hc]
  go_enter Tryz.func58, Tryz.ntmps58
  go_wp2_with (go_at_call 59; refine hN.mono ?_; rintro e w1 ⟨rfl, hr, hk⟩; have HF := Lib.hid (And.intro hr hk); clear hr hk)
  go_ret
  exact ⟨rfl, HF.out⟩
set_option maxRecDepth 100000 in
set_option maxHeartbeats 4000000 in
theorem rdtext_x (b : Nat) (st : Rd) (fm ff : Addr) (w : World) (h : RdAt b st w) (hE : ∀ W, Below w.heap.size w W → GF fm ff W) :
  Calls Tryz.prog 60 #[.pointer (some ⟨b, 0, none⟩)] w fun e w' => e = .returned (.string (rText st).1) ∧ RdAt b (rText st).2 w' ∧ Kept (· ≠ b) w w' := by
 cases st with
 | none =>
  obtain ⟨s, hX⟩ := h
  have c1 : w.cell? ⟨b, 1, none⟩ = some (.bool true) := cCc hX 1
  have HF : Hid (RdAt b none w) := ⟨s, hX⟩
  clear hE hX
  go_enter Tryz.func60, Tryz.ntmps60
  go_wp2_with fail
  go_ret
  exact ⟨rfl, HF.out, .refl⟩
 | some l =>
  obtain ⟨hl, hX⟩ := h
  obtain ⟨c0, c1⟩ := cl2 hX
  have hG := GetText_any ⟨l.toArray⟩ fm ff w (by rw [str_size]; exact hl) hE
  rw [str_list] at hG
  have hfr : Hid (∀ w1, Below w.heap.size w w1 → (w1.frozen? ⟨b, 0, none⟩ = false ∧ w1.cell? ⟨b, 0, none⟩ = some (.string ⟨l.toArray⟩)) ∧ w1.frozen? ⟨b, 1, none⟩ = false ∧ w1.cell? ⟨b, 1, none⟩ = some (.bool false)) := fun w1 hb =>
   have h1 := known hb (Nat.le_refl _) hX
   ⟨⟨cFz h1 0, cCc h1 0⟩, cFz h1 1, cCc h1 1⟩
  rw [rText_get]
  cases hg : getT l with
  | some x =>
   obtain ⟨t, r⟩ := x
   rw [hg] at hG
   have hrl : r.length ≤ l.length := by
    unfold getT at hg
    cases hn : getN l with
    | got n q =>
     rw [hn] at hg
     dsimp only at hg
     split at hg
     ·cases hg
     ·cases hg
      have := getN_len hn
      rw [List.length_drop]
      omega
    | more => rw [hn] at hg; cases hg
    | bad => rw [hn] at hg; cases hg
   have HF : Hid (∀ w1, Below w.heap.size w w1 → RdAt b (some r) (w1.setCell ⟨b, 0, none⟩ (.string ⟨r.toArray⟩)) ∧ Kept (· ≠ b) w (w1.setCell ⟨b, 0, none⟩ (.string ⟨r.toArray⟩))) := fun w1 hb =>
    ⟨⟨Nat.lt_of_le_of_lt hrl hl, hSk (known hb (Nat.le_refl _) hX) (i := 0) _⟩, (Kept.of hb).set (fun _ h => h rfl) _ _⟩
   clear hE hX hg hrl
   dsimp only
   go_enter Tryz.func60, Tryz.ntmps60
   go_wp2_with (go_at_call 91; refine hG.mono ?_; rintro e w1 ⟨he, hb1⟩; unfold getTRes at he; subst he; obtain ⟨⟨f0, d0⟩, f1, d1⟩ := hfr.out w1 hb1; have HB1 := Lib.hid hb1; clear hb1)
   go_ret
   exact ⟨rfl, HF.out w1 HB1.out⟩
  | none =>
   rw [hg] at hG
   have HF : Hid (∀ w1, Below w.heap.size w w1 → RdAt b none (w1.setCell ⟨b, 1, none⟩ (.bool true)) ∧ Kept (· ≠ b) w (w1.setCell ⟨b, 1, none⟩ (.bool true))) := fun w1 hb =>
    ⟨⟨_, hSk (known hb (Nat.le_refl _) hX) (i := 1) _⟩, (Kept.of hb).set (fun _ h => h rfl) _ _⟩
   clear hE hX hg
   dsimp only
   go_enter Tryz.func60, Tryz.ntmps60
   go_wp2_with (go_at_call 91; refine hG.mono ?_; rintro e w1 ⟨he, hb1⟩; unfold getTRes at he; obtain ⟨no, hno, rfl⟩ := he; have hne : (no != 0) = true := (by simpa using hno); obtain ⟨⟨f0, d0⟩, f1, d1⟩ := hfr.out w1 hb1; have HB1 := Lib.hid hb1; clear hb1)
   go_ret
   exact ⟨rfl, HF.out w1 HB1.out⟩
theorem rdended_x (b : Nat) (st : Rd) (w : World) (h : RdAt b st w) :
  Calls Tryz.prog 61 #[.pointer (some ⟨b, 0, none⟩)] w fun e w' => e = .returned (.bool (decide (st = some []))) ∧ Kept (· ≠ b) w w' ∧ RdAt b st w' := by
 have HF : Hid (∀ w', Below w.heap.size w w' → Kept (· ≠ b) w w' ∧ RdAt b st w') := fun w' hb => ⟨.of hb, h.keep (q := fun _ => True) (.of hb) trivial⟩
 cases st with
 | none =>
  obtain ⟨s, hX⟩ := h
  obtain ⟨c0, c1⟩ := cl2 hX
  rw [decide_eq_false (by intro h; cases h)]
  clear hX
  go_enter Tryz.func61, Tryz.ntmps61
  go_wp2_with fail
  go_ret
  exact ⟨rfl, HF.out _ (.refl _ _)⟩
 | some l =>
  obtain ⟨hl, hX⟩ := h
  obtain ⟨c0, c1⟩ := cl2 hX
  have e1 : decide (some l = some []) = l.isEmpty := by cases l <;> simp
  rw [e1]
  clear hX
  go_enter Tryz.func61, Tryz.ntmps61
  go_wp2_with fail
  go_ret
  exact ⟨rfl, HF.out _ (.refl _ _)⟩
end Go.Proofs.YtpklkhgnjbopnaaGreatDoor

/- Package exact: place, isAt, with. Package exact: with. slices.Values at uint64; package exact: each; a copy of numbers. -/
import Derived.Test.YtmkefodaibmkhaaGreatDoorZG0
import Derived.Test.YtmkefodaibmkhaaGreatDoorZX8
import Derived.Shelf.SlSorted.Search
import Derived.Test.YtmkefodaibmkhaaGreatDoorZM2
import Derived.ArgAppend
import Derived.Laws.CopyRow
import Derived.Laws.CopyOwn
import Derived.Laws.Tables
namespace Go.Proofs
open Go.Shelf
/-- sort.Search of the shelf, laid at this program by hand. -/
def Tryz.laysO16_ren : Go.Shelf.Ren := ⟨fun | 16 => 192 | n => n, fun | 3 => 3 | 4 => 4 | 35 => 169 | 38 => 200 | n => n, fun | n => n⟩
theorem Tryz.laysO16 : Go.Proofs.SlLaysO.n16 Tryz.prog Tryz.laysO16_ren := {
  mixed := by kernel_rfl
  f16 := Tryz.func192.trans (congrArg some (by kernel_rfl))
  t3 := by kernel_rfl
  a3 := fun w => by kernel_rfl
  z3 := fun w => by kernel_rfl
  v3 := fun w => by kernel_rfl
  t4 := by kernel_rfl
  a4 := fun w => by kernel_rfl
  z4 := fun w => by kernel_rfl
  v4 := fun w => by kernel_rfl
  t35 := by kernel_rfl
  a35 := fun w => by kernel_rfl
  z35 := fun w => by kernel_rfl
  v35 := fun w => by kernel_rfl
  t38 := by kernel_rfl
  a38 := fun w => by kernel_rfl
  z38 := fun w => by kernel_rfl
  v38 := fun w => by kernel_rfl }
end Go.Proofs
namespace Go.Proofs.YtmkefodaibmkhaaGreatDoor
open Go Go.RowKit Go.Shelf Go.Lib Go.Sort

set_option maxRecDepth 100000 in
set_option maxHeartbeats 1000000 in
theorem place1_any (b0 b1 b off len cap i : Nat) (n x : Int) (w : World) (h0 : w.cell? ⟨b0, 0, none⟩ = some (.slice (some ⟨b, off, none⟩) len cap)) (h1 : w.cell? ⟨b1, 0, none⟩ = some (.int .u64 n)) (hx : w.cell? ⟨b, off + i, none⟩ = some (.int .u64 x)) (hi : (i : Int) < len) :
    Calls Tryz.prog 193 #[.int .i64 i, .pointer (some ⟨b0, 0, none⟩), .pointer (some ⟨b1, 0, none⟩)] w fun e w' => e = .returned (.bool (decide (n ≤ x))) ∧ ∃ q, w' = w.drewN q := by
  go_enter Tryz.func193, Tryz.ntmps193
  go_wp2_with fail
  go_quiet (fail)
  go_wp2_with fail
  go_ret
  exact ⟨rfl, _, rfl⟩
theorem grow_nil' (w : World) : grow w #[] = w := by
  cases w
  simp [grow]
theorem place_count (l : List Int) (n : Int) : (List.range l.length).countP (fun i => !decide (n ≤ l.getD i 0)) = exPlace l n := by
  have h : l = (List.range l.length).map (fun i => l.getD i 0) := by
    apply List.ext_getElem?
    intro i
    by_cases hi : i < l.length
    · simp [hi]
    · simp [hi]
  unfold exPlace
  conv => rhs; rw [h]
  rw [List.countP_map]
  congr 1
  funext i
  simp only [Function.comp]
  rw [Bool.eq_iff_iff]
  simp
set_option maxRecDepth 100000 in
set_option maxHeartbeats 2000000 in
theorem place_any (l : List Int) (a : Option Addr) (len cap : Nat) (n : Int) (w : World) (hL : SlE encU 1 w.heap.size w a len l) (hu : Up l) (hlen : len ≤ 1000) :
    Calls Tryz.prog 188 #[.slice a len cap, .int .u64 n] w fun e w' => e = .returned (.int .i64 (exPlace l n : Nat)) ∧ Below w.heap.size w w' := by
  have hll := hL.1
  obtain ⟨W0, hW0, hX0, hX1, hB0, hs0⟩ := boxes2 w #[.slice a len cap] 25 #[.int .u64 n] 50
  have hS := Any.sort_Search Tryz.laysO16 193 #[.pointer (some ⟨w.heap.size, 0, none⟩), .pointer (some ⟨w.heap.size + 1, 0, none⟩)] len (fun i => decide (n ≤ l.getD i 0)) W0 (enters_of Tryz.func193 (by kernel_rfl) rfl) (by omega)
    (fun m os i hi => by
      obtain ⟨x, hx⟩ : ∃ x, l[i]? = some x := ⟨_, List.getElem?_eq_getElem (by omega)⟩
      obtain ⟨b, off, rfl, hb, hc⟩ := hL.2 i x hx
      have hcx : W0.cell? ⟨b, off + i, none⟩ = some (.int .u64 x) := by
        have h1 := hc 0 (by omega)
        rw [Nat.mul_one] at h1
        exact (hB0.cell (p := ⟨b, off + i, none⟩) hb).trans h1
      have hg : l.getD i 0 = x := by simp [List.getD_eq_getElem?_getD, hx]
      have hgr : ∀ k (o : Nat) v, k < W0.heap.size → W0.cell? ⟨k, o, none⟩ = some v → (grow (W0.drewN m) os).cell? ⟨k, o, none⟩ = some v := fun k o v hk hv => cell_grown (a := ⟨k, o, none⟩) hk hv m os
      refine (place1_any w.heap.size (w.heap.size + 1) b off len cap i n x _ (hgr _ _ _ (by omega) (cell_of_cells hX0 0)) (hgr _ _ _ (by omega) (cell_of_cells hX1 0)) (hgr _ _ _ (by omega) hcx) (by omega)).mono fun e w' h => ?_
      obtain ⟨h1, q, h2⟩ := h
      exact ⟨by rw [h1, hg], q, #[], by rw [h2, grow_nil']⟩)
    (fun i j hij hj hi => by
      have h1 : l.getD i 0 ≤ l.getD j 0 := by
        rcases Nat.lt_or_eq_of_le hij with h | rfl
        · have := List.pairwise_iff_getElem.1 hu i j (by omega) (by omega) h
          rw [List.getD_eq_getElem?_getD, List.getD_eq_getElem?_getD, List.getElem?_eq_getElem (by omega), List.getElem?_eq_getElem (by omega)]
          simp only [Option.getD_some]
          omega
        · exact Int.le_refl _
      simp only [decide_eq_true_eq] at hi ⊢
      omega)
  rw [hll, place_count] at hS
  rw [hll] at hW0 ⊢
  have k0 : W0.cell? ⟨w.heap.size, 0, none⟩ = some (.slice a l.length cap) := by rw [← hll]; exact cell_of_cells hX0 0
  have k1 : W0.cell? ⟨w.heap.size + 1, 0, none⟩ = some (.int .u64 n) := cell_of_cells hX1 0
  clear hL hu hX0 hX1
  go_enter Tryz.func188, Tryz.ntmps188
  go_wp2_with (go_at_call 192; refine hS.mono ?_; rintro e w1 ⟨rfl, q, os, rfl⟩)
  go_ret
  exact ⟨rfl, hB0.trans (below_grown_sl _ _ _ _ (by omega))⟩
set_option maxRecDepth 100000 in
set_option maxHeartbeats 1000000 in
theorem isAt_any (l : List Int) (a : Option Addr) (len cap k : Nat) (n : Int) (w : World) (hL : SlE encU 1 w.heap.size w a len l) (hk : k ≤ len) :
    Calls Tryz.prog 189 #[.slice a len cap, .int .i64 k, .int .u64 n] w fun e w' => e = .returned (.bool (decide (l[k]? = some n))) ∧ Below w.heap.size w w' := by
  have hll := hL.1
  by_cases hlt : k < len
  · obtain ⟨x, hx⟩ : ∃ x, l[k]? = some x := ⟨_, List.getElem?_eq_getElem (by omega)⟩
    obtain ⟨b, off, rfl, hb, hc⟩ := hL.2 k x hx
    have c0 : w.cell? ⟨b, off + k, none⟩ = some (.int .u64 x) := by have h1 := hc 0 (by omega); rwa [Nat.mul_one] at h1
    have hd : decide (l[k]? = some n) = (x == n) := by rw [hx, Bool.eq_iff_iff]; simp
    have hlt2 : (k : Int) < len := by omega
    rw [hd]
    clear hL hx hd hc hll
    go_enter Tryz.func189, Tryz.ntmps189
    go_wp2_with fail
    go_ret
    exact ⟨rfl, RowKit.Below.refl _ _⟩
  · have hd : decide (l[k]? = some n) = false := by rw [List.getElem?_eq_none (by omega)]; simp
    have hlt2 : decide ((k : Int) < len) = false := by simp; omega
    rw [hd]
    clear hL hd hll hk
    go_enter Tryz.func189, Tryz.ntmps189
    go_wp2_with fail
    go_ret
    exact ⟨rfl, RowKit.Below.refl _ _⟩
end Go.Proofs.YtmkefodaibmkhaaGreatDoor
namespace Go.Proofs.YtmkefodaibmkhaaGreatDoor
open Go Go.RowKit Go.Shelf

theorem owns_base {w : World} {b b' e size n : Nat} {v : Value} {xs : List Value} (h : w.ownsRow b e size v n xs) (hb : b' ≤ b) : w.ownsRow b' e size v n xs :=
  ⟨h.1, h.2.imp id (fun ⟨g, cap, cur, h1, h2, h3⟩ => ⟨g, cap, cur, h1, Nat.le_trans hb h2, h3⟩)⟩
/-- 'append(l[:k:k], n)': new memory, whatever l. -/
theorem app_cut {w : World} {a : Option Addr} {len k : Nat} {l : List Int} (hL : SlE encU 1 w.heap.size w a len l) (hk : k ≤ len) (hn : a = none → k = 0) (hlen : len ≤ 100000) (n : Int) :
    ∃ g cap w1, (Builtin.append_ #[25, 25] 25 #[.slice a k k, .slice (some ⟨w.heap.size, 0, none⟩) 1 1]).run Tryz.prog (w.alloc (.cells #[.int .u64 n] 50)) = .ok (.slice (some ⟨g, 0, none⟩) (k + 1) cap) w1 ∧
      w1.ownsRow w.heap.size 50 1 (.slice (some ⟨g, 0, none⟩) (k + 1) cap) (k + 1) ((l.take k ++ [n]).flatMap encU) ∧ Below w.heap.size w w1 ∧ w.heap.size < w1.heap.size := by
  have hll := hL.1
  obtain ⟨i0, hi, hz0, hz1, hz2⟩ := info_parts info_u64
  have hB : Below w.heap.size w (w.alloc (.cells #[.int .u64 n] 50)) := (Below.refl _ w).alloc (Nat.le_refl _) _
  have hz : (w.alloc (.cells #[.int .u64 n] 50)).heap.size = w.heap.size + 1 := by simp
  have hfl : ∀ (m : List Int), (m.flatMap encU).length = m.length := fun m => by rw [flat_len encU 1 (fun _ => rfl), Nat.mul_one]
  cases a with
  | none =>
    obtain rfl := hn rfl
    obtain ⟨g, cap, w1, h1, h2, h3, h4, -, -⟩ := append_one Tryz.prog 25 und_u64 info_u64 rfl (by decide) (W := w) (World.ownsRow_nil w w.heap.size 50 1) (Below.refl w.heap.size w) (Nat.le_refl _) (Nat.le_refl _) [.int .u64 n] rfl (by simp [Value.oneCell']) (by omega) (by decide)
    exact ⟨g, cap, w1, h1, h2, h3, h4⟩
  | some p =>
    obtain ⟨v', w1, h1, h2, h3⟩ := run_append_arg_grows (P := Tryz.prog) (w := w.alloc (.cells #[.int .u64 n] 50)) 25 25 50 i0 (.int .u64 0) 1 8 und_u64 hi hz0 hz1 hz2 rfl (by decide)
      p k k ((l.take k).flatMap encU) (by rw [hfl, List.length_take]; omega) (fun j u hj => by
        have hjk : j < k := by have h := (List.getElem?_eq_some_iff.1 hj).1; rw [hfl, List.length_take] at h; omega
        obtain ⟨x, hx⟩ : ∃ x, l[j]? = some x := ⟨_, List.getElem?_eq_getElem (by omega)⟩
        obtain ⟨b, off, e, hb, hc⟩ := hL.2 j x hx
        cases e
        have h5 := flat_cell encU 1 (fun _ => rfl) (l.take k) j 0 x (by rw [List.getElem?_take_of_lt hjk]; exact hx) (by omega)
        rw [Nat.mul_one, Nat.add_zero] at h5
        rw [h5] at hj
        have h6 := hc 0 (by omega)
        rw [Nat.mul_one, Nat.add_zero] at h6
        rw [show (⟨b, off, none⟩ : Addr).add j = ⟨b, off + j, none⟩ by unfold Addr.add; split <;> simp_all]
        exact ((hB.cell (p := ⟨b, off + j, none⟩) hb).trans h6).trans hj)
      ⟨w.heap.size, 0, none⟩ 1 1 [.int .u64 n] rfl (fun j u hj => by
        have hj0 : j = 0 := by have h := (List.getElem?_eq_some_iff.1 hj).1; simp at h; exact h
        subst hj0
        rw [show (⟨w.heap.size, 0, none⟩ : Addr).add 0 = ⟨w.heap.size, 0, none⟩ by unfold Addr.add; split <;> simp_all, cell_of_cells (World.alloc_heap_new w _)]
        simpa using hj) (by omega) (by unfold maxLen; omega) (by omega)
    obtain ⟨g, cap, rfl⟩ := ownsRow_succ h2
    refine ⟨g, cap, w1, h1, ?_, hB.grown h3 (by omega) (fun k e => by cases e), by have := h3.size; omega⟩
    rw [List.flatMap_append]
    exact owns_base h2 (by omega)
theorem cut_u64 (a : Option Addr) (len cap k : Nat) (w : World) (h : k ≤ cap) : (Instr.slice 25 (.slice a len cap) none (some (.int .i64 (k : Int))) (some (.int .i64 (k : Int)))).run Tryz.prog w = .ok (.slice a k k) w := by
  have hz := dropA_zero a k 1
  unfold dropA at hz
  have hs : (sizeOf 50).run Tryz.prog w = .ok 1 w := by kernel_rfl
  have he : Tryz.prog.elem 25 = 50 := by kernel_rfl
  rw [run_slice_hm (t := 25) (a := a) (len := len) (cap := cap) (w := w) (ht := by rw [he]; exact und_u64) (kh := .i64) (km := .i64) (h := (k : Int)) (m := (k : Int)) (by omega) (by omega) (by omega), he, hs]
  simp only [Result.andThen, sliced, Int.toNat_natCast, Nat.sub_zero, hz]
theorem from_u64 (a : Option Addr) (len cap k : Nat) (w : World) (h : k ≤ len) : (Instr.slice 25 (.slice a len cap) (some (.int .i64 (k : Int))) none none).run Tryz.prog w = .ok (.slice (dropA a cap k 1) (len - k) (cap - k)) w := by
  have hs : (sizeOf 50).run Tryz.prog w = .ok 1 w := by kernel_rfl
  have he : Tryz.prog.elem 25 = 50 := by kernel_rfl
  rw [run_slice_l (t := 25) (a := a) (len := len) (cap := cap) (w := w) (ht := by rw [he]; exact und_u64) (kl := .i64) (l := (k : Int)) (by omega) (by omega), he, hs]
  simp only [Result.andThen, sliced, Int.toNat_natCast, dropA]
/-- What 'with' hands back. -/
def WithPost (l : List Int) (n : Int) (a : Option Addr) (w : World) (e : Ending) (w' : World) : Prop :=
  ∃ a' cap', e = .returned (.slice a' (exIns l n).length cap') ∧ SlC encU 1 w'.heap.size w' a' (exIns l n).length cap' (exIns l n) ∧ (a' = a ∨ ∀ x, a' = some x → w.heap.size ≤ x.block) ∧ Below w.heap.size w w'
attribute [-go_sem] Builtin.append_ run_slice_any run_slice_hm run_slice_l
set_option maxRecDepth 100000 in
set_option maxHeartbeats 1000000 in
theorem with_any (l : List Int) (a : Option Addr) (len cap : Nat) (n : Int) (w : World) (hL : SlC encU 1 w.heap.size w a len cap l) (hu : Up l) (hlen : len ≤ 1000) :
    Calls Tryz.prog 183 #[.slice a len cap, .int .u64 n] w (WithPost l n a w) := by
  have hll := hL.1.1
  have hkl := exPlace_le l n
  have hP := place_any l a len cap n w hL.1 hu hlen
  obtain ⟨k, hk⟩ : ∃ k, exPlace l n = k := ⟨_, rfl⟩
  rw [hk] at hkl hP
  have HI : Hid (∀ w1, Below w.heap.size w w1 → Calls Tryz.prog 189 #[.slice a len cap, .int .i64 k, .int .u64 n] w1 fun e w' => e = .returned (.bool (decide (l[k]? = some n))) ∧ Below w1.heap.size w1 w') := fun w1 hb => isAt_any l a len cap k n w1 ((hL.1.below hb).mono hb.size) (by omega)
  by_cases hat : l[k]? = some n
  · have hin : exIns l n = l := by unfold exIns; rw [hk, if_pos hat]
    unfold WithPost
    rw [hin, ← hll]
    rw [decide_eq_true hat] at HI
    have HL := Lib.hid hL
    clear hL hu hat hin hll hkl hk
    go_enter Tryz.func183, Tryz.ntmps183
    go_wp2_with fail
    refine hP.mono ?_
    rintro e w1 ⟨rfl, hb1⟩
    go_wp2_with fail
    refine (HI.out w1 hb1).mono ?_
    rintro e w2 ⟨rfl, hb2⟩
    go_wp2_with fail
    go_ret
    have hb := hb1.trans (hb2.mono hb1.size)
    exact ⟨a, cap, rfl, (HL.out.below hb).mono hb.size, .inl rfl, hb⟩
  · have hin : exIns l n = l.take k ++ n :: l.drop k := by unfold exIns; rw [hk, if_neg hat]
    unfold WithPost
    rw [hin]
    rw [decide_eq_false hat] at HI
    have HL := Lib.hid hL
    have hcut := fun w1 => cut_u64 a len cap k w1 (by have := hL.2.1; omega)
    have hfrom := fun w1 => from_u64 a len cap k w1 (by omega)
    have HN : Hid (a = none → k = 0) := fun h => by have := hL.2.2.2.1 h; have := hL.2.1; omega
    have HK : Hid (k ≤ len) := by rw [hll]; exact hkl
    have HZ := Lib.hid hlen
    have HLL := Lib.hid hll
    clear hL hu hat hin hll hkl hk
    go_enter Tryz.func183, Tryz.ntmps183
    go_wp2_with fail
    refine hP.mono ?_
    rintro e w1 ⟨rfl, hb1⟩
    go_wp2_with fail
    refine (HI.out w1 hb1).mono ?_
    rintro e w2 ⟨rfl, hb2⟩
    have hb12 := hb1.trans (hb2.mono hb1.size)
    have HL2 := Lib.hid ((HL.out.below hb12).mono hb12.size)
    obtain ⟨g, c3, w3, hap3, hO3, hB3, hz3⟩ := app_cut HL2.out.1 HK.out HN.out (by have := HZ.out; omega) n
    have HD := Lib.hid (((HL2.out.below hB3).mono hB3.size).drop k HK.out)
    obtain ⟨v4, w4, hap4, hO4, hB4, hz4, -, -⟩ := append_elems Tryz.prog (cap := cap - k) 25 und_u64 info_u64 rfl (by decide) hO3 hB3 (Nat.le_refl _) (Nat.le_of_lt hz3) (fun _ => rfl) HD.out.1 one_u64 (by have := HK.out; have := HZ.out; omega) (by have := HZ.out; omega) (by decide)
    have HO4 := Lib.hid hO4
    have HB12 := Lib.hid hb12
    clear HD hO3 hO4
    go_wp2_with fail
    go_ret
    have hO : w4.ownsRow w2.heap.size 50 1 v4 (l.take k ++ n :: l.drop k).length ((l.take k ++ n :: l.drop k).flatMap encU) := by
      have h1 := HO4.out
      rw [← List.flatMap_append, List.append_assoc, List.singleton_append] at h1
      have h2 : (l.take k ++ n :: l.drop k).length = k + 1 + (len - k) := by
        have := HK.out
        have := HLL.out
        rw [List.length_append, List.length_take, List.length_cons, List.length_drop]
        omega
      rw [h2]
      exact h1
    obtain ⟨a', cap', hv, hS, hbl⟩ := slC_of_owns (enc := encU) (fun _ => rfl) hO
    exact ⟨a', cap', by rw [← hv]; rfl, hS, .inr (fun x hx => Nat.le_trans HB12.out.size (hbl x hx)), HB12.out.trans (hB4.mono HB12.out.size)⟩
end Go.Proofs.YtmkefodaibmkhaaGreatDoor
namespace Go.Proofs.YtmkefodaibmkhaaGreatDoor
open Go Go.RowKit Go.Shelf
attribute [local go_sem] Oper.semAt_some

/-- 'copy' of numbers into a row of the call's own. -/
theorem copy_u64 {W : World} {g len cap n₀ : Nat} {cur : Array Value} {a : Option Addr} {l : List Int} (hg : W.heap[g]? = some (.cells cur 50 (0, 0))) (hcur : cur.size = len) (hL : SlE encU 1 n₀ W a len l) (hn : a = none → len = 0) :
    ∃ W2, (Builtin.copy_ #[25, 25] 3 #[.slice (some ⟨g, 0, none⟩) len len, .slice a len cap]).run Tryz.prog W = .ok (.int .i64 len) W2 ∧ W2.heap[g]? = some (.cells (l.flatMap encU).toArray 50 (0, 0)) ∧ Below g W W2 ∧ W2.heap.size = W.heap.size ∧ ∀ k, k ≠ g → W2.heap[k]? = W.heap[k]? := by
  have hll := hL.1
  have hfl : (l.flatMap encU).length = len := by rw [flat_len encU 1 (fun _ => rfl), Nat.mul_one, hll]
  have hs : (Tryz.prog.info? 50).map (·.size) = some 1 := by kernel_rfl
  rcases Nat.eq_zero_or_pos len with h0 | hpos
  · subst h0
    have hl : l = [] := List.eq_nil_of_length_eq_zero hll.symm
    subst hl
    have hc : cur = #[] := Array.eq_empty_of_size_eq_zero hcur
    subst hc
    exact ⟨W, by rw [run_copy_none W _ _ _ 50 _ _ _ _ _ _ und_u64 hs (by simp)]; rfl, hg, Below.refl _ _, rfl, fun _ _ => rfl⟩
  · obtain ⟨x, b, off, hx, rfl, hb, -⟩ := hL.at hpos
    have hr := run_copy_row (P := Tryz.prog) W 25 25 3 50 g 0 len len ⟨b, off, none⟩ len cap cur 50 (l.flatMap encU) und_u64 hs hg (by rw [hfl]; simp)
      (fun j v hj => by
        have hjl : j < l.length := by have h := (List.getElem?_eq_some_iff.1 hj).1; rw [hfl] at h; omega
        obtain ⟨y, hy⟩ : ∃ y, l[j]? = some y := ⟨_, List.getElem?_eq_getElem hjl⟩
        obtain ⟨b', off', e, hb', hc⟩ := hL.2 j y hy
        cases e
        have h5 := flat_cell encU 1 (fun _ => rfl) l j 0 y hy (by omega)
        rw [Nat.mul_one, Nat.add_zero] at h5
        rw [h5] at hj
        have h6 := hc 0 (by omega)
        rw [Nat.mul_one, Nat.add_zero] at h6
        rw [show (⟨b, off, none⟩ : Addr).add j = ⟨b, off + j, none⟩ by unfold Addr.add; split <;> simp_all]
        exact h6.trans hj) (by rw [hfl, hcur]; omega) (fun v hv => by
        obtain ⟨y, -, hy⟩ := List.mem_flatMap.1 hv
        exact one_u64 y v hy)
    have hrow : (cur.toList.take 0 ++ l.flatMap encU ++ cur.toList.drop (0 + (l.flatMap encU).length)).toArray = (l.flatMap encU).toArray := by
      rw [List.take_zero, List.nil_append, Nat.zero_add, hfl, List.drop_eq_nil_of_le (by rw [Array.length_toList, hcur]; exact Nat.le_refl _), List.append_nil]
    rw [hrow] at hr
    exact ⟨_, by rw [hr, hfl]; rfl, setRow_heap W g cur _ _ _ hg, below_setRow (Below.refl _ _) (Nat.le_refl _) _, size_setRow _ _ _, fun k hk => setRow_other W g k _ hk⟩
theorem slicesValues_any (a : Option Addr) (len cap : Nat) (w : World) :
    Calls Tryz.prog 185 #[.slice a len cap] w fun e w' => e = .returned (.func (.func 190) #[] #[.pointer (some ⟨w.heap.size, 0, none⟩)]) ∧ w' = w.alloc (.cells #[.slice a len cap] 25) := by
  go_enter Tryz.func185, Tryz.ntmps185
  go_wp2
  go_ret
  exact ⟨rfl, rfl⟩
theorem exEach_any (a : Option Addr) (len cap : Nat) (w : World) :
    Calls Tryz.prog 182 #[.slice a len cap] w fun e w' => e = .returned (.func (.func 190) #[] #[.pointer (some ⟨w.heap.size, 0, none⟩)]) ∧ w' = w.alloc (.cells #[.slice a len cap] 25) := by
  go_enter Tryz.func182, Tryz.ntmps182
  go_wp2_with (go_at_call 185; refine (slicesValues_any a len cap w).mono ?_; rintro e w' ⟨rfl, rfl⟩)
  go_ret
  exact ⟨rfl, rfl⟩
set_option maxRecDepth 100000 in
set_option maxHeartbeats 1000000 in
/-- slices.Values's closure at labels. -/
theorem values1_u64 (l Bs n₀ b off cap : Nat) (ls : List Int) (hreach : ls.length < 4294967281) (J Jx : List Int → World → Prop)
    (hY : ∀ pre x W, J pre W → pre.length < ls.length → YieldAt Fence.wide 7 Tryz.prog l #[.int .u64 x] W fun e W' =>
      (e = .returned (.bool true) ∧ J (pre ++ [x]) W' ∧ Below n₀ W W') ∨ (e = .returned (.bool false) ∧ Jx (pre ++ [x]) W'))
    (W : World) (hBs : W.cell? ⟨Bs, 0, none⟩ = some (.slice (some ⟨b, off, none⟩) ls.length cap)) (hc : SlE encU 1 n₀ W (some ⟨b, off, none⟩) ls.length ls) (h0 : J [] W) :
    CallsIn Fence.wide 8 Tryz.prog 190 #[.func (.yield l) #[] #[], .pointer (some ⟨Bs, 0, none⟩)] W fun e W' => (∃ v, e = .returned v) ∧
      ((∃ ys, ys = ls ∧ J ys W') ∨ (∃ pre, pre <+: ls ∧ Jx pre W')) := by
  refine callsIn_of_wp Tryz.func190 rfl trivial ?_ rfl
  simp only [Tryz.ntmps190, List.size_toArray, List.length_cons, List.length_nil, Nat.reduceAdd, Nat.reduceSub, Array.replicate_succ, Array.replicate_zero, List.push_toArray, List.append_toArray, List.nil_append, List.cons_append]
  gi_wp2
  gi_loopw [7] (fun i wr => ∃ k : Nat, k ≤ ls.length ∧ i = .int .i64 k ∧ J (ls.take k) wr ∧ Below n₀ W wr) (fun i _ => ls.length - (intOf i).toNat)
  case atStart => exact ⟨0, Nat.zero_le _, rfl, h0, Below.refl _ _⟩
  case round =>
    obtain ⟨k, hk, rfl, hJs, hnx⟩ := hrel
    by_cases hlt : k < ls.length
    · obtain ⟨x, hx⟩ : ∃ x, ls[k]? = some x := ⟨_, List.getElem?_eq_getElem hlt⟩
      obtain ⟨b9, off9, e9, hb, hc0⟩ := (SlE.below hnx hc).2 k x hx
      cases e9
      have c0 : wr.cell? ⟨b, off + k, none⟩ = some (.int .u64 x) := by have h1 := hc0 0 (by omega); rwa [Nat.mul_one] at h1
      obtain ⟨fn, tmps, assign, body, hy, hR⟩ := hY _ x _ hJs (by simp; omega)
      clear hc0
      have HX := Lib.hid hx
      clear hx
      gi_wp2
      refine hR.mono ?_
      rintro e W3 (⟨rfl, hJ3, hk3⟩ | ⟨rfl, hJx3⟩)
      · gi_wp2
        go_roundw
        case rel => exact ⟨k + 1, by omega, by simp, by rw [List.take_add_one, HX.out]; exact hJ3, hnx.trans hk3⟩
        case measure => simp [intOf]; omega
      · gi_wp2
        refine bodyPost_ret (results_none rfl _ _ _) rfl ?_
        exact ⟨⟨_, rfl⟩, .inr ⟨_, by have h := List.take_prefix (k + 1) ls; rwa [List.take_add_one, HX.out] at h, hJx3⟩⟩
    · obtain rfl : k = ls.length := by omega
      gi_wp2
      go_end0
      exact ⟨⟨_, rfl⟩, .inl ⟨_, List.take_length, hJs⟩⟩

set_option maxRecDepth 100000 in
set_option maxHeartbeats 1000000 in
theorem values1_u64_nil (l Bs : Nat) (a : Option Addr) (cap : Nat) (J : List Int → World → Prop) (W : World) (hBs : W.cell? ⟨Bs, 0, none⟩ = some (.slice a 0 cap)) (h0 : J [] W) :
    CallsIn Fence.wide 8 Tryz.prog 190 #[.func (.yield l) #[] #[], .pointer (some ⟨Bs, 0, none⟩)] W fun e W' => (∃ v, e = .returned v) ∧ J [] W' := by
  refine callsIn_of_wp Tryz.func190 rfl trivial ?_ rfl
  simp only [Tryz.ntmps190, List.size_toArray, List.length_cons, List.length_nil, Nat.reduceAdd, Nat.reduceSub, Array.replicate_succ, Array.replicate_zero, List.push_toArray, List.append_toArray, List.nil_append, List.cons_append]
  gi_wp2
  gi_loopw [7] (fun i wr => i = .int .i64 0 ∧ J [] wr) (fun _ _ => 0)
  case atStart => exact ⟨rfl, h0⟩
  case round =>
    obtain ⟨rfl, hJs⟩ := hrel
    gi_wp2
    go_end0
    exact ⟨⟨_, rfl⟩, hJs⟩

theorem values_u64 (Bs n₀ : Nat) (a : Option Addr) (len cap : Nat) (ls : List Int) (hreach : len < 4294967281) (w : World) (hBs : Bs < w.heap.size) (hn₀ : n₀ ≤ w.heap.size)
    (hc : w.cell? ⟨Bs, 0, none⟩ = some (.slice a len cap)) (hI : SlE encU 1 n₀ w a len ls) :
    SeqStopsK Fence.wide 8 Tryz.prog 190 #[.pointer (some ⟨Bs, 0, none⟩)] (fun x : Int => #[.int .u64 x]) (Below n₀) (fun ys => ys = ls) (fun pre => pre <+: ls) ls.length w := fun l J Jx W hW _ _ hY h0 => by
  have hc' := (hW.cell (p := ⟨Bs, 0, none⟩) hBs).trans hc
  have hI' : SlE encU 1 n₀ W a len ls := hI.below (hW.mono hn₀)
  have hll := hI'.1
  rcases Nat.eq_zero_or_pos len with h | h
  · obtain rfl : ls = [] := List.eq_nil_of_length_eq_zero (by omega)
    rw [h] at hc'
    exact (values1_u64_nil l Bs a cap J W hc' h0).mono fun e W' ⟨he, hj⟩ => ⟨he, .inl ⟨_, rfl, hj⟩⟩
  · obtain ⟨x, b, off, -, rfl, -, -⟩ := hI'.at h
    rw [hll] at hc' hI'
    exact values1_u64 l Bs n₀ b off cap ls (by omega) J Jx hY W hc' hI' h0

end Go.Proofs.YtmkefodaibmkhaaGreatDoor

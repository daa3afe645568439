/- The law LadderRules. Printed by gen_law10.py. -/
import Derived.Test.YtmkefodaibmkhaaGreatDoorZMJ
import Derived.Test.YtmkefodaibmkhaaGreatDoorZLO
namespace Go.Proofs.YtmkefodaibmkhaaGreatDoor
open Go Go.RowKit Go.Shelf

theorem from_items (a : Option Addr) (len cap m : Nat) (w : World) (h : m ≤ len) : (Instr.slice 22 (.slice a len cap) (some (.int .i64 (m : Int))) none none).run Tryz.prog w = .ok (.slice (dropA a cap m 2) (len - m) (cap - m)) w := by
  have hs : (sizeOf 52).run Tryz.prog w = .ok 2 w := by kernel_rfl
  have he : Tryz.prog.elem 22 = 52 := by kernel_rfl
  rw [run_slice_l (t := 22) (a := a) (len := len) (cap := cap) (w := w) (ht := by rw [he]; exact und_items) (kl := .i64) (l := (m : Int)) (by omega) (by omega), he, hs]
  simp only [Result.andThen, sliced, Int.toNat_natCast, dropA]
theorem mid_items (a : Option Addr) (len cap l h : Nat) (w : World) (h1 : l ≤ h) (h2 : h ≤ cap) : (Instr.slice 22 (.slice a len cap) (some (.int .i64 (l : Int))) (some (.int .i64 (h : Int))) none).run Tryz.prog w = .ok (.slice (dropA a cap l 2) (h - l) (cap - l)) w := by
  have hs : (sizeOf 52).run Tryz.prog w = .ok 2 w := by kernel_rfl
  have he : Tryz.prog.elem 22 = 52 := by kernel_rfl
  rw [run_slice_lh (t := 22) (a := a) (len := len) (cap := cap) (w := w) (ht := by rw [he]; exact und_items) (kl := .i64) (kh := .i64) (l := (l : Int)) (h := (h : Int)) (by omega) (by omega) (by omega), he, hs]
  simp only [Result.andThen, sliced, Int.toNat_natCast, dropA]
theorem div3 (n K : Nat) (h : n / 3 = K) : (n : Int) / 3 = (K : Int) ∧ (n : Int).tdiv 3 = (K : Int) := by
  have e : (n : Int) / 3 = (K : Int) := by omega
  exact ⟨e, by rw [Int.tdiv_eq_ediv_of_nonneg (by omega)]; exact e⟩
theorem wrap_dbl (K : Nat) (h : K ≤ 30) : wrap64 (2 * (K : Int)) = 2 * (K : Int) := by unfold wrap64; omega
theorem Merge_sum {k a b : Nat} {A B : List (Nat × Int)} {v1 v2 : Value} {w : World} (hk : k = 1 ∨ k = 2 ∨ k = 3) (ha : a ≤ botN k) (hb : b ≤ botN k) (hA : AllOk A) (hB : AllOk B) (hg : GT w) (hv1 : SkB w v1 k (wkSum k a A).1 (wkSum k a A).2) (hv2 : SkB w v2 k (wkSum k b B).1 (wkSum k b B).2) :
    Calls Tryz.prog 20 #[v1, v2] w fun e w' => ∃ x, e = .returned (.tuple #[x, .int .i64 0]) ∧ SkB w' x k (wkSum k (max a b) (A ++ B)).1 (wkSum k (max a b) (A ++ B)).2 ∧ Below w.heap.size w w' := by
  have h := Merge_any (sum_ok k a hk ha A hA) (sum_ok k b hk hb B hB) hg hv1 hv2
  rw [show ((wkSum k a A).1, (wkSum k a A).2) = wkSum k a A from rfl, show ((wkSum k b B).1, (wkSum k b B).2) = wkSum k b B from rfl, merge_sum hk a b ha hb A B hA hB] at h
  exact h
theorem of_part (k t : Nat) (A : List (Nat × Int)) (a : Option Addr) (len cap : Nat) (w W : World) (hB : Below w.heap.size w W) (hk : k = 1 ∨ k = 2 ∨ k = 3) (ht : t ≤ botN k) (hS : SlC encIt 2 w.heap.size w a len cap A) (hlen : len ≤ 100) (hA : AllOk A) (hg : GT w) :
    Calls Tryz.prog 13 #[.int .i64 k, .int .i64 t, .slice a len cap] W fun e w' => ∃ x, e = .returned (.tuple #[x, .int .i64 0]) ∧ SkB w' x k (wkSum k t A).1 (wkSum k t A).2 ∧ Below W.heap.size W w' :=
  of_any k t A a len cap W hk ht ((hS.1.below hB).mono hB.size) hlen hA (hg.go hB)
theorem allOk_take {A : List (Nat × Int)} (h : AllOk A) (n : Nat) : AllOk (A.take n) := fun i hi => h i (List.mem_of_mem_take hi)
theorem allOk_drop {A : List (Nat × Int)} (h : AllOk A) (n : Nat) : AllOk (A.drop n) := fun i hi => h i (List.mem_of_mem_drop hi)
attribute [-go_sem] run_slice_any run_slice_lh run_slice_h run_slice_l
set_option maxRecDepth 100000 in
set_option maxHeartbeats 4000000 in
theorem rules_good (k ta tb tc : Nat) (l : List (Nat × Int)) (a : Option Addr) (len cap : Nat) (w : World) (hk : k = 1 ∨ k = 2 ∨ k = 3) (ha : ta ≤ botN k) (hb : tb ≤ botN k) (hc : tc ≤ botN k) (hS : SlC encIt 2 w.heap.size w a len cap l) (hA : AllOk l) (hg : GT w) :
    Calls Tryz.prog 9 #[.int .i64 k, .int .i64 ta, .int .i64 tb, .int .i64 tc, .slice a len cap] w fun e w' => e = .returned (.bool true) ∧ Below w.heap.size w w' := by
  have hlc := hS.2.1
  obtain ⟨n, hn⟩ : ∃ n, min len 90 = n := ⟨_, rfl⟩
  obtain ⟨K, hK⟩ : ∃ K, n / 3 = K := ⟨_, rfl⟩
  have en := Lib.hid (show min (len : Int) 90 = (n : Int) by omega)
  have eK := Lib.hid (div3 n K hK)
  have hb1 : n ≤ 90 ∧ n ≤ len := by omega
  have hb2 : K ≤ n ∧ 2 * K ≤ n ∧ K ≤ 30 := by omega
  clear hn hK
  obtain ⟨hb3, hb4⟩ := hb1
  obtain ⟨hb5, hb6, hK30⟩ := hb2
  have hSn := hS.take n (by omega)
  have hA' : AllOk (l.take n) := allOk_take hA n
  generalize l.take n = A at hSn hA'
  have r0 := fun W => take_items a len cap n W (by omega)
  have r1 := fun W => take_items a n cap K W (by omega)
  have r2 := fun W => mid_items a n cap K (2 * K) W (by omega) (by omega)
  have r3 := fun W => from_items a n cap (2 * K) W (by omega)
  rw [show ((2 * K : Nat) : Int) = 2 * (K : Int) from Int.natCast_mul 2 K] at r2 r3
  have w1 := Lib.hid (wrap64_nat K (by omega))
  have w2 := Lib.hid (wrap_dbl K hK30)
  have HX : Hid (∀ W, Below w.heap.size w W → Calls Tryz.prog 13 #[.int .i64 k, .int .i64 ta, .slice a K cap] W fun e w' => ∃ x, e = .returned (.tuple #[x, .int .i64 0]) ∧ SkB w' x k (wkSum k ta (A.take K)).1 (wkSum k ta (A.take K)).2 ∧ Below W.heap.size W w') := fun W hB => of_part k ta _ _ _ _ w W hB hk ha (hSn.take K (by omega)) (by omega) (allOk_take hA' _) hg
  have HY : Hid (∀ W, Below w.heap.size w W → Calls Tryz.prog 13 #[.int .i64 k, .int .i64 tb, .slice (dropA a cap K 2) (2 * K - K) (cap - K)] W fun e w' => ∃ x, e = .returned (.tuple #[x, .int .i64 0]) ∧ SkB w' x k (wkSum k tb ((A.take (2 * K)).drop K)).1 (wkSum k tb ((A.take (2 * K)).drop K)).2 ∧ Below W.heap.size W w') := fun W hB => of_part k tb _ _ _ _ w W hB hk hb ((hSn.take (2 * K) (by omega)).drop K (by omega)) (by omega) (allOk_drop (allOk_take hA' _) _) hg
  have HZ : Hid (∀ W, Below w.heap.size w W → Calls Tryz.prog 13 #[.int .i64 k, .int .i64 tc, .slice (dropA a cap (2 * K) 2) (n - 2 * K) (cap - 2 * K)] W fun e w' => ∃ x, e = .returned (.tuple #[x, .int .i64 0]) ∧ SkB w' x k (wkSum k tc (A.drop (2 * K))).1 (wkSum k tc (A.drop (2 * K))).2 ∧ Below W.heap.size W w') := fun W hB => of_part k tc _ _ _ _ w W hB hk hc (hSn.drop (2 * K) (by omega)) (by omega) (allOk_drop hA' _) hg
  have oX : AllOk (A.take K) := allOk_take hA' _
  have oY : AllOk ((A.take (2 * K)).drop K) := allOk_drop (allOk_take hA' _) _
  have oZ : AllOk (A.drop (2 * K)) := allOk_drop hA' _
  generalize A.take K = X at HX oX
  generalize (A.take (2 * K)).drop K = Y at HY oY
  generalize A.drop (2 * K) = Z at HZ oZ
  have HC : Hid ((k = 1 ∨ k = 2 ∨ k = 3) ∧ ta ≤ botN k ∧ tb ≤ botN k ∧ tc ≤ botN k ∧ AllOk X ∧ AllOk Y ∧ AllOk Z ∧ GT w) := ⟨hk, ha, hb, hc, oX, oY, oZ, hg⟩
  have hge := sum_ge k (max (max ta tb) tc) hk (by omega) ((X ++ Y) ++ Z)
  have emx : max (max (ta : Int) (tb : Int)) (tc : Int) = ((max (max ta tb) tc : Nat) : Int) := by omega
  have g1 : ¬ ((botN k : Int) < (ta : Int)) := by omega
  have g2 : ¬ ((botN k : Int) < (tb : Int)) := by omega
  have g3 : ¬ ((botN k : Int) < (tc : Int)) := by omega
  have HB : Hid (∀ w, Calls Tryz.prog 12 #[.int .i64 k] w fun e w' => e = .returned (.int .i64 (botN k : Nat)) ∧ w = w') := fun w => (Bottom_any k w).mono fun e w' ⟨h1, h2⟩ => ⟨by rw [h1, (bot_eq (bdNew_ok k hk)).1], h2⟩
  have HH := Lib.hid (shown10_any w)
  have HGE := Lib.hid hge
  clear hlc hb3 hb4 hb5 hb6 hK30 hSn hA' hS hA hg hk ha hb hc oX oY oZ hge
  generalize hmx : max (max ta tb) tc = mx at emx HGE
  have HMX := Lib.hid hmx
  clear hmx
  replace en := en.out
  obtain ⟨eK, eK2⟩ := eK.out
  replace w1 := w1.out
  replace w2 := w2.out
  go_enter Tryz.func9, Tryz.ntmps9
  go_wp2_with fail
  refine HH.out.mono ?_
  rintro e w0 ⟨rfl, hb0⟩
  have HW := Lib.hid hb0
  clear hb0
  go_wp2_with (go_at_call 12; refine (HB.out _).mono ?_; rintro e w' ⟨rfl, rfl⟩)
  refine (HX.out _ HW.out).mono ?_
  rintro e w1 ⟨x1, rfl, ⟨y1, s1, hy1, rfl, hA1⟩, hb1⟩
  obtain ⟨W1, hW1, hX1, hB1, hs1⟩ := boxes1 w1 #[.int .i64 y1.kind, .int .i64 y1.level, .slice s1.ea s1.el s1.ec, .int .i64 y1.hb, .string y1.hr, .int .i64 y1.cr, .int .i64 y1.cc, .slice s1.ca s1.cl s1.cc, .int .i64 y1.gf, .slice s1.ga s1.gl s1.gc] 36
  have hbb1 := hb1.trans (hB1.mono hb1.size)
  replace HW := Lib.hid (HW.out.trans (hbb1.mono HW.out.size))
  have HX0 := Lib.hid hX1
  have HK0 : Hid (SkB W1 (.agg #[.int .i64 y1.kind, .int .i64 y1.level, .slice s1.ea s1.el s1.ec, .int .i64 y1.hb, .string y1.hr, .int .i64 y1.cr, .int .i64 y1.cc, .slice s1.ca s1.cl s1.cc, .int .i64 y1.gf, .slice s1.ga s1.gl s1.gc]) k (wkSum k ta X).1 (wkSum k ta X).2) := ⟨y1, s1, hy1, rfl, hA1.go hB1⟩
  have HY0 := Lib.hid hy1
  clear hX1 hB1 hs1 hb1 hbb1 hy1 hA1
  go_wp2_with fail
  refine (HY.out _ HW.out).mono ?_
  rintro e w2 ⟨x2, rfl, ⟨y2, s2, hy2, rfl, hA2⟩, hb2⟩
  obtain ⟨W2, hW2, hX2, hB2, hs2⟩ := boxes1 w2 #[.int .i64 y2.kind, .int .i64 y2.level, .slice s2.ea s2.el s2.ec, .int .i64 y2.hb, .string y2.hr, .int .i64 y2.cr, .int .i64 y2.cc, .slice s2.ca s2.cl s2.cc, .int .i64 y2.gf, .slice s2.ga s2.gl s2.gc] 36
  have hbb2 := hb2.trans (hB2.mono hb2.size)
  replace HX0 := Lib.hid (known hbb2 (Nat.le_refl _) HX0.out)
  replace HK0 := Lib.hid (HK0.out.go hbb2)
  replace HW := Lib.hid (HW.out.trans (hbb2.mono HW.out.size))
  have HX1 := Lib.hid hX2
  have HK1 : Hid (SkB W2 (.agg #[.int .i64 y2.kind, .int .i64 y2.level, .slice s2.ea s2.el s2.ec, .int .i64 y2.hb, .string y2.hr, .int .i64 y2.cr, .int .i64 y2.cc, .slice s2.ca s2.cl s2.cc, .int .i64 y2.gf, .slice s2.ga s2.gl s2.gc]) k (wkSum k tb Y).1 (wkSum k tb Y).2) := ⟨y2, s2, hy2, rfl, hA2.go hB2⟩
  have HY1 := Lib.hid hy2
  clear hX2 hB2 hs2 hb2 hbb2 hy2 hA2
  go_wp2_with fail
  refine (HZ.out _ HW.out).mono ?_
  rintro e w3 ⟨x3, rfl, ⟨y3, s3, hy3, rfl, hA3⟩, hb3⟩
  obtain ⟨W3, hW3, hX3, hB3, hs3⟩ := boxes1 w3 #[.int .i64 y3.kind, .int .i64 y3.level, .slice s3.ea s3.el s3.ec, .int .i64 y3.hb, .string y3.hr, .int .i64 y3.cr, .int .i64 y3.cc, .slice s3.ca s3.cl s3.cc, .int .i64 y3.gf, .slice s3.ga s3.gl s3.gc] 36
  have hbb3 := hb3.trans (hB3.mono hb3.size)
  replace HX0 := Lib.hid (known hbb3 (Nat.le_refl _) HX0.out)
  replace HK0 := Lib.hid (HK0.out.go hbb3)
  replace HX1 := Lib.hid (known hbb3 (Nat.le_refl _) HX1.out)
  replace HK1 := Lib.hid (HK1.out.go hbb3)
  replace HW := Lib.hid (HW.out.trans (hbb3.mono HW.out.size))
  have HX2 := Lib.hid hX3
  have HK2 : Hid (SkB W3 (.agg #[.int .i64 y3.kind, .int .i64 y3.level, .slice s3.ea s3.el s3.ec, .int .i64 y3.hb, .string y3.hr, .int .i64 y3.cr, .int .i64 y3.cc, .slice s3.ca s3.cl s3.cc, .int .i64 y3.gf, .slice s3.ga s3.gl s3.gc]) k (wkSum k tc Z).1 (wkSum k tc Z).2) := ⟨y3, s3, hy3, rfl, hA3.go hB3⟩
  have HY2 := Lib.hid hy3
  clear hX3 hB3 hs3 hb3 hbb3 hy3 hA3
  have HM3 := Lib.hid (Merge_sum HC.out.1 HC.out.2.1 HC.out.2.2.1 HC.out.2.2.2.2.1 HC.out.2.2.2.2.2.1 (HC.out.2.2.2.2.2.2.2.go HW.out) HK0.out HK1.out)
  have hxca3 := HX0.out
  have ca30 : W3.cell? ⟨w1.heap.size, 0, none⟩ = some (.int .i64 y1.kind) := cell_of_cells hxca3 0
  have ca31 : W3.cell? ⟨w1.heap.size, 1, none⟩ = some (.int .i64 y1.level) := cell_of_cells hxca3 1
  have ca32 : W3.cell? ⟨w1.heap.size, 2, none⟩ = some (.slice s1.ea s1.el s1.ec) := cell_of_cells hxca3 2
  have ca33 : W3.cell? ⟨w1.heap.size, 3, none⟩ = some (.int .i64 y1.hb) := cell_of_cells hxca3 3
  have ca34 : W3.cell? ⟨w1.heap.size, 4, none⟩ = some (.string y1.hr) := cell_of_cells hxca3 4
  have ca35 : W3.cell? ⟨w1.heap.size, 5, none⟩ = some (.int .i64 y1.cr) := cell_of_cells hxca3 5
  have ca36 : W3.cell? ⟨w1.heap.size, 6, none⟩ = some (.int .i64 y1.cc) := cell_of_cells hxca3 6
  have ca37 : W3.cell? ⟨w1.heap.size, 7, none⟩ = some (.slice s1.ca s1.cl s1.cc) := cell_of_cells hxca3 7
  have ca38 : W3.cell? ⟨w1.heap.size, 8, none⟩ = some (.int .i64 y1.gf) := cell_of_cells hxca3 8
  have ca39 : W3.cell? ⟨w1.heap.size, 9, none⟩ = some (.slice s1.ga s1.gl s1.gc) := cell_of_cells hxca3 9
  clear hxca3
  have hxcb3 := HX1.out
  have cb30 : W3.cell? ⟨w2.heap.size, 0, none⟩ = some (.int .i64 y2.kind) := cell_of_cells hxcb3 0
  have cb31 : W3.cell? ⟨w2.heap.size, 1, none⟩ = some (.int .i64 y2.level) := cell_of_cells hxcb3 1
  have cb32 : W3.cell? ⟨w2.heap.size, 2, none⟩ = some (.slice s2.ea s2.el s2.ec) := cell_of_cells hxcb3 2
  have cb33 : W3.cell? ⟨w2.heap.size, 3, none⟩ = some (.int .i64 y2.hb) := cell_of_cells hxcb3 3
  have cb34 : W3.cell? ⟨w2.heap.size, 4, none⟩ = some (.string y2.hr) := cell_of_cells hxcb3 4
  have cb35 : W3.cell? ⟨w2.heap.size, 5, none⟩ = some (.int .i64 y2.cr) := cell_of_cells hxcb3 5
  have cb36 : W3.cell? ⟨w2.heap.size, 6, none⟩ = some (.int .i64 y2.cc) := cell_of_cells hxcb3 6
  have cb37 : W3.cell? ⟨w2.heap.size, 7, none⟩ = some (.slice s2.ca s2.cl s2.cc) := cell_of_cells hxcb3 7
  have cb38 : W3.cell? ⟨w2.heap.size, 8, none⟩ = some (.int .i64 y2.gf) := cell_of_cells hxcb3 8
  have cb39 : W3.cell? ⟨w2.heap.size, 9, none⟩ = some (.slice s2.ga s2.gl s2.gc) := cell_of_cells hxcb3 9
  clear hxcb3
  go_wp2_with fail
  refine (HM3.out).mono ?_
  rintro e w4 ⟨x4, rfl, ⟨y4, s4, hy4, rfl, hA4⟩, hb4⟩
  obtain ⟨W4, hW4, hX4, hB4, hs4⟩ := boxes1 w4 #[.int .i64 y4.kind, .int .i64 y4.level, .slice s4.ea s4.el s4.ec, .int .i64 y4.hb, .string y4.hr, .int .i64 y4.cr, .int .i64 y4.cc, .slice s4.ca s4.cl s4.cc, .int .i64 y4.gf, .slice s4.ga s4.gl s4.gc] 36
  have hbb4 := hb4.trans (hB4.mono hb4.size)
  replace HX0 := Lib.hid (known hbb4 (Nat.le_refl _) HX0.out)
  replace HK0 := Lib.hid (HK0.out.go hbb4)
  replace HX1 := Lib.hid (known hbb4 (Nat.le_refl _) HX1.out)
  replace HK1 := Lib.hid (HK1.out.go hbb4)
  replace HX2 := Lib.hid (known hbb4 (Nat.le_refl _) HX2.out)
  replace HK2 := Lib.hid (HK2.out.go hbb4)
  replace HW := Lib.hid (HW.out.trans (hbb4.mono HW.out.size))
  have HX3 := Lib.hid hX4
  have HK3 : Hid (SkB W4 (.agg #[.int .i64 y4.kind, .int .i64 y4.level, .slice s4.ea s4.el s4.ec, .int .i64 y4.hb, .string y4.hr, .int .i64 y4.cr, .int .i64 y4.cc, .slice s4.ca s4.cl s4.cc, .int .i64 y4.gf, .slice s4.ga s4.gl s4.gc]) k (wkSum k (max ta tb) (X ++ Y)).1 (wkSum k (max ta tb) (X ++ Y)).2) := ⟨y4, s4, hy4, rfl, hA4.go hB4⟩
  have HY3 := Lib.hid hy4
  clear hX4 hB4 hs4 hb4 hbb4 hy4 hA4
  have HM4 := Lib.hid (Merge_sum HC.out.1 (by have := HC.out.2.1; have := HC.out.2.2.1; omega) HC.out.2.2.2.1 (allOk_app HC.out.2.2.2.2.1 HC.out.2.2.2.2.2.1) HC.out.2.2.2.2.2.2.1 (HC.out.2.2.2.2.2.2.2.go HW.out) HK3.out HK2.out)
  have hxca4 := HX3.out
  have ca40 : W4.cell? ⟨w4.heap.size, 0, none⟩ = some (.int .i64 y4.kind) := cell_of_cells hxca4 0
  have ca41 : W4.cell? ⟨w4.heap.size, 1, none⟩ = some (.int .i64 y4.level) := cell_of_cells hxca4 1
  have ca42 : W4.cell? ⟨w4.heap.size, 2, none⟩ = some (.slice s4.ea s4.el s4.ec) := cell_of_cells hxca4 2
  have ca43 : W4.cell? ⟨w4.heap.size, 3, none⟩ = some (.int .i64 y4.hb) := cell_of_cells hxca4 3
  have ca44 : W4.cell? ⟨w4.heap.size, 4, none⟩ = some (.string y4.hr) := cell_of_cells hxca4 4
  have ca45 : W4.cell? ⟨w4.heap.size, 5, none⟩ = some (.int .i64 y4.cr) := cell_of_cells hxca4 5
  have ca46 : W4.cell? ⟨w4.heap.size, 6, none⟩ = some (.int .i64 y4.cc) := cell_of_cells hxca4 6
  have ca47 : W4.cell? ⟨w4.heap.size, 7, none⟩ = some (.slice s4.ca s4.cl s4.cc) := cell_of_cells hxca4 7
  have ca48 : W4.cell? ⟨w4.heap.size, 8, none⟩ = some (.int .i64 y4.gf) := cell_of_cells hxca4 8
  have ca49 : W4.cell? ⟨w4.heap.size, 9, none⟩ = some (.slice s4.ga s4.gl s4.gc) := cell_of_cells hxca4 9
  clear hxca4
  have hxcb4 := HX2.out
  have cb40 : W4.cell? ⟨w3.heap.size, 0, none⟩ = some (.int .i64 y3.kind) := cell_of_cells hxcb4 0
  have cb41 : W4.cell? ⟨w3.heap.size, 1, none⟩ = some (.int .i64 y3.level) := cell_of_cells hxcb4 1
  have cb42 : W4.cell? ⟨w3.heap.size, 2, none⟩ = some (.slice s3.ea s3.el s3.ec) := cell_of_cells hxcb4 2
  have cb43 : W4.cell? ⟨w3.heap.size, 3, none⟩ = some (.int .i64 y3.hb) := cell_of_cells hxcb4 3
  have cb44 : W4.cell? ⟨w3.heap.size, 4, none⟩ = some (.string y3.hr) := cell_of_cells hxcb4 4
  have cb45 : W4.cell? ⟨w3.heap.size, 5, none⟩ = some (.int .i64 y3.cr) := cell_of_cells hxcb4 5
  have cb46 : W4.cell? ⟨w3.heap.size, 6, none⟩ = some (.int .i64 y3.cc) := cell_of_cells hxcb4 6
  have cb47 : W4.cell? ⟨w3.heap.size, 7, none⟩ = some (.slice s3.ca s3.cl s3.cc) := cell_of_cells hxcb4 7
  have cb48 : W4.cell? ⟨w3.heap.size, 8, none⟩ = some (.int .i64 y3.gf) := cell_of_cells hxcb4 8
  have cb49 : W4.cell? ⟨w3.heap.size, 9, none⟩ = some (.slice s3.ga s3.gl s3.gc) := cell_of_cells hxcb4 9
  clear hxcb4
  go_wp2_with fail
  refine (HM4.out).mono ?_
  rintro e w5 ⟨x5, rfl, ⟨y5, s5, hy5, rfl, hA5⟩, hb5⟩
  obtain ⟨W5, hW5, hX5, hB5, hs5⟩ := boxes1 w5 #[.int .i64 y5.kind, .int .i64 y5.level, .slice s5.ea s5.el s5.ec, .int .i64 y5.hb, .string y5.hr, .int .i64 y5.cr, .int .i64 y5.cc, .slice s5.ca s5.cl s5.cc, .int .i64 y5.gf, .slice s5.ga s5.gl s5.gc] 36
  have hbb5 := hb5.trans (hB5.mono hb5.size)
  replace HX0 := Lib.hid (known hbb5 (Nat.le_refl _) HX0.out)
  replace HK0 := Lib.hid (HK0.out.go hbb5)
  replace HX1 := Lib.hid (known hbb5 (Nat.le_refl _) HX1.out)
  replace HK1 := Lib.hid (HK1.out.go hbb5)
  replace HX2 := Lib.hid (known hbb5 (Nat.le_refl _) HX2.out)
  replace HK2 := Lib.hid (HK2.out.go hbb5)
  replace HX3 := Lib.hid (known hbb5 (Nat.le_refl _) HX3.out)
  replace HK3 := Lib.hid (HK3.out.go hbb5)
  replace HW := Lib.hid (HW.out.trans (hbb5.mono HW.out.size))
  have HX4 := Lib.hid hX5
  have HK4 : Hid (SkB W5 (.agg #[.int .i64 y5.kind, .int .i64 y5.level, .slice s5.ea s5.el s5.ec, .int .i64 y5.hb, .string y5.hr, .int .i64 y5.cr, .int .i64 y5.cc, .slice s5.ca s5.cl s5.cc, .int .i64 y5.gf, .slice s5.ga s5.gl s5.gc]) k (wkSum k (max (max ta tb) tc) ((X ++ Y) ++ Z)).1 (wkSum k (max (max ta tb) tc) ((X ++ Y) ++ Z)).2) := ⟨y5, s5, hy5, rfl, hA5.go hB5⟩
  have HY4 := Lib.hid hy5
  clear hX5 hB5 hs5 hb5 hbb5 hy5 hA5
  have HM5 := Lib.hid (Merge_sum HC.out.1 HC.out.2.2.1 HC.out.2.2.2.1 HC.out.2.2.2.2.2.1 HC.out.2.2.2.2.2.2.1 (HC.out.2.2.2.2.2.2.2.go HW.out) HK1.out HK2.out)
  have hxca5 := HX1.out
  have ca50 : W5.cell? ⟨w2.heap.size, 0, none⟩ = some (.int .i64 y2.kind) := cell_of_cells hxca5 0
  have ca51 : W5.cell? ⟨w2.heap.size, 1, none⟩ = some (.int .i64 y2.level) := cell_of_cells hxca5 1
  have ca52 : W5.cell? ⟨w2.heap.size, 2, none⟩ = some (.slice s2.ea s2.el s2.ec) := cell_of_cells hxca5 2
  have ca53 : W5.cell? ⟨w2.heap.size, 3, none⟩ = some (.int .i64 y2.hb) := cell_of_cells hxca5 3
  have ca54 : W5.cell? ⟨w2.heap.size, 4, none⟩ = some (.string y2.hr) := cell_of_cells hxca5 4
  have ca55 : W5.cell? ⟨w2.heap.size, 5, none⟩ = some (.int .i64 y2.cr) := cell_of_cells hxca5 5
  have ca56 : W5.cell? ⟨w2.heap.size, 6, none⟩ = some (.int .i64 y2.cc) := cell_of_cells hxca5 6
  have ca57 : W5.cell? ⟨w2.heap.size, 7, none⟩ = some (.slice s2.ca s2.cl s2.cc) := cell_of_cells hxca5 7
  have ca58 : W5.cell? ⟨w2.heap.size, 8, none⟩ = some (.int .i64 y2.gf) := cell_of_cells hxca5 8
  have ca59 : W5.cell? ⟨w2.heap.size, 9, none⟩ = some (.slice s2.ga s2.gl s2.gc) := cell_of_cells hxca5 9
  clear hxca5
  have hxcb5 := HX2.out
  have cb50 : W5.cell? ⟨w3.heap.size, 0, none⟩ = some (.int .i64 y3.kind) := cell_of_cells hxcb5 0
  have cb51 : W5.cell? ⟨w3.heap.size, 1, none⟩ = some (.int .i64 y3.level) := cell_of_cells hxcb5 1
  have cb52 : W5.cell? ⟨w3.heap.size, 2, none⟩ = some (.slice s3.ea s3.el s3.ec) := cell_of_cells hxcb5 2
  have cb53 : W5.cell? ⟨w3.heap.size, 3, none⟩ = some (.int .i64 y3.hb) := cell_of_cells hxcb5 3
  have cb54 : W5.cell? ⟨w3.heap.size, 4, none⟩ = some (.string y3.hr) := cell_of_cells hxcb5 4
  have cb55 : W5.cell? ⟨w3.heap.size, 5, none⟩ = some (.int .i64 y3.cr) := cell_of_cells hxcb5 5
  have cb56 : W5.cell? ⟨w3.heap.size, 6, none⟩ = some (.int .i64 y3.cc) := cell_of_cells hxcb5 6
  have cb57 : W5.cell? ⟨w3.heap.size, 7, none⟩ = some (.slice s3.ca s3.cl s3.cc) := cell_of_cells hxcb5 7
  have cb58 : W5.cell? ⟨w3.heap.size, 8, none⟩ = some (.int .i64 y3.gf) := cell_of_cells hxcb5 8
  have cb59 : W5.cell? ⟨w3.heap.size, 9, none⟩ = some (.slice s3.ga s3.gl s3.gc) := cell_of_cells hxcb5 9
  clear hxcb5
  go_wp2_with fail
  refine (HM5.out).mono ?_
  rintro e w6 ⟨x6, rfl, ⟨y6, s6, hy6, rfl, hA6⟩, hb6⟩
  obtain ⟨W6, hW6, hX6, hB6, hs6⟩ := boxes1 w6 #[.int .i64 y6.kind, .int .i64 y6.level, .slice s6.ea s6.el s6.ec, .int .i64 y6.hb, .string y6.hr, .int .i64 y6.cr, .int .i64 y6.cc, .slice s6.ca s6.cl s6.cc, .int .i64 y6.gf, .slice s6.ga s6.gl s6.gc] 36
  have hbb6 := hb6.trans (hB6.mono hb6.size)
  replace HX0 := Lib.hid (known hbb6 (Nat.le_refl _) HX0.out)
  replace HK0 := Lib.hid (HK0.out.go hbb6)
  replace HX1 := Lib.hid (known hbb6 (Nat.le_refl _) HX1.out)
  replace HK1 := Lib.hid (HK1.out.go hbb6)
  replace HX2 := Lib.hid (known hbb6 (Nat.le_refl _) HX2.out)
  replace HK2 := Lib.hid (HK2.out.go hbb6)
  replace HX3 := Lib.hid (known hbb6 (Nat.le_refl _) HX3.out)
  replace HK3 := Lib.hid (HK3.out.go hbb6)
  replace HX4 := Lib.hid (known hbb6 (Nat.le_refl _) HX4.out)
  replace HK4 := Lib.hid (HK4.out.go hbb6)
  replace HW := Lib.hid (HW.out.trans (hbb6.mono HW.out.size))
  have HX5 := Lib.hid hX6
  have HK5 : Hid (SkB W6 (.agg #[.int .i64 y6.kind, .int .i64 y6.level, .slice s6.ea s6.el s6.ec, .int .i64 y6.hb, .string y6.hr, .int .i64 y6.cr, .int .i64 y6.cc, .slice s6.ca s6.cl s6.cc, .int .i64 y6.gf, .slice s6.ga s6.gl s6.gc]) k (wkSum k (max tb tc) (Y ++ Z)).1 (wkSum k (max tb tc) (Y ++ Z)).2) := ⟨y6, s6, hy6, rfl, hA6.go hB6⟩
  have HY5 := Lib.hid hy6
  clear hX6 hB6 hs6 hb6 hbb6 hy6 hA6
  have HM6 := Lib.hid (Merge_sum HC.out.1 HC.out.2.1 (by have := HC.out.2.2.1; have := HC.out.2.2.2.1; omega) HC.out.2.2.2.2.1 (allOk_app HC.out.2.2.2.2.2.1 HC.out.2.2.2.2.2.2.1) (HC.out.2.2.2.2.2.2.2.go HW.out) HK0.out HK5.out)
  have hxca6 := HX0.out
  have ca60 : W6.cell? ⟨w1.heap.size, 0, none⟩ = some (.int .i64 y1.kind) := cell_of_cells hxca6 0
  have ca61 : W6.cell? ⟨w1.heap.size, 1, none⟩ = some (.int .i64 y1.level) := cell_of_cells hxca6 1
  have ca62 : W6.cell? ⟨w1.heap.size, 2, none⟩ = some (.slice s1.ea s1.el s1.ec) := cell_of_cells hxca6 2
  have ca63 : W6.cell? ⟨w1.heap.size, 3, none⟩ = some (.int .i64 y1.hb) := cell_of_cells hxca6 3
  have ca64 : W6.cell? ⟨w1.heap.size, 4, none⟩ = some (.string y1.hr) := cell_of_cells hxca6 4
  have ca65 : W6.cell? ⟨w1.heap.size, 5, none⟩ = some (.int .i64 y1.cr) := cell_of_cells hxca6 5
  have ca66 : W6.cell? ⟨w1.heap.size, 6, none⟩ = some (.int .i64 y1.cc) := cell_of_cells hxca6 6
  have ca67 : W6.cell? ⟨w1.heap.size, 7, none⟩ = some (.slice s1.ca s1.cl s1.cc) := cell_of_cells hxca6 7
  have ca68 : W6.cell? ⟨w1.heap.size, 8, none⟩ = some (.int .i64 y1.gf) := cell_of_cells hxca6 8
  have ca69 : W6.cell? ⟨w1.heap.size, 9, none⟩ = some (.slice s1.ga s1.gl s1.gc) := cell_of_cells hxca6 9
  clear hxca6
  have hxcb6 := HX5.out
  have cb60 : W6.cell? ⟨w6.heap.size, 0, none⟩ = some (.int .i64 y6.kind) := cell_of_cells hxcb6 0
  have cb61 : W6.cell? ⟨w6.heap.size, 1, none⟩ = some (.int .i64 y6.level) := cell_of_cells hxcb6 1
  have cb62 : W6.cell? ⟨w6.heap.size, 2, none⟩ = some (.slice s6.ea s6.el s6.ec) := cell_of_cells hxcb6 2
  have cb63 : W6.cell? ⟨w6.heap.size, 3, none⟩ = some (.int .i64 y6.hb) := cell_of_cells hxcb6 3
  have cb64 : W6.cell? ⟨w6.heap.size, 4, none⟩ = some (.string y6.hr) := cell_of_cells hxcb6 4
  have cb65 : W6.cell? ⟨w6.heap.size, 5, none⟩ = some (.int .i64 y6.cr) := cell_of_cells hxcb6 5
  have cb66 : W6.cell? ⟨w6.heap.size, 6, none⟩ = some (.int .i64 y6.cc) := cell_of_cells hxcb6 6
  have cb67 : W6.cell? ⟨w6.heap.size, 7, none⟩ = some (.slice s6.ca s6.cl s6.cc) := cell_of_cells hxcb6 7
  have cb68 : W6.cell? ⟨w6.heap.size, 8, none⟩ = some (.int .i64 y6.gf) := cell_of_cells hxcb6 8
  have cb69 : W6.cell? ⟨w6.heap.size, 9, none⟩ = some (.slice s6.ga s6.gl s6.gc) := cell_of_cells hxcb6 9
  clear hxcb6
  go_wp2_with fail
  refine (HM6.out).mono ?_
  rintro e w7 ⟨x7, rfl, ⟨y7, s7, hy7, rfl, hA7⟩, hb7⟩
  obtain ⟨W7, hW7, hX7, hB7, hs7⟩ := boxes1 w7 #[.int .i64 y7.kind, .int .i64 y7.level, .slice s7.ea s7.el s7.ec, .int .i64 y7.hb, .string y7.hr, .int .i64 y7.cr, .int .i64 y7.cc, .slice s7.ca s7.cl s7.cc, .int .i64 y7.gf, .slice s7.ga s7.gl s7.gc] 36
  have hbb7 := hb7.trans (hB7.mono hb7.size)
  replace HX0 := Lib.hid (known hbb7 (Nat.le_refl _) HX0.out)
  replace HK0 := Lib.hid (HK0.out.go hbb7)
  replace HX1 := Lib.hid (known hbb7 (Nat.le_refl _) HX1.out)
  replace HK1 := Lib.hid (HK1.out.go hbb7)
  replace HX2 := Lib.hid (known hbb7 (Nat.le_refl _) HX2.out)
  replace HK2 := Lib.hid (HK2.out.go hbb7)
  replace HX3 := Lib.hid (known hbb7 (Nat.le_refl _) HX3.out)
  replace HK3 := Lib.hid (HK3.out.go hbb7)
  replace HX4 := Lib.hid (known hbb7 (Nat.le_refl _) HX4.out)
  replace HK4 := Lib.hid (HK4.out.go hbb7)
  replace HX5 := Lib.hid (known hbb7 (Nat.le_refl _) HX5.out)
  replace HK5 := Lib.hid (HK5.out.go hbb7)
  replace HW := Lib.hid (HW.out.trans (hbb7.mono HW.out.size))
  have HX6 := Lib.hid hX7
  have HK6 : Hid (SkB W7 (.agg #[.int .i64 y7.kind, .int .i64 y7.level, .slice s7.ea s7.el s7.ec, .int .i64 y7.hb, .string y7.hr, .int .i64 y7.cr, .int .i64 y7.cc, .slice s7.ca s7.cl s7.cc, .int .i64 y7.gf, .slice s7.ga s7.gl s7.gc]) k (wkSum k (max ta (max tb tc)) (X ++ (Y ++ Z))).1 (wkSum k (max ta (max tb tc)) (X ++ (Y ++ Z))).2) := ⟨y7, s7, hy7, rfl, hA7.go hB7⟩
  have HY6 := Lib.hid hy7
  clear hX7 hB7 hs7 hb7 hbb7 hy7 hA7
  have hKt := HK6.out
  rw [← List.append_assoc, show max ta (max tb tc) = max (max ta tb) tc by omega] at hKt
  replace HK6 := Lib.hid hKt
  clear hKt
  have HS8 := Lib.hid (Same_sk HK4.out HK6.out)
  have hxda := HX4.out
  have da0 : W7.cell? ⟨w5.heap.size, 0, none⟩ = some (.int .i64 y5.kind) := cell_of_cells hxda 0
  have da1 : W7.cell? ⟨w5.heap.size, 1, none⟩ = some (.int .i64 y5.level) := cell_of_cells hxda 1
  have da2 : W7.cell? ⟨w5.heap.size, 2, none⟩ = some (.slice s5.ea s5.el s5.ec) := cell_of_cells hxda 2
  have da3 : W7.cell? ⟨w5.heap.size, 3, none⟩ = some (.int .i64 y5.hb) := cell_of_cells hxda 3
  have da4 : W7.cell? ⟨w5.heap.size, 4, none⟩ = some (.string y5.hr) := cell_of_cells hxda 4
  have da5 : W7.cell? ⟨w5.heap.size, 5, none⟩ = some (.int .i64 y5.cr) := cell_of_cells hxda 5
  have da6 : W7.cell? ⟨w5.heap.size, 6, none⟩ = some (.int .i64 y5.cc) := cell_of_cells hxda 6
  have da7 : W7.cell? ⟨w5.heap.size, 7, none⟩ = some (.slice s5.ca s5.cl s5.cc) := cell_of_cells hxda 7
  have da8 : W7.cell? ⟨w5.heap.size, 8, none⟩ = some (.int .i64 y5.gf) := cell_of_cells hxda 8
  have da9 : W7.cell? ⟨w5.heap.size, 9, none⟩ = some (.slice s5.ga s5.gl s5.gc) := cell_of_cells hxda 9
  clear hxda
  have hxdb := HX6.out
  have db0 : W7.cell? ⟨w7.heap.size, 0, none⟩ = some (.int .i64 y7.kind) := cell_of_cells hxdb 0
  have db1 : W7.cell? ⟨w7.heap.size, 1, none⟩ = some (.int .i64 y7.level) := cell_of_cells hxdb 1
  have db2 : W7.cell? ⟨w7.heap.size, 2, none⟩ = some (.slice s7.ea s7.el s7.ec) := cell_of_cells hxdb 2
  have db3 : W7.cell? ⟨w7.heap.size, 3, none⟩ = some (.int .i64 y7.hb) := cell_of_cells hxdb 3
  have db4 : W7.cell? ⟨w7.heap.size, 4, none⟩ = some (.string y7.hr) := cell_of_cells hxdb 4
  have db5 : W7.cell? ⟨w7.heap.size, 5, none⟩ = some (.int .i64 y7.cr) := cell_of_cells hxdb 5
  have db6 : W7.cell? ⟨w7.heap.size, 6, none⟩ = some (.int .i64 y7.cc) := cell_of_cells hxdb 6
  have db7 : W7.cell? ⟨w7.heap.size, 7, none⟩ = some (.slice s7.ca s7.cl s7.cc) := cell_of_cells hxdb 7
  have db8 : W7.cell? ⟨w7.heap.size, 8, none⟩ = some (.int .i64 y7.gf) := cell_of_cells hxdb 8
  have db9 : W7.cell? ⟨w7.heap.size, 9, none⟩ = some (.slice s7.ga s7.gl s7.gc) := cell_of_cells hxdb 9
  clear hxdb
  go_wp2_with fail
  refine HS8.out.mono ?_
  rintro e w8 ⟨rfl, hb8⟩
  replace HX0 := Lib.hid (known hb8 (Nat.le_refl _) HX0.out)
  replace HK0 := Lib.hid (HK0.out.go hb8)
  replace HX1 := Lib.hid (known hb8 (Nat.le_refl _) HX1.out)
  replace HK1 := Lib.hid (HK1.out.go hb8)
  replace HX2 := Lib.hid (known hb8 (Nat.le_refl _) HX2.out)
  replace HK2 := Lib.hid (HK2.out.go hb8)
  replace HX3 := Lib.hid (known hb8 (Nat.le_refl _) HX3.out)
  replace HK3 := Lib.hid (HK3.out.go hb8)
  replace HX4 := Lib.hid (known hb8 (Nat.le_refl _) HX4.out)
  replace HK4 := Lib.hid (HK4.out.go hb8)
  replace HX5 := Lib.hid (known hb8 (Nat.le_refl _) HX5.out)
  replace HK5 := Lib.hid (HK5.out.go hb8)
  replace HX6 := Lib.hid (known hb8 (Nat.le_refl _) HX6.out)
  replace HK6 := Lib.hid (HK6.out.go hb8)
  replace HW := Lib.hid (HW.out.trans (hb8.mono HW.out.size))
  clear hb8
  have hl : y5.level = ((wkSum k mx ((X ++ Y) ++ Z)).1 : Int) := by rw [HY4.out, (skOf_kind _ _ _).2, HMX.out]
  have hge : (mx : Int) ≤ ((wkSum k mx ((X ++ Y) ++ Z)).1 : Int) := by have := HGE.out; omega
  have hgn : ta ≤ (wkSum k mx ((X ++ Y) ++ Z)).1 ∧ tb ≤ (wkSum k mx ((X ++ Y) ++ Z)).1 ∧ tc ≤ (wkSum k mx ((X ++ Y) ++ Z)).1 := by have := HGE.out; have := HMX.out; omega
  generalize (wkSum k mx ((X ++ Y) ++ Z)).1 = LL at hl hge hgn
  obtain ⟨hg1, hg2, hg3⟩ := hgn
  have hxea := HX4.out
  have ea0 : w8.cell? ⟨w5.heap.size, 0, none⟩ = some (.int .i64 y5.kind) := cell_of_cells hxea 0
  have ea1 : w8.cell? ⟨w5.heap.size, 1, none⟩ = some (.int .i64 y5.level) := cell_of_cells hxea 1
  have ea2 : w8.cell? ⟨w5.heap.size, 2, none⟩ = some (.slice s5.ea s5.el s5.ec) := cell_of_cells hxea 2
  have ea3 : w8.cell? ⟨w5.heap.size, 3, none⟩ = some (.int .i64 y5.hb) := cell_of_cells hxea 3
  have ea4 : w8.cell? ⟨w5.heap.size, 4, none⟩ = some (.string y5.hr) := cell_of_cells hxea 4
  have ea5 : w8.cell? ⟨w5.heap.size, 5, none⟩ = some (.int .i64 y5.cr) := cell_of_cells hxea 5
  have ea6 : w8.cell? ⟨w5.heap.size, 6, none⟩ = some (.int .i64 y5.cc) := cell_of_cells hxea 6
  have ea7 : w8.cell? ⟨w5.heap.size, 7, none⟩ = some (.slice s5.ca s5.cl s5.cc) := cell_of_cells hxea 7
  have ea8 : w8.cell? ⟨w5.heap.size, 8, none⟩ = some (.int .i64 y5.gf) := cell_of_cells hxea 8
  have ea9 : w8.cell? ⟨w5.heap.size, 9, none⟩ = some (.slice s5.ga s5.gl s5.gc) := cell_of_cells hxea 9
  clear hxea
  go_wp2_with fail
  all_goals
    go_ret
    exact ⟨rfl, HW.out⟩
set_option maxRecDepth 100000 in
set_option maxHeartbeats 2000000 in
theorem ladderRules_any (n0 n1 n2 n3 : Int) (l : List (Nat × Int)) (a : Option Addr) (len cap : Nat) (w : World) (_ : I64 n0) (_ : I64 n1) (_ : I64 n2) (_ : I64 n3) (hS : SlC encIt 2 w.heap.size w a len cap l) (hA : ∀ i ∈ l, Item.ok i) (hg : GT w) :
    Calls Tryz.prog 9 #[.int .i64 n0, .int .i64 n1, .int .i64 n2, .int .i64 n3, .slice a len cap] w fun e w' => e = .returned (.bool true) ∧ Below w.heap.size w w' := by
  by_cases hbad : n1 < 0 ∨ n2 < 0 ∨ n3 < 0 ∨ bottomB n0 < n1 ∨ bottomB n0 < n2 ∨ bottomB n0 < n3
  · have HB := Lib.hid (fun w => Bottom_any n0 w)
    have HH := Lib.hid (shown10_any w)
    generalize bottomB n0 = bt at hbad HB
    clear hS hA hg
    rcases (by omega : n1 < 0 ∨ (0 ≤ n1 ∧ n2 < 0) ∨ (0 ≤ n1 ∧ 0 ≤ n2 ∧ n3 < 0) ∨ (0 ≤ n1 ∧ 0 ≤ n2 ∧ 0 ≤ n3 ∧ bt < n1) ∨ (0 ≤ n1 ∧ 0 ≤ n2 ∧ 0 ≤ n3 ∧ n1 ≤ bt ∧ bt < n2) ∨ (0 ≤ n1 ∧ 0 ≤ n2 ∧ 0 ≤ n3 ∧ n1 ≤ bt ∧ n2 ≤ bt ∧ bt < n3)) with h | ⟨h, h'⟩ | ⟨h, h', h3⟩ | ⟨h, h', h3, h4⟩ | ⟨h, h', h3, h4, h5⟩ | ⟨h, h', h3, h4, h5, h6⟩
    all_goals
      clear hbad
      go_enter Tryz.func9, Tryz.ntmps9
      go_wp2_with fail
      refine HH.out.mono ?_
      rintro e w0 ⟨rfl, hb0⟩
      go_wp2_with (go_at_call 12; refine (HB.out _).mono ?_; rintro e w' ⟨rfl, rfl⟩)
      go_ret
      exact ⟨rfl, hb0⟩
  · obtain ⟨k, rfl, hk, hbk⟩ := bot_kind (n := n0) (by omega)
    rw [hbk] at hbad
    obtain ⟨t1, rfl⟩ : ∃ t : Nat, n1 = t := ⟨n1.toNat, by omega⟩
    obtain ⟨t2, rfl⟩ : ∃ t : Nat, n2 = t := ⟨n2.toNat, by omega⟩
    obtain ⟨t3, rfl⟩ : ∃ t : Nat, n3 = t := ⟨n3.toNat, by omega⟩
    exact rules_good k t1 t2 t3 l a len cap w hk (by omega) (by omega) (by omega) hS hA hg
end Go.Proofs.YtmkefodaibmkhaaGreatDoor

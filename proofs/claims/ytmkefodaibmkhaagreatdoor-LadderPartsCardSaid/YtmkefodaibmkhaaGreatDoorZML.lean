/- The law LadderParts. Printed by gen_law10.py. -/
import Derived.Test.YtmkefodaibmkhaaGreatDoorZMK
namespace Go.Proofs.YtmkefodaibmkhaaGreatDoor
open Go Go.RowKit Go.Shelf

theorem info_item : (Tryz.prog.info? 52).map (fun i => (i.zero, i.size, i.bytes)) = some (some (.agg #[.int .u64 0, .int .u64 0]), 2, 16) := by kernel_rfl
theorem one_item (x : Nat × Int) : ∀ u ∈ encIt x, u.oneCell' = true := by
  intro u hu
  simp only [encIt, List.mem_cons, List.not_mem_nil, or_false] at hu
  rcases hu with rfl | rfl <;> rfl
/-- What the loop knows: so many items turned, so many left. -/
def PI (A : List (Nat × Int)) (n : Nat) (w w5 : World) (v i : Value) (W : World) : Prop := ∃ k j : Nat, k + j = n ∧ ((j = 0 ∧ i = .int .i64 (-1)) ∨ ∃ p : Nat, j = p + 1 ∧ i = .int .i64 (p : Int)) ∧ W.ownsRow w5.heap.size 52 2 v k ((A.reverse.take k).flatMap encIt) ∧ Below w5.heap.size w5 W ∧ Below w.heap.size w W
theorem rev_at (A : List (Nat × Int)) (n k p : Nat) (hn : A.length = n) (h : k + (p + 1) = n) : A.reverse[k]? = A[p]? := by
  rw [List.getElem?_reverse (by omega), show A.length - 1 - k = p by omega]
theorem Merge_mus {k a b : Nat} {A B : List (Nat × Int)} {v1 v2 : Value} {w : World} (hk : k = 1 ∨ k = 2 ∨ k = 3) (ha : a ≤ botN k) (hb : b ≤ botN k) (hA : AllOk A) (hB : AllOk B) (hg : GT w) (hv1 : SkB w v1 k (wkSum k a A).1 (wkSum k a A).2) (hv2 : SkB w v2 k (wkSum k b B).1 (wkSum k b B).2) :
    Calls Tryz.prog 20 #[v2, v1] w fun e w' => ∃ x, e = .returned (.tuple #[x, .int .i64 0]) ∧ SkB w' x k (wkSum k (max a b) (A ++ B)).1 (wkSum k (max a b) (A ++ B)).2 ∧ Below w.heap.size w w' := by
  have h := Merge_any (sum_ok k b hk hb B hB) (sum_ok k a hk ha A hA) hg hv2 hv1
  rw [show ((wkSum k a A).1, (wkSum k a A).2) = wkSum k a A from rfl, show ((wkSum k b B).1, (wkSum k b B).2) = wkSum k b B from rfl, wkMerge_sum_comm hk a b ha hb A B hA hB] at h
  exact h
attribute [-go_sem] Builtin.append_ run_slice_any run_slice_lh run_slice_h run_slice_l
set_option maxRecDepth 100000 in
set_option maxHeartbeats 4000000 in
theorem parts_good (k ta tb : Nat) (n4 : Int) (l : List (Nat × Int)) (a : Option Addr) (len cap : Nat) (w : World) (hk : k = 1 ∨ k = 2 ∨ k = 3) (ha : ta ≤ botN k) (hb : tb ≤ botN k) (hS : SlC encIt 2 w.heap.size w a len cap l) (hA : AllOk l) (hg : GT w) :
    Calls Tryz.prog 8 #[.int .i64 k, .int .i64 ta, .int .i64 tb, .slice a len cap, .int .i64 n4] w fun e w' => e = .returned (.bool true) ∧ Below w.heap.size w w' := by
  have hlc := hS.2.1
  have HF : Hid (∀ W, Calls Tryz.prog 14 #[.slice a len cap] W fun e w' => e = .returned (.slice a (min len 100) cap) ∧ W = w') := fun W => (fewItems_any a len cap W hlc).mono fun e w' h => ⟨h.1, h.2.symm⟩
  obtain ⟨n, hn⟩ : ∃ n, min len 100 = n := ⟨_, rfl⟩
  rw [hn] at HF
  have hnb : n ≤ 100 ∧ n ≤ len := by omega
  clear hn
  obtain ⟨hn1, hn2⟩ := hnb
  have hSn := hS.take n hn2
  have hA' : AllOk (l.take n) := allOk_take hA n
  generalize l.take n = A at hSn hA'
  have hAl : A.length = n := hSn.1.1.symm
  obtain ⟨q, hq⟩ : ∃ q : Int, min n4 (n : Int) = q := ⟨_, rfl⟩
  obtain ⟨K, hK⟩ : ∃ K : Nat, max 0 q = (K : Int) := ⟨(max 0 q).toNat, by omega⟩
  have hKn : K ≤ n := by omega
  obtain ⟨hi, hhi⟩ : ∃ hi, max ta tb = hi := ⟨_, rfl⟩
  have ehi : max (ta : Int) (tb : Int) = (hi : Int) := by omega
  have hhb : hi ≤ botN k := by omega
  have r1 := fun W => take_items a n cap K W (by omega)
  have r2 := fun W => from_items a n cap K W hKn
  have HAll : Hid (∀ W, Below w.heap.size w W → Calls Tryz.prog 13 #[.int .i64 k, .int .i64 hi, .slice a n cap] W fun e w' => ∃ x, e = .returned (.tuple #[x, .int .i64 0]) ∧ SkB w' x k (wkSum k hi A).1 (wkSum k hi A).2 ∧ Below W.heap.size W w') := fun W hB => of_part k hi _ _ _ _ w W hB hk hhb hSn hn1 hA' hg
  have HX : Hid (∀ W, Below w.heap.size w W → Calls Tryz.prog 13 #[.int .i64 k, .int .i64 ta, .slice a K cap] W fun e w' => ∃ x, e = .returned (.tuple #[x, .int .i64 0]) ∧ SkB w' x k (wkSum k ta (A.take K)).1 (wkSum k ta (A.take K)).2 ∧ Below W.heap.size W w') := fun W hB => of_part k ta _ _ _ _ w W hB hk ha (hSn.take K hKn) (by omega) (allOk_take hA' _) hg
  have HY : Hid (∀ W, Below w.heap.size w W → Calls Tryz.prog 13 #[.int .i64 k, .int .i64 tb, .slice (dropA a cap K 2) (n - K) (cap - K)] W fun e w' => ∃ x, e = .returned (.tuple #[x, .int .i64 0]) ∧ SkB w' x k (wkSum k tb (A.drop K)).1 (wkSum k tb (A.drop K)).2 ∧ Below W.heap.size W w') := fun W hB => of_part k tb _ _ _ _ w W hB hk hb (hSn.drop K hKn) (by omega) (allOk_drop hA' _) hg
  have oR : AllOk A.reverse := fun i hi => hA' i (List.mem_reverse.1 hi)
  have HR : Hid (∀ V W a2 cap2, SlC encIt 2 V.heap.size V a2 n cap2 A.reverse → Below V.heap.size V W → GT V → Calls Tryz.prog 13 #[.int .i64 k, .int .i64 hi, .slice a2 n cap2] W fun e w' => ∃ x, e = .returned (.tuple #[x, .int .i64 0]) ∧ SkB w' x k (wkSum k hi A).1 (wkSum k hi A).2 ∧ Below W.heap.size W w') := fun V W a2 cap2 hV hB hgV => by
    have h := of_part k hi A.reverse a2 n cap2 V W hB hk hhb hV hn1 oR hgV
    rw [sum_rev k hi hk hhb A hA'] at h
    exact h
  have HC : Hid ((k = 1 ∨ k = 2 ∨ k = 3) ∧ ta ≤ botN k ∧ tb ≤ botN k ∧ AllOk (A.take K) ∧ AllOk (A.drop K) ∧ GT w ∧ max ta tb = hi ∧ A.length = n) := ⟨hk, ha, hb, allOk_take hA' _, allOk_drop hA' _, hg, hhi, hAl⟩
  have HSn := Lib.hid hSn
  have g1 : ¬ ((botN k : Int) < (ta : Int)) := by omega
  have g2 : ¬ ((botN k : Int) < (tb : Int)) := by omega
  have HB : Hid (∀ w, Calls Tryz.prog 12 #[.int .i64 k] w fun e w' => e = .returned (.int .i64 (botN k : Nat)) ∧ w = w') := fun w => (Bottom_any k w).mono fun e w' ⟨h1, h2⟩ => ⟨by rw [h1, (bot_eq (bdNew_ok k hk)).1], h2⟩
  have HH := Lib.hid (shown10_any w)
  clear hlc hSn hA' hS hA hg hk ha hb hKn hhb oR hhi hAl
  go_enter Tryz.func8, Tryz.ntmps8
  go_wp2_with fail
  refine HH.out.mono ?_
  rintro e w0 ⟨rfl, hb0⟩
  have HW0 := Lib.hid hb0
  clear hb0
  have wn : wrap64 ((n : Int) - 1) = (n : Int) - 1 := by unfold wrap64; omega
  go_wp2_with (first | (go_at_call 14; refine (HF.out _).mono ?_; rintro e w' ⟨rfl, rfl⟩) | (go_at_call 12; refine (HB.out _).mono ?_; rintro e w' ⟨rfl, rfl⟩))
  go_loopw [12, 13] (fun v i wr => PI A n w w0 v i wr) (fun _ i _ => ((intOf i) + 1).toNat)
  case atStart =>
    refine ⟨0, n, by omega, ?_, ⟨rfl, Or.inl ⟨rfl, rfl⟩⟩, Below.refl _ _, HW0.out⟩
    cases n with
    | zero => exact .inl ⟨rfl, rfl⟩
    | succ p => exact .inr ⟨p, rfl, by simp⟩
  case round =>
    obtain ⟨m, j, hmj, hij, hrow, hB0, hBw⟩ := hrel
    rcases hij with ⟨rfl, rfl⟩ | ⟨p, rfl, rfl⟩
    · obtain rfl : m = n := by omega
      rw [List.take_of_length_le (by rw [List.length_reverse, HC.out.2.2.2.2.2.2.2]; exact Nat.le_refl _)] at hrow
      obtain ⟨a2, cap2, rfl, hS2⟩ : ∃ a2 cap2, _ = Value.slice a2 m cap2 ∧ SlC encIt 2 wr.heap.size wr a2 m cap2 A.reverse := by
        have hl : A.reverse.length = m := by rw [List.length_reverse]; exact HC.out.2.2.2.2.2.2.2
        rw [← hl] at hrow
        obtain ⟨a2, cap2, h1, h2, -⟩ := slC_of_owns (enc := encIt) (fun _ => rfl) hrow
        rw [hl] at h1 h2
        exact ⟨a2, cap2, h1, h2⟩
      have HR := Lib.hid (fun W hB => HR.out wr W a2 cap2 hS2 hB (HC.out.2.2.2.2.2.1.go hBw))
      have HW := Lib.hid hBw
      have HV : Hid (Below wr.heap.size wr wr) := Below.refl _ _
      clear hrow hB0 hBw hS2 hmj
      go_wp2_with fail
      refine (HAll.out _ HW.out).mono ?_
      rintro e w1 ⟨x1, rfl, ⟨y1, s1, hy1, rfl, hA1⟩, hb1⟩
      obtain ⟨W1, hW1, hX1, hB1, hs1⟩ := boxes1 w1 #[.int .i64 y1.kind, .int .i64 y1.level, .slice s1.ea s1.el s1.ec, .int .i64 y1.hb, .string y1.hr, .int .i64 y1.cr, .int .i64 y1.cc, .slice s1.ca s1.cl s1.cc, .int .i64 y1.gf, .slice s1.ga s1.gl s1.gc] 36
      have hbb1 := hb1.trans (hB1.mono hb1.size)
      replace HW := Lib.hid (HW.out.trans (hbb1.mono HW.out.size))
      replace HV := Lib.hid (HV.out.trans (hbb1.mono HV.out.size))
      have HX0 := Lib.hid hX1
      have HK0 : Hid (SkB W1 (.agg #[.int .i64 y1.kind, .int .i64 y1.level, .slice s1.ea s1.el s1.ec, .int .i64 y1.hb, .string y1.hr, .int .i64 y1.cr, .int .i64 y1.cc, .slice s1.ca s1.cl s1.cc, .int .i64 y1.gf, .slice s1.ga s1.gl s1.gc]) k (wkSum k hi A).1 (wkSum k hi A).2) := ⟨y1, s1, hy1, rfl, hA1.go hB1⟩
      have HY0 := Lib.hid hy1
      clear hX1 hB1 hs1 hb1 hbb1 hy1 hA1
      go_wp2_with fail
      refine (HX.out _ HW.out).mono ?_
      rintro e w2 ⟨x2, rfl, ⟨y2, s2, hy2, rfl, hA2⟩, hb2⟩
      obtain ⟨W2, hW2, hX2, hB2, hs2⟩ := boxes1 w2 #[.int .i64 y2.kind, .int .i64 y2.level, .slice s2.ea s2.el s2.ec, .int .i64 y2.hb, .string y2.hr, .int .i64 y2.cr, .int .i64 y2.cc, .slice s2.ca s2.cl s2.cc, .int .i64 y2.gf, .slice s2.ga s2.gl s2.gc] 36
      have hbb2 := hb2.trans (hB2.mono hb2.size)
      replace HX0 := Lib.hid (known hbb2 (Nat.le_refl _) HX0.out)
      replace HK0 := Lib.hid (HK0.out.go hbb2)
      replace HW := Lib.hid (HW.out.trans (hbb2.mono HW.out.size))
      replace HV := Lib.hid (HV.out.trans (hbb2.mono HV.out.size))
      have HX1 := Lib.hid hX2
      have HK1 : Hid (SkB W2 (.agg #[.int .i64 y2.kind, .int .i64 y2.level, .slice s2.ea s2.el s2.ec, .int .i64 y2.hb, .string y2.hr, .int .i64 y2.cr, .int .i64 y2.cc, .slice s2.ca s2.cl s2.cc, .int .i64 y2.gf, .slice s2.ga s2.gl s2.gc]) k (wkSum k ta (A.take K)).1 (wkSum k ta (A.take K)).2) := ⟨y2, s2, hy2, rfl, hA2.go hB2⟩
      have HY1 := Lib.hid hy2
      clear hX2 hB2 hs2 hb2 hbb2 hy2 hA2
      go_wp2_with fail
      refine (HY.out _ HW.out).mono ?_
      rintro e w3 ⟨x3, rfl, ⟨y3, s3, hy3, rfl, hA3⟩, hb3⟩
      obtain ⟨W3, hW3, hX3, hB3, hs3⟩ := boxes1 w3 #[.int .i64 y3.kind, .int .i64 y3.level, .slice s3.ea s3.el s3.ec, .int .i64 y3.hb, .string y3.hr, .int .i64 y3.cr, .int .i64 y3.cc, .slice s3.ca s3.cl s3.cc, .int .i64 y3.gf, .slice s3.ga s3.gl s3.gc] 36
      have hbb3 := hb3.trans (hB3.mono hb3.size)
      replace HX0 := Lib.hid (known hbb3 (Nat.le_refl _) HX0.out)
      replace HK0 := Lib.hid (HK0.out.go hbb3)
      replace HX1 := Lib.hid (known hbb3 (Nat.le_refl _) HX1.out)
      replace HK1 := Lib.hid (HK1.out.go hbb3)
      replace HW := Lib.hid (HW.out.trans (hbb3.mono HW.out.size))
      replace HV := Lib.hid (HV.out.trans (hbb3.mono HV.out.size))
      have HX2 := Lib.hid hX3
      have HK2 : Hid (SkB W3 (.agg #[.int .i64 y3.kind, .int .i64 y3.level, .slice s3.ea s3.el s3.ec, .int .i64 y3.hb, .string y3.hr, .int .i64 y3.cr, .int .i64 y3.cc, .slice s3.ca s3.cl s3.cc, .int .i64 y3.gf, .slice s3.ga s3.gl s3.gc]) k (wkSum k tb (A.drop K)).1 (wkSum k tb (A.drop K)).2) := ⟨y3, s3, hy3, rfl, hA3.go hB3⟩
      have HY2 := Lib.hid hy3
      clear hX3 hB3 hs3 hb3 hbb3 hy3 hA3
      go_wp2_with fail
      refine (HR.out _ HV.out).mono ?_
      rintro e w4 ⟨x4, rfl, ⟨y4, s4, hy4, rfl, hA4⟩, hb4⟩
      obtain ⟨W4, hW4, hX4, hB4, hs4⟩ := boxes1 w4 #[.int .i64 y4.kind, .int .i64 y4.level, .slice s4.ea s4.el s4.ec, .int .i64 y4.hb, .string y4.hr, .int .i64 y4.cr, .int .i64 y4.cc, .slice s4.ca s4.cl s4.cc, .int .i64 y4.gf, .slice s4.ga s4.gl s4.gc] 36
      have hbb4 := hb4.trans (hB4.mono hb4.size)
      replace HX0 := Lib.hid (known hbb4 (Nat.le_refl _) HX0.out)
      replace HK0 := Lib.hid (HK0.out.go hbb4)
      replace HX1 := Lib.hid (known hbb4 (Nat.le_refl _) HX1.out)
      replace HK1 := Lib.hid (HK1.out.go hbb4)
      replace HX2 := Lib.hid (known hbb4 (Nat.le_refl _) HX2.out)
      replace HK2 := Lib.hid (HK2.out.go hbb4)
      replace HW := Lib.hid (HW.out.trans (hbb4.mono HW.out.size))
      replace HV := Lib.hid (HV.out.trans (hbb4.mono HV.out.size))
      have HX3 := Lib.hid hX4
      have HK3 : Hid (SkB W4 (.agg #[.int .i64 y4.kind, .int .i64 y4.level, .slice s4.ea s4.el s4.ec, .int .i64 y4.hb, .string y4.hr, .int .i64 y4.cr, .int .i64 y4.cc, .slice s4.ca s4.cl s4.cc, .int .i64 y4.gf, .slice s4.ga s4.gl s4.gc]) k (wkSum k hi A).1 (wkSum k hi A).2) := ⟨y4, s4, hy4, rfl, hA4.go hB4⟩
      have HY3 := Lib.hid hy4
      clear hX4 hB4 hs4 hb4 hbb4 hy4 hA4
      have HM4 := Lib.hid (Merge_sum HC.out.1 HC.out.2.1 HC.out.2.2.1 HC.out.2.2.2.1 HC.out.2.2.2.2.1 (HC.out.2.2.2.2.2.1.go HW.out) HK1.out HK2.out)
      rw [List.take_append_drop, HC.out.2.2.2.2.2.2.1] at HM4
      have hxca4 := HX1.out
      have ca40 : W4.cell? ⟨w2.heap.size, 0, none⟩ = some (.int .i64 y2.kind) := cell_of_cells hxca4 0
      have ca41 : W4.cell? ⟨w2.heap.size, 1, none⟩ = some (.int .i64 y2.level) := cell_of_cells hxca4 1
      have ca42 : W4.cell? ⟨w2.heap.size, 2, none⟩ = some (.slice s2.ea s2.el s2.ec) := cell_of_cells hxca4 2
      have ca43 : W4.cell? ⟨w2.heap.size, 3, none⟩ = some (.int .i64 y2.hb) := cell_of_cells hxca4 3
      have ca44 : W4.cell? ⟨w2.heap.size, 4, none⟩ = some (.string y2.hr) := cell_of_cells hxca4 4
      have ca45 : W4.cell? ⟨w2.heap.size, 5, none⟩ = some (.int .i64 y2.cr) := cell_of_cells hxca4 5
      have ca46 : W4.cell? ⟨w2.heap.size, 6, none⟩ = some (.int .i64 y2.cc) := cell_of_cells hxca4 6
      have ca47 : W4.cell? ⟨w2.heap.size, 7, none⟩ = some (.slice s2.ca s2.cl s2.cc) := cell_of_cells hxca4 7
      have ca48 : W4.cell? ⟨w2.heap.size, 8, none⟩ = some (.int .i64 y2.gf) := cell_of_cells hxca4 8
      have ca49 : W4.cell? ⟨w2.heap.size, 9, none⟩ = some (.slice s2.ga s2.gl s2.gc) := cell_of_cells hxca4 9
      clear hxca4
      have hxcb4 := HX2.out
      have cb40 : W4.cell? ⟨w3.heap.size, 0, none⟩ = some (.int .i64 y3.kind) := cell_of_cells hxcb4 0
      have cb41 : W4.cell? ⟨w3.heap.size, 1, none⟩ = some (.int .i64 y3.level) := cell_of_cells hxcb4 1
      have cb42 : W4.cell? ⟨w3.heap.size, 2, none⟩ = some (.slice s3.ea s3.el s3.ec) := cell_of_cells hxcb4 2
      have cb43 : W4.cell? ⟨w3.heap.size, 3, none⟩ = some (.int .i64 y3.hb) := cell_of_cells hxcb4 3
      have cb44 : W4.cell? ⟨w3.heap.size, 4, none⟩ = some (.string y3.hr) := cell_of_cells hxcb4 4
      have cb45 : W4.cell? ⟨w3.heap.size, 5, none⟩ = some (.int .i64 y3.cr) := cell_of_cells hxcb4 5
      have cb46 : W4.cell? ⟨w3.heap.size, 6, none⟩ = some (.int .i64 y3.cc) := cell_of_cells hxcb4 6
      have cb47 : W4.cell? ⟨w3.heap.size, 7, none⟩ = some (.slice s3.ca s3.cl s3.cc) := cell_of_cells hxcb4 7
      have cb48 : W4.cell? ⟨w3.heap.size, 8, none⟩ = some (.int .i64 y3.gf) := cell_of_cells hxcb4 8
      have cb49 : W4.cell? ⟨w3.heap.size, 9, none⟩ = some (.slice s3.ga s3.gl s3.gc) := cell_of_cells hxcb4 9
      clear hxcb4
      go_wp2_with fail
      refine (HM4.out).mono ?_
      rintro e w5 ⟨x5, rfl, ⟨y5, s5, hy5, rfl, hA5⟩, hb5⟩
      obtain ⟨W5, hW5, hX5, hB5, hs5⟩ := boxes1 w5 #[.int .i64 y5.kind, .int .i64 y5.level, .slice s5.ea s5.el s5.ec, .int .i64 y5.hb, .string y5.hr, .int .i64 y5.cr, .int .i64 y5.cc, .slice s5.ca s5.cl s5.cc, .int .i64 y5.gf, .slice s5.ga s5.gl s5.gc] 36
      have hbb5 := hb5.trans (hB5.mono hb5.size)
      replace HX0 := Lib.hid (known hbb5 (Nat.le_refl _) HX0.out)
      replace HK0 := Lib.hid (HK0.out.go hbb5)
      replace HX1 := Lib.hid (known hbb5 (Nat.le_refl _) HX1.out)
      replace HK1 := Lib.hid (HK1.out.go hbb5)
      replace HX2 := Lib.hid (known hbb5 (Nat.le_refl _) HX2.out)
      replace HK2 := Lib.hid (HK2.out.go hbb5)
      replace HX3 := Lib.hid (known hbb5 (Nat.le_refl _) HX3.out)
      replace HK3 := Lib.hid (HK3.out.go hbb5)
      replace HW := Lib.hid (HW.out.trans (hbb5.mono HW.out.size))
      replace HV := Lib.hid (HV.out.trans (hbb5.mono HV.out.size))
      have HX4 := Lib.hid hX5
      have HK4 : Hid (SkB W5 (.agg #[.int .i64 y5.kind, .int .i64 y5.level, .slice s5.ea s5.el s5.ec, .int .i64 y5.hb, .string y5.hr, .int .i64 y5.cr, .int .i64 y5.cc, .slice s5.ca s5.cl s5.cc, .int .i64 y5.gf, .slice s5.ga s5.gl s5.gc]) k (wkSum k hi A).1 (wkSum k hi A).2) := ⟨y5, s5, hy5, rfl, hA5.go hB5⟩
      have HY4 := Lib.hid hy5
      clear hX5 hB5 hs5 hb5 hbb5 hy5 hA5
      have HM5 := Lib.hid (Merge_mus HC.out.1 HC.out.2.1 HC.out.2.2.1 HC.out.2.2.2.1 HC.out.2.2.2.2.1 (HC.out.2.2.2.2.2.1.go HW.out) HK1.out HK2.out)
      rw [List.take_append_drop, HC.out.2.2.2.2.2.2.1] at HM5
      have hxca5 := HX2.out
      have ca50 : W5.cell? ⟨w3.heap.size, 0, none⟩ = some (.int .i64 y3.kind) := cell_of_cells hxca5 0
      have ca51 : W5.cell? ⟨w3.heap.size, 1, none⟩ = some (.int .i64 y3.level) := cell_of_cells hxca5 1
      have ca52 : W5.cell? ⟨w3.heap.size, 2, none⟩ = some (.slice s3.ea s3.el s3.ec) := cell_of_cells hxca5 2
      have ca53 : W5.cell? ⟨w3.heap.size, 3, none⟩ = some (.int .i64 y3.hb) := cell_of_cells hxca5 3
      have ca54 : W5.cell? ⟨w3.heap.size, 4, none⟩ = some (.string y3.hr) := cell_of_cells hxca5 4
      have ca55 : W5.cell? ⟨w3.heap.size, 5, none⟩ = some (.int .i64 y3.cr) := cell_of_cells hxca5 5
      have ca56 : W5.cell? ⟨w3.heap.size, 6, none⟩ = some (.int .i64 y3.cc) := cell_of_cells hxca5 6
      have ca57 : W5.cell? ⟨w3.heap.size, 7, none⟩ = some (.slice s3.ca s3.cl s3.cc) := cell_of_cells hxca5 7
      have ca58 : W5.cell? ⟨w3.heap.size, 8, none⟩ = some (.int .i64 y3.gf) := cell_of_cells hxca5 8
      have ca59 : W5.cell? ⟨w3.heap.size, 9, none⟩ = some (.slice s3.ga s3.gl s3.gc) := cell_of_cells hxca5 9
      clear hxca5
      have hxcb5 := HX1.out
      have cb50 : W5.cell? ⟨w2.heap.size, 0, none⟩ = some (.int .i64 y2.kind) := cell_of_cells hxcb5 0
      have cb51 : W5.cell? ⟨w2.heap.size, 1, none⟩ = some (.int .i64 y2.level) := cell_of_cells hxcb5 1
      have cb52 : W5.cell? ⟨w2.heap.size, 2, none⟩ = some (.slice s2.ea s2.el s2.ec) := cell_of_cells hxcb5 2
      have cb53 : W5.cell? ⟨w2.heap.size, 3, none⟩ = some (.int .i64 y2.hb) := cell_of_cells hxcb5 3
      have cb54 : W5.cell? ⟨w2.heap.size, 4, none⟩ = some (.string y2.hr) := cell_of_cells hxcb5 4
      have cb55 : W5.cell? ⟨w2.heap.size, 5, none⟩ = some (.int .i64 y2.cr) := cell_of_cells hxcb5 5
      have cb56 : W5.cell? ⟨w2.heap.size, 6, none⟩ = some (.int .i64 y2.cc) := cell_of_cells hxcb5 6
      have cb57 : W5.cell? ⟨w2.heap.size, 7, none⟩ = some (.slice s2.ca s2.cl s2.cc) := cell_of_cells hxcb5 7
      have cb58 : W5.cell? ⟨w2.heap.size, 8, none⟩ = some (.int .i64 y2.gf) := cell_of_cells hxcb5 8
      have cb59 : W5.cell? ⟨w2.heap.size, 9, none⟩ = some (.slice s2.ga s2.gl s2.gc) := cell_of_cells hxcb5 9
      clear hxcb5
      go_wp2_with fail
      refine (HM5.out).mono ?_
      rintro e w6 ⟨x6, rfl, ⟨y6, s6, hy6, rfl, hA6⟩, hb6⟩
      obtain ⟨W6, hW6, hX6, hB6, hs6⟩ := boxes1 w6 #[.int .i64 y6.kind, .int .i64 y6.level, .slice s6.ea s6.el s6.ec, .int .i64 y6.hb, .string y6.hr, .int .i64 y6.cr, .int .i64 y6.cc, .slice s6.ca s6.cl s6.cc, .int .i64 y6.gf, .slice s6.ga s6.gl s6.gc] 36
      have hbb6 := hb6.trans (hB6.mono hb6.size)
      replace HX0 := Lib.hid (known hbb6 (Nat.le_refl _) HX0.out)
      replace HK0 := Lib.hid (HK0.out.go hbb6)
      replace HX1 := Lib.hid (known hbb6 (Nat.le_refl _) HX1.out)
      replace HK1 := Lib.hid (HK1.out.go hbb6)
      replace HX2 := Lib.hid (known hbb6 (Nat.le_refl _) HX2.out)
      replace HK2 := Lib.hid (HK2.out.go hbb6)
      replace HX3 := Lib.hid (known hbb6 (Nat.le_refl _) HX3.out)
      replace HK3 := Lib.hid (HK3.out.go hbb6)
      replace HX4 := Lib.hid (known hbb6 (Nat.le_refl _) HX4.out)
      replace HK4 := Lib.hid (HK4.out.go hbb6)
      replace HW := Lib.hid (HW.out.trans (hbb6.mono HW.out.size))
      replace HV := Lib.hid (HV.out.trans (hbb6.mono HV.out.size))
      have HX5 := Lib.hid hX6
      have HK5 : Hid (SkB W6 (.agg #[.int .i64 y6.kind, .int .i64 y6.level, .slice s6.ea s6.el s6.ec, .int .i64 y6.hb, .string y6.hr, .int .i64 y6.cr, .int .i64 y6.cc, .slice s6.ca s6.cl s6.cc, .int .i64 y6.gf, .slice s6.ga s6.gl s6.gc]) k (wkSum k hi A).1 (wkSum k hi A).2) := ⟨y6, s6, hy6, rfl, hA6.go hB6⟩
      have HY5 := Lib.hid hy6
      clear hX6 hB6 hs6 hb6 hbb6 hy6 hA6
      have HS7 := Lib.hid (Same_sk HK4.out HK0.out)
      have hxda := HX4.out
      have da0 : W6.cell? ⟨w5.heap.size, 0, none⟩ = some (.int .i64 y5.kind) := cell_of_cells hxda 0
      have da1 : W6.cell? ⟨w5.heap.size, 1, none⟩ = some (.int .i64 y5.level) := cell_of_cells hxda 1
      have da2 : W6.cell? ⟨w5.heap.size, 2, none⟩ = some (.slice s5.ea s5.el s5.ec) := cell_of_cells hxda 2
      have da3 : W6.cell? ⟨w5.heap.size, 3, none⟩ = some (.int .i64 y5.hb) := cell_of_cells hxda 3
      have da4 : W6.cell? ⟨w5.heap.size, 4, none⟩ = some (.string y5.hr) := cell_of_cells hxda 4
      have da5 : W6.cell? ⟨w5.heap.size, 5, none⟩ = some (.int .i64 y5.cr) := cell_of_cells hxda 5
      have da6 : W6.cell? ⟨w5.heap.size, 6, none⟩ = some (.int .i64 y5.cc) := cell_of_cells hxda 6
      have da7 : W6.cell? ⟨w5.heap.size, 7, none⟩ = some (.slice s5.ca s5.cl s5.cc) := cell_of_cells hxda 7
      have da8 : W6.cell? ⟨w5.heap.size, 8, none⟩ = some (.int .i64 y5.gf) := cell_of_cells hxda 8
      have da9 : W6.cell? ⟨w5.heap.size, 9, none⟩ = some (.slice s5.ga s5.gl s5.gc) := cell_of_cells hxda 9
      clear hxda
      have hxdb := HX0.out
      have db0 : W6.cell? ⟨w1.heap.size, 0, none⟩ = some (.int .i64 y1.kind) := cell_of_cells hxdb 0
      have db1 : W6.cell? ⟨w1.heap.size, 1, none⟩ = some (.int .i64 y1.level) := cell_of_cells hxdb 1
      have db2 : W6.cell? ⟨w1.heap.size, 2, none⟩ = some (.slice s1.ea s1.el s1.ec) := cell_of_cells hxdb 2
      have db3 : W6.cell? ⟨w1.heap.size, 3, none⟩ = some (.int .i64 y1.hb) := cell_of_cells hxdb 3
      have db4 : W6.cell? ⟨w1.heap.size, 4, none⟩ = some (.string y1.hr) := cell_of_cells hxdb 4
      have db5 : W6.cell? ⟨w1.heap.size, 5, none⟩ = some (.int .i64 y1.cr) := cell_of_cells hxdb 5
      have db6 : W6.cell? ⟨w1.heap.size, 6, none⟩ = some (.int .i64 y1.cc) := cell_of_cells hxdb 6
      have db7 : W6.cell? ⟨w1.heap.size, 7, none⟩ = some (.slice s1.ca s1.cl s1.cc) := cell_of_cells hxdb 7
      have db8 : W6.cell? ⟨w1.heap.size, 8, none⟩ = some (.int .i64 y1.gf) := cell_of_cells hxdb 8
      have db9 : W6.cell? ⟨w1.heap.size, 9, none⟩ = some (.slice s1.ga s1.gl s1.gc) := cell_of_cells hxdb 9
      clear hxdb
      go_wp2_with fail
      refine HS7.out.mono ?_
      rintro e w7 ⟨rfl, hb7⟩
      replace HX0 := Lib.hid (known hb7 (Nat.le_refl _) HX0.out)
      replace HK0 := Lib.hid (HK0.out.go hb7)
      replace HX1 := Lib.hid (known hb7 (Nat.le_refl _) HX1.out)
      replace HK1 := Lib.hid (HK1.out.go hb7)
      replace HX2 := Lib.hid (known hb7 (Nat.le_refl _) HX2.out)
      replace HK2 := Lib.hid (HK2.out.go hb7)
      replace HX3 := Lib.hid (known hb7 (Nat.le_refl _) HX3.out)
      replace HK3 := Lib.hid (HK3.out.go hb7)
      replace HX4 := Lib.hid (known hb7 (Nat.le_refl _) HX4.out)
      replace HK4 := Lib.hid (HK4.out.go hb7)
      replace HX5 := Lib.hid (known hb7 (Nat.le_refl _) HX5.out)
      replace HK5 := Lib.hid (HK5.out.go hb7)
      replace HW := Lib.hid (HW.out.trans (hb7.mono HW.out.size))
      replace HV := Lib.hid (HV.out.trans (hb7.mono HV.out.size))
      clear hb7
      have HS8 := Lib.hid (Same_sk HK5.out HK0.out)
      have hxea := HX5.out
      have ea0 : w7.cell? ⟨w6.heap.size, 0, none⟩ = some (.int .i64 y6.kind) := cell_of_cells hxea 0
      have ea1 : w7.cell? ⟨w6.heap.size, 1, none⟩ = some (.int .i64 y6.level) := cell_of_cells hxea 1
      have ea2 : w7.cell? ⟨w6.heap.size, 2, none⟩ = some (.slice s6.ea s6.el s6.ec) := cell_of_cells hxea 2
      have ea3 : w7.cell? ⟨w6.heap.size, 3, none⟩ = some (.int .i64 y6.hb) := cell_of_cells hxea 3
      have ea4 : w7.cell? ⟨w6.heap.size, 4, none⟩ = some (.string y6.hr) := cell_of_cells hxea 4
      have ea5 : w7.cell? ⟨w6.heap.size, 5, none⟩ = some (.int .i64 y6.cr) := cell_of_cells hxea 5
      have ea6 : w7.cell? ⟨w6.heap.size, 6, none⟩ = some (.int .i64 y6.cc) := cell_of_cells hxea 6
      have ea7 : w7.cell? ⟨w6.heap.size, 7, none⟩ = some (.slice s6.ca s6.cl s6.cc) := cell_of_cells hxea 7
      have ea8 : w7.cell? ⟨w6.heap.size, 8, none⟩ = some (.int .i64 y6.gf) := cell_of_cells hxea 8
      have ea9 : w7.cell? ⟨w6.heap.size, 9, none⟩ = some (.slice s6.ga s6.gl s6.gc) := cell_of_cells hxea 9
      clear hxea
      have hxeb := HX0.out
      have eb0 : w7.cell? ⟨w1.heap.size, 0, none⟩ = some (.int .i64 y1.kind) := cell_of_cells hxeb 0
      have eb1 : w7.cell? ⟨w1.heap.size, 1, none⟩ = some (.int .i64 y1.level) := cell_of_cells hxeb 1
      have eb2 : w7.cell? ⟨w1.heap.size, 2, none⟩ = some (.slice s1.ea s1.el s1.ec) := cell_of_cells hxeb 2
      have eb3 : w7.cell? ⟨w1.heap.size, 3, none⟩ = some (.int .i64 y1.hb) := cell_of_cells hxeb 3
      have eb4 : w7.cell? ⟨w1.heap.size, 4, none⟩ = some (.string y1.hr) := cell_of_cells hxeb 4
      have eb5 : w7.cell? ⟨w1.heap.size, 5, none⟩ = some (.int .i64 y1.cr) := cell_of_cells hxeb 5
      have eb6 : w7.cell? ⟨w1.heap.size, 6, none⟩ = some (.int .i64 y1.cc) := cell_of_cells hxeb 6
      have eb7 : w7.cell? ⟨w1.heap.size, 7, none⟩ = some (.slice s1.ca s1.cl s1.cc) := cell_of_cells hxeb 7
      have eb8 : w7.cell? ⟨w1.heap.size, 8, none⟩ = some (.int .i64 y1.gf) := cell_of_cells hxeb 8
      have eb9 : w7.cell? ⟨w1.heap.size, 9, none⟩ = some (.slice s1.ga s1.gl s1.gc) := cell_of_cells hxeb 9
      clear hxeb
      go_wp2_with fail
      refine HS8.out.mono ?_
      rintro e w8 ⟨rfl, hb8⟩
      replace HX0 := Lib.hid (known hb8 (Nat.le_refl _) HX0.out)
      replace HK0 := Lib.hid (HK0.out.go hb8)
      replace HX1 := Lib.hid (known hb8 (Nat.le_refl _) HX1.out)
      replace HK1 := Lib.hid (HK1.out.go hb8)
      replace HX2 := Lib.hid (known hb8 (Nat.le_refl _) HX2.out)
      replace HK2 := Lib.hid (HK2.out.go hb8)
      replace HX3 := Lib.hid (known hb8 (Nat.le_refl _) HX3.out)
      replace HK3 := Lib.hid (HK3.out.go hb8)
      replace HX4 := Lib.hid (known hb8 (Nat.le_refl _) HX4.out)
      replace HK4 := Lib.hid (HK4.out.go hb8)
      replace HX5 := Lib.hid (known hb8 (Nat.le_refl _) HX5.out)
      replace HK5 := Lib.hid (HK5.out.go hb8)
      replace HW := Lib.hid (HW.out.trans (hb8.mono HW.out.size))
      replace HV := Lib.hid (HV.out.trans (hb8.mono HV.out.size))
      clear hb8
      have HS9 := Lib.hid (Same_sk HK3.out HK0.out)
      have hxfa := HX3.out
      have fa0 : w8.cell? ⟨w4.heap.size, 0, none⟩ = some (.int .i64 y4.kind) := cell_of_cells hxfa 0
      have fa1 : w8.cell? ⟨w4.heap.size, 1, none⟩ = some (.int .i64 y4.level) := cell_of_cells hxfa 1
      have fa2 : w8.cell? ⟨w4.heap.size, 2, none⟩ = some (.slice s4.ea s4.el s4.ec) := cell_of_cells hxfa 2
      have fa3 : w8.cell? ⟨w4.heap.size, 3, none⟩ = some (.int .i64 y4.hb) := cell_of_cells hxfa 3
      have fa4 : w8.cell? ⟨w4.heap.size, 4, none⟩ = some (.string y4.hr) := cell_of_cells hxfa 4
      have fa5 : w8.cell? ⟨w4.heap.size, 5, none⟩ = some (.int .i64 y4.cr) := cell_of_cells hxfa 5
      have fa6 : w8.cell? ⟨w4.heap.size, 6, none⟩ = some (.int .i64 y4.cc) := cell_of_cells hxfa 6
      have fa7 : w8.cell? ⟨w4.heap.size, 7, none⟩ = some (.slice s4.ca s4.cl s4.cc) := cell_of_cells hxfa 7
      have fa8 : w8.cell? ⟨w4.heap.size, 8, none⟩ = some (.int .i64 y4.gf) := cell_of_cells hxfa 8
      have fa9 : w8.cell? ⟨w4.heap.size, 9, none⟩ = some (.slice s4.ga s4.gl s4.gc) := cell_of_cells hxfa 9
      clear hxfa
      have hxfb := HX0.out
      have fb0 : w8.cell? ⟨w1.heap.size, 0, none⟩ = some (.int .i64 y1.kind) := cell_of_cells hxfb 0
      have fb1 : w8.cell? ⟨w1.heap.size, 1, none⟩ = some (.int .i64 y1.level) := cell_of_cells hxfb 1
      have fb2 : w8.cell? ⟨w1.heap.size, 2, none⟩ = some (.slice s1.ea s1.el s1.ec) := cell_of_cells hxfb 2
      have fb3 : w8.cell? ⟨w1.heap.size, 3, none⟩ = some (.int .i64 y1.hb) := cell_of_cells hxfb 3
      have fb4 : w8.cell? ⟨w1.heap.size, 4, none⟩ = some (.string y1.hr) := cell_of_cells hxfb 4
      have fb5 : w8.cell? ⟨w1.heap.size, 5, none⟩ = some (.int .i64 y1.cr) := cell_of_cells hxfb 5
      have fb6 : w8.cell? ⟨w1.heap.size, 6, none⟩ = some (.int .i64 y1.cc) := cell_of_cells hxfb 6
      have fb7 : w8.cell? ⟨w1.heap.size, 7, none⟩ = some (.slice s1.ca s1.cl s1.cc) := cell_of_cells hxfb 7
      have fb8 : w8.cell? ⟨w1.heap.size, 8, none⟩ = some (.int .i64 y1.gf) := cell_of_cells hxfb 8
      have fb9 : w8.cell? ⟨w1.heap.size, 9, none⟩ = some (.slice s1.ga s1.gl s1.gc) := cell_of_cells hxfb 9
      clear hxfb
      go_wp2_with fail
      refine HS9.out.mono ?_
      rintro e w9 ⟨rfl, hb9⟩
      replace HX0 := Lib.hid (known hb9 (Nat.le_refl _) HX0.out)
      replace HK0 := Lib.hid (HK0.out.go hb9)
      replace HX1 := Lib.hid (known hb9 (Nat.le_refl _) HX1.out)
      replace HK1 := Lib.hid (HK1.out.go hb9)
      replace HX2 := Lib.hid (known hb9 (Nat.le_refl _) HX2.out)
      replace HK2 := Lib.hid (HK2.out.go hb9)
      replace HX3 := Lib.hid (known hb9 (Nat.le_refl _) HX3.out)
      replace HK3 := Lib.hid (HK3.out.go hb9)
      replace HX4 := Lib.hid (known hb9 (Nat.le_refl _) HX4.out)
      replace HK4 := Lib.hid (HK4.out.go hb9)
      replace HX5 := Lib.hid (known hb9 (Nat.le_refl _) HX5.out)
      replace HK5 := Lib.hid (HK5.out.go hb9)
      replace HW := Lib.hid (HW.out.trans (hb9.mono HW.out.size))
      replace HV := Lib.hid (HV.out.trans (hb9.mono HV.out.size))
      clear hb9
      go_wp2_with fail
      go_ret
      exact ⟨rfl, HW.out⟩
    · obtain ⟨x, hx⟩ : ∃ x, A[p]? = some x := ⟨_, List.getElem?_eq_getElem (by have := HC.out.2.2.2.2.2.2.2; omega)⟩
      obtain ⟨gb, off, ha, hgb, hc⟩ := HSn.out.1.2 p x hx
      subst ha
      have i0 : wr.cell? ⟨gb, off + p * 2, none⟩ = some (.int .u64 x.1) := (hBw.cell (p := ⟨gb, off + p * 2, none⟩) hgb).trans (hc 0 (by omega))
      have i1 : wr.cell? ⟨gb, off + p * 2 + 1, none⟩ = some (.int .u64 x.2) := (hBw.cell (p := ⟨gb, off + p * 2 + 1, none⟩) hgb).trans (hc 1 (by omega))
      have hz := HW0.out.size
      obtain ⟨g, cap3, w1, hap, hrow1, hB1, hz1, hbl1, hoth1⟩ := append_one Tryz.prog 22 und_items info_item rfl (by decide) hrow (Below.refl w0.heap.size wr) (Nat.le_refl _) hB0.size (encIt x) rfl (one_item x) (by omega) (by decide)
      rw [show (encIt x).toArray = #[.int .u64 x.1, .int .u64 x.2] from rfl] at hap
      have wp : wrap64 ((p : Int) - 1) = (p : Int) - 1 := by unfold wrap64; omega
      have hpn : (p : Int) < (n : Int) := by omega
      have hp0 : (0 : Int) ≤ (p : Int) := by omega
      have HE : Hid (∀ i, ((p = 0 ∧ i = Value.int .i64 (-1)) ∨ ∃ p' : Nat, p = p' + 1 ∧ i = .int .i64 (p' : Int)) → PI A n w w0 (.slice (some ⟨g, 0, none⟩) (m + 1) cap3) i w1) := fun i h => ⟨m + 1, p, by omega, h, by
        rw [take_snoc' (show A.reverse[m]? = some x by rw [rev_at A n m p HC.out.2.2.2.2.2.2.2 hmj]; exact hx), List.flatMap_append]; simpa using hrow1, hB0.trans hB1, hBw.trans (hB1.mono hz)⟩
      clear hrow hrow1 hB1 hbl1 hoth1 hc hx hB0 hBw
      go_wp2_with fail
      go_roundw
      case rel =>
        refine HE.out _ ?_
        cases p with
        | zero => exact .inl ⟨rfl, rfl⟩
        | succ p => exact .inr ⟨p, rfl, by simp⟩
      case measure => simp [intOf] <;> omega
set_option maxRecDepth 100000 in
set_option maxHeartbeats 2000000 in
theorem ladderParts_any (n0 n1 n2 : Int) (l : List (Nat × Int)) (a : Option Addr) (len cap : Nat) (n4 : Int) (w : World) (_ : I64 n0) (_ : I64 n1) (_ : I64 n2) (hS : SlC encIt 2 w.heap.size w a len cap l) (hA : ∀ i ∈ l, Item.ok i) (_ : I64 n4) (hg : GT w) :
    Calls Tryz.prog 8 #[.int .i64 n0, .int .i64 n1, .int .i64 n2, .slice a len cap, .int .i64 n4] w fun e w' => e = .returned (.bool true) ∧ Below w.heap.size w w' := by
  by_cases hbad : n1 < 0 ∨ n2 < 0 ∨ bottomB n0 < n1 ∨ bottomB n0 < n2
  · have HB := Lib.hid (fun w => Bottom_any n0 w)
    have HH := Lib.hid (shown10_any w)
    have HF : Hid (∀ W, Calls Tryz.prog 14 #[.slice a len cap] W fun e w' => e = .returned (.slice a (min len 100) cap) ∧ W = w') := fun W => (fewItems_any a len cap W hS.2.1).mono fun e w' h => ⟨h.1, h.2.symm⟩
    generalize bottomB n0 = bt at hbad HB
    generalize min len 100 = n at HF
    clear hS hA hg
    rcases (by omega : n1 < 0 ∨ (0 ≤ n1 ∧ n2 < 0) ∨ (0 ≤ n1 ∧ 0 ≤ n2 ∧ bt < n1) ∨ (0 ≤ n1 ∧ 0 ≤ n2 ∧ n1 ≤ bt ∧ bt < n2)) with h | ⟨h, h'⟩ | ⟨h, h', h''⟩ | ⟨h, h', h'', h3⟩
    all_goals
      clear hbad
      go_enter Tryz.func8, Tryz.ntmps8
      go_wp2_with fail
      refine HH.out.mono ?_
      rintro e w0 ⟨rfl, hb0⟩
      go_wp2_with (first | (go_at_call 14; refine (HF.out _).mono ?_; rintro e w' ⟨rfl, rfl⟩) | (go_at_call 12; refine (HB.out _).mono ?_; rintro e w' ⟨rfl, rfl⟩))
      go_ret
      exact ⟨rfl, hb0⟩
  · obtain ⟨k, rfl, hk, hbk⟩ := bot_kind (n := n0) (by omega)
    rw [hbk] at hbad
    obtain ⟨t1, rfl⟩ : ∃ t : Nat, n1 = t := ⟨n1.toNat, by omega⟩
    obtain ⟨t2, rfl⟩ : ∃ t : Nat, n2 = t := ⟨n2.toNat, by omega⟩
    exact parts_good k t1 t2 n4 l a len cap w hk (by omega) (by omega) hS hA hg
end Go.Proofs.YtmkefodaibmkhaaGreatDoor

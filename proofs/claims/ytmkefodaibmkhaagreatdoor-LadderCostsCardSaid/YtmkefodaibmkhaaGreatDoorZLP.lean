/- The law LadderCosts. -/
import Derived.Test.YtmkefodaibmkhaaGreatDoorZLO
import Derived.Test.YtmkefodaibmkhaaGreatDoorZLQ
namespace Go.Proofs.YtmkefodaibmkhaaGreatDoor
open Go Go.RowKit Go.Shelf

theorem sum_bins (k t : Nat) (A : List (Nat × Int)) : bdBins (wkSum k t A).2 ≤ A.length := by
  have h1 := bins_sum A (wkTo (0, bdNew k) t)
  have h2 := bins_to (0, bdNew k) t
  have h3 := bins_new k
  unfold wkSum
  dsimp only at h2
  omega
set_option maxRecDepth 100000 in
set_option maxHeartbeats 2000000 in
theorem costs_good (k t : Nat) (l : List (Nat × Int)) (a : Option Addr) (len cap : Nat) (w : World) (hk : k = 1 ∨ k = 2 ∨ k = 3) (ht : t ≤ botN k) (hS : SlC encIt 2 w.heap.size w a len cap l) (hA : AllOk l) (hg : GT w) :
    Calls Tryz.prog 4 #[.int .i64 k, .int .i64 t, .slice a len cap] w fun e w' => e = .returned (.bool true) ∧ Below w.heap.size w w' := by
  have hlc := hS.2.1
  have HF : Hid (∀ W, Calls Tryz.prog 14 #[.slice a len cap] W fun e w' => e = .returned (.slice a (min len 100) cap) ∧ W = w') := fun W => (fewItems_any a len cap W hlc).mono fun e w' h => ⟨h.1, h.2.symm⟩
  obtain ⟨A, hAt⟩ : ∃ A, l.take (min len 100) = A := ⟨_, rfl⟩
  have hA100 : A.length ≤ 100 := by rw [← hAt, List.length_take]; omega
  obtain ⟨m, hm⟩ : ∃ m, min len 100 = m := ⟨_, rfl⟩
  have HO1 : Hid (∀ W, Below w.heap.size w W → Calls Tryz.prog 13 #[.int .i64 k, .int .i64 t, .slice a m cap] W fun e w' => ∃ x, e = .returned (.tuple #[x, .int .i64 0]) ∧ SkB w' x k (wkSum k t A).1 (wkSum k t A).2 ∧ Below W.heap.size W w') := fun W hB => by
    rw [← hAt, ← hm]
    exact of_few k t l a len cap W hk ht ((hS.below hB).mono hB.size) hA (hg.go hB)
  have hAA : AllOk A := by rw [← hAt]; exact fun i h => hA i (List.mem_of_mem_take h)
  have hok := sum_ok k t hk ht A hAA
  have hbins := sum_bins k t A
  rw [hm] at HF
  have HB : Hid (∀ w, Calls Tryz.prog 12 #[.int .i64 k] w fun e w' => e = .returned (.int .i64 (botN k : Nat)) ∧ w = w') := fun w => (Bottom_any k w).mono fun e w' ⟨h1, h2⟩ => ⟨by rw [h1, (bot_eq (bdNew_ok k hk)).1], h2⟩
  obtain ⟨L, hL⟩ : ∃ L, (wkSum k t A).1 = L := ⟨_, rfl⟩
  obtain ⟨B, hBd⟩ : ∃ B, (wkSum k t A).2 = B := ⟨_, rfl⟩
  rw [hL, hBd] at hok HO1
  rw [hBd] at hbins
  have hmax := cost_max hok (by omega)
  have HC : Hid (∀ v W, SkB W v k L B → Calls Tryz.prog 18 #[v] W fun e w' => e = .returned (.int .i64 ((bdCost B : Int) + 16)) ∧ Below W.heap.size W w') := fun v W h => Cost_sk hok h
  have HH := Lib.hid (shown10_any w)
  have HGT := Lib.hid hg
  have g1 : ¬ ((botN k : Int) < (t : Int)) := by omega
  have hLb := ok_bot hok
  have hb4 : botN k ≤ 4 := by unfold botN; split <;> omega
  have HOK := Lib.hid hok
  have HK := Lib.hid hk
  clear hlc hAt hm hk hS hA hg hAA hok hbins hL hBd hA100
  obtain ⟨n, hn⟩ : ∃ n : Int, (bdCost B : Int) + 16 = n := ⟨_, rfl⟩
  rw [hn] at HC
  have n1 : ¬ (n < 16) := by omega
  have n2 : ¬ (1616 < n) := by omega
  have HNn := Lib.hid hn
  clear hn
  go_enter Tryz.func4, Tryz.ntmps4
  go_wp2_with fail
  refine HH.out.mono ?_
  rintro e w0 ⟨rfl, hb0⟩
  have HB0 := Lib.hid hb0
  clear hb0
  go_wp2_with (go_at_call 12; refine (HB.out _).mono ?_; rintro e w' ⟨rfl, rfl⟩)
  go_wp2_with (go_at_call 14; refine (HF.out _).mono ?_; rintro e w' ⟨rfl, rfl⟩)
  refine (HO1.out _ HB0.out).mono ?_
  rintro e w1 ⟨x1, rfl, ⟨y1, s1, hy1, rfl, hA1⟩, hb1⟩
  obtain ⟨W1, hW1, hX1, hB1, hs1⟩ := boxes1 w1 #[.int .i64 y1.kind, .int .i64 y1.level, .slice s1.ea s1.el s1.ec, .int .i64 y1.hb, .string y1.hr, .int .i64 y1.cr, .int .i64 y1.cc, .slice s1.ca s1.cl s1.cc, .int .i64 y1.gf, .slice s1.ga s1.gl s1.gc] 36
  have HK1 : Hid (SkB W1 (.agg #[.int .i64 y1.kind, .int .i64 y1.level, .slice s1.ea s1.el s1.ec, .int .i64 y1.hb, .string y1.hr, .int .i64 y1.cr, .int .i64 y1.cc, .slice s1.ca s1.cl s1.cc, .int .i64 y1.gf, .slice s1.ga s1.gl s1.gc]) k L B) := ⟨y1, s1, hy1, rfl, hA1.go hB1⟩
  have HB1 : Hid (Below w.heap.size w W1) := HB0.out.trans ((hb1.trans (hB1.mono hb1.size)).mono HB0.out.size)
  have HX1 := Lib.hid hX1
  have HY1 : Hid (y1.level = (L : Int)) := by rw [Hid, hy1]; exact (skOf_kind k L B).2
  have a0 : W1.cell? ⟨w1.heap.size, 0, none⟩ = some (.int .i64 y1.kind) := cell_of_cells hX1 0
  have a1 : W1.cell? ⟨w1.heap.size, 1, none⟩ = some (.int .i64 y1.level) := cell_of_cells hX1 1
  have a2 : W1.cell? ⟨w1.heap.size, 2, none⟩ = some (.slice s1.ea s1.el s1.ec) := cell_of_cells hX1 2
  have a3 : W1.cell? ⟨w1.heap.size, 3, none⟩ = some (.int .i64 y1.hb) := cell_of_cells hX1 3
  have a4 : W1.cell? ⟨w1.heap.size, 4, none⟩ = some (.string y1.hr) := cell_of_cells hX1 4
  have a5 : W1.cell? ⟨w1.heap.size, 5, none⟩ = some (.int .i64 y1.cr) := cell_of_cells hX1 5
  have a6 : W1.cell? ⟨w1.heap.size, 6, none⟩ = some (.int .i64 y1.cc) := cell_of_cells hX1 6
  have a7 : W1.cell? ⟨w1.heap.size, 7, none⟩ = some (.slice s1.ca s1.cl s1.cc) := cell_of_cells hX1 7
  have a8 : W1.cell? ⟨w1.heap.size, 8, none⟩ = some (.int .i64 y1.gf) := cell_of_cells hX1 8
  have a9 : W1.cell? ⟨w1.heap.size, 9, none⟩ = some (.slice s1.ga s1.gl s1.gc) := cell_of_cells hX1 9
  clear hX1 hB1 hs1 hb1 hy1 hA1
  by_cases hlt : L < botN k
  · have hLow := Lower_any HOK.out hlt HK1.out
    have hok2 := bd_low_ok HOK.out hlt
    have hless := low_less HOK.out hlt
    have HC2 : Hid (∀ v W, SkB W v k (L + 1) B.low → Calls Tryz.prog 18 #[v] W fun e w' => e = .returned (.int .i64 ((bdCost B.low : Int) + 16)) ∧ Below W.heap.size W w') := fun v W h => Cost_sk hok2 h
    have HLow := Lib.hid hLow
    obtain ⟨q, hq⟩ : ∃ q : Int, (bdCost B.low : Int) + 16 = q := ⟨_, rfl⟩
    rw [hq] at HC2
    have q1 : 16 ≤ q := by omega
    have Hq2 : Hid (k = 2 → q < n) := fun e => by have := hless.1 e; have := HNn.out; omega
    have Hq3 : Hid (k = 3 → q ≤ n) := fun e => by have := hless.2.1 e; have := HNn.out; omega
    have Hq4 : Hid (k = 1 → L ≠ 0 → q < n) := fun e e0 => by have := hless.2.2 e e0; have := HNn.out; omega
    clear hLow hok2 hless hq
    go_wp2_with fail
    refine HLow.out.mono ?_
    rintro e w2 ⟨x2, rfl, ⟨y2, s2, hy2, rfl, hA2⟩, hb2⟩
    obtain ⟨W2, hW2, hX2, hB2, hs2⟩ := boxes1 w2 #[.int .i64 y2.kind, .int .i64 y2.level, .slice s2.ea s2.el s2.ec, .int .i64 y2.hb, .string y2.hr, .int .i64 y2.cr, .int .i64 y2.cc, .slice s2.ca s2.cl s2.cc, .int .i64 y2.gf, .slice s2.ga s2.gl s2.gc] 36
    have hb12 : Below W1.heap.size W1 W2 := hb2.trans (hB2.mono hb2.size)
    have HK2 : Hid (SkB W2 (.agg #[.int .i64 y2.kind, .int .i64 y2.level, .slice s2.ea s2.el s2.ec, .int .i64 y2.hb, .string y2.hr, .int .i64 y2.cr, .int .i64 y2.cc, .slice s2.ca s2.cl s2.cc, .int .i64 y2.gf, .slice s2.ga s2.gl s2.gc]) k (L + 1) B.low) := ⟨y2, s2, hy2, rfl, hA2.go hB2⟩
    have hX12 := known hb12 (Nat.le_refl _) HX1.out
    have HY2 : Hid (y2.level = (L : Int) + 1) := by rw [Hid, hy2, (skOf_kind k (L + 1) B.low).2]; omega
    have HCn := Lib.hid (HC.out _ W2 (HK1.out.go hb12))
    have HX2 := Lib.hid hX2
    have HB12 := Lib.hid hb12
    have b0 : W2.cell? ⟨w1.heap.size, 0, none⟩ = some (.int .i64 y1.kind) := cell_of_cells hX12 0
    have b1 : W2.cell? ⟨w1.heap.size, 1, none⟩ = some (.int .i64 y1.level) := cell_of_cells hX12 1
    have b2 : W2.cell? ⟨w1.heap.size, 2, none⟩ = some (.slice s1.ea s1.el s1.ec) := cell_of_cells hX12 2
    have b3 : W2.cell? ⟨w1.heap.size, 3, none⟩ = some (.int .i64 y1.hb) := cell_of_cells hX12 3
    have b4 : W2.cell? ⟨w1.heap.size, 4, none⟩ = some (.string y1.hr) := cell_of_cells hX12 4
    have b5 : W2.cell? ⟨w1.heap.size, 5, none⟩ = some (.int .i64 y1.cr) := cell_of_cells hX12 5
    have b6 : W2.cell? ⟨w1.heap.size, 6, none⟩ = some (.int .i64 y1.cc) := cell_of_cells hX12 6
    have b7 : W2.cell? ⟨w1.heap.size, 7, none⟩ = some (.slice s1.ca s1.cl s1.cc) := cell_of_cells hX12 7
    have b8 : W2.cell? ⟨w1.heap.size, 8, none⟩ = some (.int .i64 y1.gf) := cell_of_cells hX12 8
    have b9 : W2.cell? ⟨w1.heap.size, 9, none⟩ = some (.slice s1.ga s1.gl s1.gc) := cell_of_cells hX12 9
    clear hX2 hB2 hs2 hb2 hy2 hA2 hX12 hb12
    go_wp2_with fail
    refine HCn.out.mono ?_
    rintro e w3 ⟨rfl, hb3⟩
    have HCm := Lib.hid (HC2.out _ w3 (HK2.out.go hb3))
    have hX23 := known hb3 (Nat.le_refl _) HX2.out
    have c0 : w3.cell? ⟨w2.heap.size, 0, none⟩ = some (.int .i64 y2.kind) := cell_of_cells hX23 0
    have c1 : w3.cell? ⟨w2.heap.size, 1, none⟩ = some (.int .i64 y2.level) := cell_of_cells hX23 1
    have c2 : w3.cell? ⟨w2.heap.size, 2, none⟩ = some (.slice s2.ea s2.el s2.ec) := cell_of_cells hX23 2
    have c3 : w3.cell? ⟨w2.heap.size, 3, none⟩ = some (.int .i64 y2.hb) := cell_of_cells hX23 3
    have c4 : w3.cell? ⟨w2.heap.size, 4, none⟩ = some (.string y2.hr) := cell_of_cells hX23 4
    have c5 : w3.cell? ⟨w2.heap.size, 5, none⟩ = some (.int .i64 y2.cr) := cell_of_cells hX23 5
    have c6 : w3.cell? ⟨w2.heap.size, 6, none⟩ = some (.int .i64 y2.cc) := cell_of_cells hX23 6
    have c7 : w3.cell? ⟨w2.heap.size, 7, none⟩ = some (.slice s2.ca s2.cl s2.cc) := cell_of_cells hX23 7
    have c8 : w3.cell? ⟨w2.heap.size, 8, none⟩ = some (.int .i64 y2.gf) := cell_of_cells hX23 8
    have c9 : w3.cell? ⟨w2.heap.size, 9, none⟩ = some (.slice s2.ga s2.gl s2.gc) := cell_of_cells hX23 9
    have HB3 := Lib.hid hb3
    clear hX23 hb3
    go_wp2_with fail
    refine HCm.out.mono ?_
    rintro e w4 ⟨rfl, hb4⟩
    have hX24 := known (HB3.out.trans (hb4.mono HB3.out.size)) (Nat.le_refl _) HX2.out
    have hX14 := known (HB12.out.trans ((HB3.out.trans (hb4.mono HB3.out.size)).mono HB12.out.size)) (Nat.le_refl _) HX1.out
    have d0 : w4.cell? ⟨w2.heap.size, 0, none⟩ = some (.int .i64 y2.kind) := cell_of_cells hX24 0
    have d1 : w4.cell? ⟨w2.heap.size, 1, none⟩ = some (.int .i64 y2.level) := cell_of_cells hX24 1
    have d2 : w4.cell? ⟨w2.heap.size, 2, none⟩ = some (.slice s2.ea s2.el s2.ec) := cell_of_cells hX24 2
    have d3 : w4.cell? ⟨w2.heap.size, 3, none⟩ = some (.int .i64 y2.hb) := cell_of_cells hX24 3
    have d4 : w4.cell? ⟨w2.heap.size, 4, none⟩ = some (.string y2.hr) := cell_of_cells hX24 4
    have d5 : w4.cell? ⟨w2.heap.size, 5, none⟩ = some (.int .i64 y2.cr) := cell_of_cells hX24 5
    have d6 : w4.cell? ⟨w2.heap.size, 6, none⟩ = some (.int .i64 y2.cc) := cell_of_cells hX24 6
    have d7 : w4.cell? ⟨w2.heap.size, 7, none⟩ = some (.slice s2.ca s2.cl s2.cc) := cell_of_cells hX24 7
    have d8 : w4.cell? ⟨w2.heap.size, 8, none⟩ = some (.int .i64 y2.gf) := cell_of_cells hX24 8
    have d9 : w4.cell? ⟨w2.heap.size, 9, none⟩ = some (.slice s2.ga s2.gl s2.gc) := cell_of_cells hX24 9
    have f0 : w4.cell? ⟨w1.heap.size, 0, none⟩ = some (.int .i64 y1.kind) := cell_of_cells hX14 0
    have f1 : w4.cell? ⟨w1.heap.size, 1, none⟩ = some (.int .i64 y1.level) := cell_of_cells hX14 1
    have f2 : w4.cell? ⟨w1.heap.size, 2, none⟩ = some (.slice s1.ea s1.el s1.ec) := cell_of_cells hX14 2
    have f3 : w4.cell? ⟨w1.heap.size, 3, none⟩ = some (.int .i64 y1.hb) := cell_of_cells hX14 3
    have f4 : w4.cell? ⟨w1.heap.size, 4, none⟩ = some (.string y1.hr) := cell_of_cells hX14 4
    have f5 : w4.cell? ⟨w1.heap.size, 5, none⟩ = some (.int .i64 y1.cr) := cell_of_cells hX14 5
    have f6 : w4.cell? ⟨w1.heap.size, 6, none⟩ = some (.int .i64 y1.cc) := cell_of_cells hX14 6
    have f7 : w4.cell? ⟨w1.heap.size, 7, none⟩ = some (.slice s1.ca s1.cl s1.cc) := cell_of_cells hX14 7
    have f8 : w4.cell? ⟨w1.heap.size, 8, none⟩ = some (.int .i64 y1.gf) := cell_of_cells hX14 8
    have f9 : w4.cell? ⟨w1.heap.size, 9, none⟩ = some (.slice s1.ga s1.gl s1.gc) := cell_of_cells hX14 9
    have hl1 := HY1.out
    have hl2 := HY2.out
    have hw1 : wrap64 ((L : Int) + 1) = (L : Int) + 1 := by unfold wrap64; omega
    have hw2 : IntKind.i64.wrap ((L : Int) + 1) = (L : Int) + 1 := IntWalk.i64_in _ (by omega)
    have HE : Hid (Below w.heap.size w w4) := HB1.out.trans ((HB12.out.trans ((HB3.out.trans (hb4.mono HB3.out.size)).mono HB12.out.size)).mono HB1.out.size)
    clear hX24 hX14 hb4
    rcases HK.out with rfl | rfl | rfl
    · by_cases h0 : L = 0
      · go_wp2_with fail
        go_ret
        exact ⟨rfl, HE.out⟩
      · have q4 := Hq4.out rfl h0
        go_wp2_with fail
        go_ret
        exact ⟨rfl, HE.out⟩
    · have q2 := Hq2.out rfl
      go_wp2_with fail
      go_ret
      exact ⟨rfl, HE.out⟩
    · have q3 := Hq3.out rfl
      go_wp2_with fail
      go_ret
      exact ⟨rfl, HE.out⟩
  · obtain hLe : L = botN k := by omega
    have HLow := Lib.hid (Lower_bot HOK.out hLe (HGT.out.go HB1.out) HK1.out)
    go_wp2_with fail
    refine HLow.out.mono ?_
    rintro e w2 ⟨rfl, hb2⟩
    obtain ⟨W2, hW2, hX2, hB2, hs2⟩ := boxes1 w2 #[.int .i64 0, .int .i64 0, .slice none 0 0, .int .i64 0, .string ⟨#[]⟩, .int .i64 0, .int .i64 0, .slice none 0 0, .int .i64 0, .slice none 0 0] 36
    have hb12 : Below W1.heap.size W1 W2 := hb2.trans (hB2.mono hb2.size)
    have hX12 := known hb12 (Nat.le_refl _) HX1.out
    have HCn := Lib.hid (HC.out _ W2 (HK1.out.go hb12))
    have HB12 := Lib.hid hb12
    have b0 : W2.cell? ⟨w1.heap.size, 0, none⟩ = some (.int .i64 y1.kind) := cell_of_cells hX12 0
    have b1 : W2.cell? ⟨w1.heap.size, 1, none⟩ = some (.int .i64 y1.level) := cell_of_cells hX12 1
    have b2 : W2.cell? ⟨w1.heap.size, 2, none⟩ = some (.slice s1.ea s1.el s1.ec) := cell_of_cells hX12 2
    have b3 : W2.cell? ⟨w1.heap.size, 3, none⟩ = some (.int .i64 y1.hb) := cell_of_cells hX12 3
    have b4 : W2.cell? ⟨w1.heap.size, 4, none⟩ = some (.string y1.hr) := cell_of_cells hX12 4
    have b5 : W2.cell? ⟨w1.heap.size, 5, none⟩ = some (.int .i64 y1.cr) := cell_of_cells hX12 5
    have b6 : W2.cell? ⟨w1.heap.size, 6, none⟩ = some (.int .i64 y1.cc) := cell_of_cells hX12 6
    have b7 : W2.cell? ⟨w1.heap.size, 7, none⟩ = some (.slice s1.ca s1.cl s1.cc) := cell_of_cells hX12 7
    have b8 : W2.cell? ⟨w1.heap.size, 8, none⟩ = some (.int .i64 y1.gf) := cell_of_cells hX12 8
    have b9 : W2.cell? ⟨w1.heap.size, 9, none⟩ = some (.slice s1.ga s1.gl s1.gc) := cell_of_cells hX12 9
    have c0 : W2.cell? ⟨w2.heap.size, 0, none⟩ = some (.int .i64 0) := cell_of_cells hX2 0
    have c1 : W2.cell? ⟨w2.heap.size, 1, none⟩ = some (.int .i64 0) := cell_of_cells hX2 1
    have c2 : W2.cell? ⟨w2.heap.size, 2, none⟩ = some (.slice none 0 0) := cell_of_cells hX2 2
    have c3 : W2.cell? ⟨w2.heap.size, 3, none⟩ = some (.int .i64 0) := cell_of_cells hX2 3
    have c4 : W2.cell? ⟨w2.heap.size, 4, none⟩ = some (.string ⟨#[]⟩) := cell_of_cells hX2 4
    have c5 : W2.cell? ⟨w2.heap.size, 5, none⟩ = some (.int .i64 0) := cell_of_cells hX2 5
    have c6 : W2.cell? ⟨w2.heap.size, 6, none⟩ = some (.int .i64 0) := cell_of_cells hX2 6
    have c7 : W2.cell? ⟨w2.heap.size, 7, none⟩ = some (.slice none 0 0) := cell_of_cells hX2 7
    have c8 : W2.cell? ⟨w2.heap.size, 8, none⟩ = some (.int .i64 0) := cell_of_cells hX2 8
    have c9 : W2.cell? ⟨w2.heap.size, 9, none⟩ = some (.slice none 0 0) := cell_of_cells hX2 9
    have f0 : W2.frozen? ⟨w2.heap.size, 0, none⟩ = false := frozen_of_cells hX2 0
    have f1 : W2.frozen? ⟨w2.heap.size, 1, none⟩ = false := frozen_of_cells hX2 1
    have f2 : W2.frozen? ⟨w2.heap.size, 2, none⟩ = false := frozen_of_cells hX2 2
    have f3 : W2.frozen? ⟨w2.heap.size, 3, none⟩ = false := frozen_of_cells hX2 3
    have f4 : W2.frozen? ⟨w2.heap.size, 4, none⟩ = false := frozen_of_cells hX2 4
    have f5 : W2.frozen? ⟨w2.heap.size, 5, none⟩ = false := frozen_of_cells hX2 5
    have f6 : W2.frozen? ⟨w2.heap.size, 6, none⟩ = false := frozen_of_cells hX2 6
    have f7 : W2.frozen? ⟨w2.heap.size, 7, none⟩ = false := frozen_of_cells hX2 7
    have f8 : W2.frozen? ⟨w2.heap.size, 8, none⟩ = false := frozen_of_cells hX2 8
    have f9 : W2.frozen? ⟨w2.heap.size, 9, none⟩ = false := frozen_of_cells hX2 9
    have z0 : W2.setCell ⟨w2.heap.size, 0, none⟩ (.int .i64 0) = W2 := set_same hX2 rfl
    have z1 : W2.setCell ⟨w2.heap.size, 1, none⟩ (.int .i64 0) = W2 := set_same hX2 rfl
    have z2 : W2.setCell ⟨w2.heap.size, 2, none⟩ (.slice none 0 0) = W2 := set_same hX2 rfl
    have z3 : W2.setCell ⟨w2.heap.size, 3, none⟩ (.int .i64 0) = W2 := set_same hX2 rfl
    have z4 : W2.setCell ⟨w2.heap.size, 4, none⟩ (.string ⟨#[]⟩) = W2 := set_same hX2 rfl
    have z5 : W2.setCell ⟨w2.heap.size, 5, none⟩ (.int .i64 0) = W2 := set_same hX2 rfl
    have z6 : W2.setCell ⟨w2.heap.size, 6, none⟩ (.int .i64 0) = W2 := set_same hX2 rfl
    have z7 : W2.setCell ⟨w2.heap.size, 7, none⟩ (.slice none 0 0) = W2 := set_same hX2 rfl
    have z8 : W2.setCell ⟨w2.heap.size, 8, none⟩ (.int .i64 0) = W2 := set_same hX2 rfl
    have z9 : W2.setCell ⟨w2.heap.size, 9, none⟩ (.slice none 0 0) = W2 := set_same hX2 rfl
    clear hX2 hB2 hs2 hb2 hX12 hb12
    go_wp2_with fail
    refine HCn.out.mono ?_
    rintro e w3 ⟨rfl, hb3⟩
    have hX13 := known (HB12.out.trans (hb3.mono HB12.out.size)) (Nat.le_refl _) HX1.out
    have d0 : w3.cell? ⟨w1.heap.size, 0, none⟩ = some (.int .i64 y1.kind) := cell_of_cells hX13 0
    have d1 : w3.cell? ⟨w1.heap.size, 1, none⟩ = some (.int .i64 y1.level) := cell_of_cells hX13 1
    have d2 : w3.cell? ⟨w1.heap.size, 2, none⟩ = some (.slice s1.ea s1.el s1.ec) := cell_of_cells hX13 2
    have d3 : w3.cell? ⟨w1.heap.size, 3, none⟩ = some (.int .i64 y1.hb) := cell_of_cells hX13 3
    have d4 : w3.cell? ⟨w1.heap.size, 4, none⟩ = some (.string y1.hr) := cell_of_cells hX13 4
    have d5 : w3.cell? ⟨w1.heap.size, 5, none⟩ = some (.int .i64 y1.cr) := cell_of_cells hX13 5
    have d6 : w3.cell? ⟨w1.heap.size, 6, none⟩ = some (.int .i64 y1.cc) := cell_of_cells hX13 6
    have d7 : w3.cell? ⟨w1.heap.size, 7, none⟩ = some (.slice s1.ca s1.cl s1.cc) := cell_of_cells hX13 7
    have d8 : w3.cell? ⟨w1.heap.size, 8, none⟩ = some (.int .i64 y1.gf) := cell_of_cells hX13 8
    have d9 : w3.cell? ⟨w1.heap.size, 9, none⟩ = some (.slice s1.ga s1.gl s1.gc) := cell_of_cells hX13 9
    have hl1 : y1.level = (botN k : Int) := by rw [HY1.out, hLe]
    have HB3 := Lib.hid hb3
    clear hX13 hb3
    go_wp2_with fail
    go_quiet ((go_at_call 12; exact Calls.quiet_of_same ((HB.out _).mono fun e w' h => ⟨h.1, h.2.symm⟩)))
    go_wp2_with fail
    go_ret
    exact ⟨rfl, HB1.out.trans ((HB12.out.trans ((HB3.out.trans ((drewN_below nq).mono HB3.out.size)).mono HB12.out.size)).mono HB1.out.size)⟩
set_option maxRecDepth 100000 in
set_option maxHeartbeats 2000000 in
theorem ladderCosts_any (n0 n1 : Int) (l : List (Nat × Int)) (a : Option Addr) (len cap : Nat) (w : World) (_ : I64 n0) (_ : I64 n1) (hS : SlC encIt 2 w.heap.size w a len cap l) (hA : ∀ i ∈ l, Item.ok i) (hg : GT w) :
    Calls Tryz.prog 4 #[.int .i64 n0, .int .i64 n1, .slice a len cap] w fun e w' => e = .returned (.bool true) ∧ Below w.heap.size w w' := by
  by_cases hbad : n1 < 0 ∨ bottomB n0 < n1
  · have HB := Lib.hid (fun w => Bottom_any n0 w)
    have HH := Lib.hid (shown10_any w)
    generalize bottomB n0 = bt at hbad HB
    clear hS hA hg
    rcases (by omega : n1 < 0 ∨ (0 ≤ n1 ∧ bt < n1)) with h | ⟨h, h'⟩
    all_goals
      clear hbad
      go_enter Tryz.func4, Tryz.ntmps4
      go_wp2_with fail
      refine HH.out.mono ?_
      rintro e w0 ⟨rfl, hb0⟩
      go_wp2_with (go_at_call 12; refine (HB.out _).mono ?_; rintro e w' ⟨rfl, rfl⟩)
      go_ret
      exact ⟨rfl, hb0⟩
  · obtain ⟨k, rfl, hk, hbk⟩ := bot_kind (n := n0) (by omega)
    rw [hbk] at hbad
    obtain ⟨t1, rfl⟩ : ∃ t : Nat, n1 = t := ⟨n1.toNat, by omega⟩
    exact costs_good k t1 l a len cap w hk (by omega) hS hA hg
end Go.Proofs.YtmkefodaibmkhaaGreatDoor

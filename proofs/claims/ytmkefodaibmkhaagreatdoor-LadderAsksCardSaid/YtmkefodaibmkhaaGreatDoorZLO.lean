/- Laws of layer 10: shown. The law LadderLowers. -/
import Derived.Test.YtmkefodaibmkhaaGreatDoorZLM
namespace Go.Proofs.YtmkefodaibmkhaaGreatDoor
open Go Go.RowKit Go.Shelf

theorem cost_new (k : Nat) (hk : k = 1 ∨ k = 2 ∨ k = 3) : (bdCost (bdNew k) : Int) + 16 = if k = 2 then 528 else 16 := by
  rcases hk with rfl | rfl | rfl
  · rfl
  · show ((8 * (cmNone 32).length : Nat) : Int) + 16 = 528
    simp [cmNone]
  · rfl
set_option maxRecDepth 100000 in
set_option maxHeartbeats 2000000 in
theorem shown10_any (w : World) : Calls Tryz.prog 11 #[] w fun e w' => e = .returned (.bool true) ∧ Below w.heap.size w w' := by
  have HN1 := Lib.hid (fun W => New_any 1 (by omega) W)
  have HN2 := Lib.hid (fun W => New_any 2 (by omega) W)
  have HN3 := Lib.hid (fun W => New_any 3 (by omega) W)
  have HN4 := Lib.hid (fun W => New_no 4 rfl rfl rfl W)
  have HC1 : Hid (∀ v W, SkB W v 1 0 (bdNew 1) → Calls Tryz.prog 18 #[v] W fun e w' => e = .returned (.int .i64 16) ∧ Below W.heap.size W w') := fun v W h => by
    have h1 := Cost_sk (bdNew_ok 1 (by omega)) h
    rw [cost_new 1 (by omega)] at h1
    exact h1
  have HC2 : Hid (∀ v W, SkB W v 2 0 (bdNew 2) → Calls Tryz.prog 18 #[v] W fun e w' => e = .returned (.int .i64 528) ∧ Below W.heap.size W w') := fun v W h => by
    have h1 := Cost_sk (bdNew_ok 2 (by omega)) h
    rw [cost_new 2 (by omega)] at h1
    exact h1
  have HC3 : Hid (∀ v W, SkB W v 3 0 (bdNew 3) → Calls Tryz.prog 18 #[v] W fun e w' => e = .returned (.int .i64 16) ∧ Below W.heap.size W w') := fun v W h => by
    have h1 := Cost_sk (bdNew_ok 3 (by omega)) h
    rw [cost_new 3 (by omega)] at h1
    exact h1
  go_enter Tryz.func11, Tryz.ntmps11
  go_wp2_with fail
  refine (HN1.out _).mono ?_
  rintro e w1 ⟨x1, rfl, ⟨y1, s1, hy1, rfl, hA1⟩, hb1⟩
  obtain ⟨W1, hW1, hX1, hB1, hs1⟩ := boxes1 w1 #[.int .i64 y1.kind, .int .i64 y1.level, .slice s1.ea s1.el s1.ec, .int .i64 y1.hb, .string y1.hr, .int .i64 y1.cr, .int .i64 y1.cc, .slice s1.ca s1.cl s1.cc, .int .i64 y1.gf, .slice s1.ga s1.gl s1.gc] 36
  have hK1 : SkB W1 (.agg #[.int .i64 y1.kind, .int .i64 y1.level, .slice s1.ea s1.el s1.ec, .int .i64 y1.hb, .string y1.hr, .int .i64 y1.cr, .int .i64 y1.cc, .slice s1.ca s1.cl s1.cc, .int .i64 y1.gf, .slice s1.ga s1.gl s1.gc]) 1 0 (bdNew 1) := ⟨y1, s1, hy1, rfl, hA1.go hB1⟩
  have HB1 : Hid (Below w.heap.size w W1) := hb1.trans (hB1.mono hb1.size)
  have HX1 := Lib.hid hX1
  have HK1 := Lib.hid hK1
  clear hX1 hB1 hs1 hK1 hb1 hy1 hA1
  go_wp2_with fail
  refine (HN2.out _).mono ?_
  rintro e w2 ⟨x2, rfl, ⟨y2, s2, hy2, rfl, hA2⟩, hb2⟩
  obtain ⟨W2, hW2, hX2, hB2, hs2⟩ := boxes1 w2 #[.int .i64 y2.kind, .int .i64 y2.level, .slice s2.ea s2.el s2.ec, .int .i64 y2.hb, .string y2.hr, .int .i64 y2.cr, .int .i64 y2.cc, .slice s2.ca s2.cl s2.cc, .int .i64 y2.gf, .slice s2.ga s2.gl s2.gc] 36
  have hK2 : SkB W2 (.agg #[.int .i64 y2.kind, .int .i64 y2.level, .slice s2.ea s2.el s2.ec, .int .i64 y2.hb, .string y2.hr, .int .i64 y2.cr, .int .i64 y2.cc, .slice s2.ca s2.cl s2.cc, .int .i64 y2.gf, .slice s2.ga s2.gl s2.gc]) 2 0 (bdNew 2) := ⟨y2, s2, hy2, rfl, hA2.go hB2⟩
  have HB2 : Hid (Below W1.heap.size W1 W2) := hb2.trans (hB2.mono hb2.size)
  have HX2 := Lib.hid hX2
  have HK2 := Lib.hid hK2
  clear hX2 hB2 hs2 hK2 hb2 hy2 hA2
  go_wp2_with fail
  refine (HN3.out _).mono ?_
  rintro e w3 ⟨x3, rfl, ⟨y3, s3, hy3, rfl, hA3⟩, hb3⟩
  obtain ⟨W3, hW3, hX3, hB3, hs3⟩ := boxes1 w3 #[.int .i64 y3.kind, .int .i64 y3.level, .slice s3.ea s3.el s3.ec, .int .i64 y3.hb, .string y3.hr, .int .i64 y3.cr, .int .i64 y3.cc, .slice s3.ca s3.cl s3.cc, .int .i64 y3.gf, .slice s3.ga s3.gl s3.gc] 36
  have hK3 : SkB W3 (.agg #[.int .i64 y3.kind, .int .i64 y3.level, .slice s3.ea s3.el s3.ec, .int .i64 y3.hb, .string y3.hr, .int .i64 y3.cr, .int .i64 y3.cc, .slice s3.ca s3.cl s3.cc, .int .i64 y3.gf, .slice s3.ga s3.gl s3.gc]) 3 0 (bdNew 3) := ⟨y3, s3, hy3, rfl, hA3.go hB3⟩
  have HB3 : Hid (Below W2.heap.size W2 W3) := hb3.trans (hB3.mono hb3.size)
  have HX3 := Lib.hid hX3
  have HK3 := Lib.hid hK3
  clear hX3 hB3 hs3 hK3 hb3 hy3 hA3
  go_wp2_with fail
  refine (HN4.out _).mono ?_
  rintro e w4 ⟨rfl, hb4⟩
  obtain ⟨W4, hW4, hX4, hB4, hs4⟩ := boxes1 w4 #[.int .i64 0, .int .i64 0, .slice none 0 0, .int .i64 0, .string ⟨#[]⟩, .int .i64 0, .int .i64 0, .slice none 0 0, .int .i64 0, .slice none 0 0] 36
  have hb34 : Below W3.heap.size W3 W4 := hb4.trans (hB4.mono hb4.size)
  have hb24 : Below W2.heap.size W2 W4 := HB3.out.trans (hb34.mono HB3.out.size)
  have hb14 : Below W1.heap.size W1 W4 := HB2.out.trans (hb24.mono HB2.out.size)
  have hX14 := known hb14 (Nat.le_refl _) HX1.out
  have HC1 := Lib.hid (HC1.out _ W4 (HK1.out.go hb14))
  have Hb14 := Lib.hid hb14
  have Hb24 := Lib.hid hb24
  have Hb34 := Lib.hid hb34
  have a0 : W4.cell? ⟨w1.heap.size, 0, none⟩ = some (.int .i64 y1.kind) := cell_of_cells hX14 0
  have a1 : W4.cell? ⟨w1.heap.size, 1, none⟩ = some (.int .i64 y1.level) := cell_of_cells hX14 1
  have a2 : W4.cell? ⟨w1.heap.size, 2, none⟩ = some (.slice s1.ea s1.el s1.ec) := cell_of_cells hX14 2
  have a3 : W4.cell? ⟨w1.heap.size, 3, none⟩ = some (.int .i64 y1.hb) := cell_of_cells hX14 3
  have a4 : W4.cell? ⟨w1.heap.size, 4, none⟩ = some (.string y1.hr) := cell_of_cells hX14 4
  have a5 : W4.cell? ⟨w1.heap.size, 5, none⟩ = some (.int .i64 y1.cr) := cell_of_cells hX14 5
  have a6 : W4.cell? ⟨w1.heap.size, 6, none⟩ = some (.int .i64 y1.cc) := cell_of_cells hX14 6
  have a7 : W4.cell? ⟨w1.heap.size, 7, none⟩ = some (.slice s1.ca s1.cl s1.cc) := cell_of_cells hX14 7
  have a8 : W4.cell? ⟨w1.heap.size, 8, none⟩ = some (.int .i64 y1.gf) := cell_of_cells hX14 8
  have a9 : W4.cell? ⟨w1.heap.size, 9, none⟩ = some (.slice s1.ga s1.gl s1.gc) := cell_of_cells hX14 9
  have f0 : W4.frozen? ⟨w4.heap.size, 0, none⟩ = false := frozen_of_cells hX4 0
  have f1 : W4.frozen? ⟨w4.heap.size, 1, none⟩ = false := frozen_of_cells hX4 1
  have f2 : W4.frozen? ⟨w4.heap.size, 2, none⟩ = false := frozen_of_cells hX4 2
  have f3 : W4.frozen? ⟨w4.heap.size, 3, none⟩ = false := frozen_of_cells hX4 3
  have f4 : W4.frozen? ⟨w4.heap.size, 4, none⟩ = false := frozen_of_cells hX4 4
  have f5 : W4.frozen? ⟨w4.heap.size, 5, none⟩ = false := frozen_of_cells hX4 5
  have f6 : W4.frozen? ⟨w4.heap.size, 6, none⟩ = false := frozen_of_cells hX4 6
  have f7 : W4.frozen? ⟨w4.heap.size, 7, none⟩ = false := frozen_of_cells hX4 7
  have f8 : W4.frozen? ⟨w4.heap.size, 8, none⟩ = false := frozen_of_cells hX4 8
  have f9 : W4.frozen? ⟨w4.heap.size, 9, none⟩ = false := frozen_of_cells hX4 9
  have z0 : W4.setCell ⟨w4.heap.size, 0, none⟩ (.int .i64 0) = W4 := set_same hX4 rfl
  have z1 : W4.setCell ⟨w4.heap.size, 1, none⟩ (.int .i64 0) = W4 := set_same hX4 rfl
  have z2 : W4.setCell ⟨w4.heap.size, 2, none⟩ (.slice none 0 0) = W4 := set_same hX4 rfl
  have z3 : W4.setCell ⟨w4.heap.size, 3, none⟩ (.int .i64 0) = W4 := set_same hX4 rfl
  have z4 : W4.setCell ⟨w4.heap.size, 4, none⟩ (.string ⟨#[]⟩) = W4 := set_same hX4 rfl
  have z5 : W4.setCell ⟨w4.heap.size, 5, none⟩ (.int .i64 0) = W4 := set_same hX4 rfl
  have z6 : W4.setCell ⟨w4.heap.size, 6, none⟩ (.int .i64 0) = W4 := set_same hX4 rfl
  have z7 : W4.setCell ⟨w4.heap.size, 7, none⟩ (.slice none 0 0) = W4 := set_same hX4 rfl
  have z8 : W4.setCell ⟨w4.heap.size, 8, none⟩ (.int .i64 0) = W4 := set_same hX4 rfl
  have z9 : W4.setCell ⟨w4.heap.size, 9, none⟩ (.slice none 0 0) = W4 := set_same hX4 rfl
  have b0 : W4.cell? ⟨w4.heap.size, 0, none⟩ = some (.int .i64 0) := cell_of_cells hX4 0
  have b1 : W4.cell? ⟨w4.heap.size, 1, none⟩ = some (.int .i64 0) := cell_of_cells hX4 1
  have b2 : W4.cell? ⟨w4.heap.size, 2, none⟩ = some (.slice none 0 0) := cell_of_cells hX4 2
  have b3 : W4.cell? ⟨w4.heap.size, 3, none⟩ = some (.int .i64 0) := cell_of_cells hX4 3
  have b4 : W4.cell? ⟨w4.heap.size, 4, none⟩ = some (.string ⟨#[]⟩) := cell_of_cells hX4 4
  have b5 : W4.cell? ⟨w4.heap.size, 5, none⟩ = some (.int .i64 0) := cell_of_cells hX4 5
  have b6 : W4.cell? ⟨w4.heap.size, 6, none⟩ = some (.int .i64 0) := cell_of_cells hX4 6
  have b7 : W4.cell? ⟨w4.heap.size, 7, none⟩ = some (.slice none 0 0) := cell_of_cells hX4 7
  have b8 : W4.cell? ⟨w4.heap.size, 8, none⟩ = some (.int .i64 0) := cell_of_cells hX4 8
  have b9 : W4.cell? ⟨w4.heap.size, 9, none⟩ = some (.slice none 0 0) := cell_of_cells hX4 9
  clear hX4 hB4 hs4 hb4 hb14 hb24 hb34 hX14
  go_wp2_with fail
  refine HC1.out.mono ?_
  rintro e w5 ⟨rfl, hb5⟩
  have hX25 := known (Hb24.out.trans (hb5.mono Hb24.out.size)) (Nat.le_refl _) HX2.out
  have HC2 := Lib.hid (HC2.out _ w5 (HK2.out.go (Hb24.out.trans (hb5.mono Hb24.out.size))))
  have Hb5 := Lib.hid hb5
  have c0 : w5.cell? ⟨w2.heap.size, 0, none⟩ = some (.int .i64 y2.kind) := cell_of_cells hX25 0
  have c1 : w5.cell? ⟨w2.heap.size, 1, none⟩ = some (.int .i64 y2.level) := cell_of_cells hX25 1
  have c2 : w5.cell? ⟨w2.heap.size, 2, none⟩ = some (.slice s2.ea s2.el s2.ec) := cell_of_cells hX25 2
  have c3 : w5.cell? ⟨w2.heap.size, 3, none⟩ = some (.int .i64 y2.hb) := cell_of_cells hX25 3
  have c4 : w5.cell? ⟨w2.heap.size, 4, none⟩ = some (.string y2.hr) := cell_of_cells hX25 4
  have c5 : w5.cell? ⟨w2.heap.size, 5, none⟩ = some (.int .i64 y2.cr) := cell_of_cells hX25 5
  have c6 : w5.cell? ⟨w2.heap.size, 6, none⟩ = some (.int .i64 y2.cc) := cell_of_cells hX25 6
  have c7 : w5.cell? ⟨w2.heap.size, 7, none⟩ = some (.slice s2.ca s2.cl s2.cc) := cell_of_cells hX25 7
  have c8 : w5.cell? ⟨w2.heap.size, 8, none⟩ = some (.int .i64 y2.gf) := cell_of_cells hX25 8
  have c9 : w5.cell? ⟨w2.heap.size, 9, none⟩ = some (.slice s2.ga s2.gl s2.gc) := cell_of_cells hX25 9
  clear hX25 hb5
  go_wp2_with fail
  refine HC2.out.mono ?_
  rintro e w6 ⟨rfl, hb6⟩
  have hb46 := Hb5.out.trans (hb6.mono Hb5.out.size)
  have hX36 := known (Hb34.out.trans (hb46.mono Hb34.out.size)) (Nat.le_refl _) HX3.out
  have HC3 := Lib.hid (HC3.out _ w6 (HK3.out.go (Hb34.out.trans (hb46.mono Hb34.out.size))))
  have Hb46 := Lib.hid hb46
  have d0 : w6.cell? ⟨w3.heap.size, 0, none⟩ = some (.int .i64 y3.kind) := cell_of_cells hX36 0
  have d1 : w6.cell? ⟨w3.heap.size, 1, none⟩ = some (.int .i64 y3.level) := cell_of_cells hX36 1
  have d2 : w6.cell? ⟨w3.heap.size, 2, none⟩ = some (.slice s3.ea s3.el s3.ec) := cell_of_cells hX36 2
  have d3 : w6.cell? ⟨w3.heap.size, 3, none⟩ = some (.int .i64 y3.hb) := cell_of_cells hX36 3
  have d4 : w6.cell? ⟨w3.heap.size, 4, none⟩ = some (.string y3.hr) := cell_of_cells hX36 4
  have d5 : w6.cell? ⟨w3.heap.size, 5, none⟩ = some (.int .i64 y3.cr) := cell_of_cells hX36 5
  have d6 : w6.cell? ⟨w3.heap.size, 6, none⟩ = some (.int .i64 y3.cc) := cell_of_cells hX36 6
  have d7 : w6.cell? ⟨w3.heap.size, 7, none⟩ = some (.slice s3.ca s3.cl s3.cc) := cell_of_cells hX36 7
  have d8 : w6.cell? ⟨w3.heap.size, 8, none⟩ = some (.int .i64 y3.gf) := cell_of_cells hX36 8
  have d9 : w6.cell? ⟨w3.heap.size, 9, none⟩ = some (.slice s3.ga s3.gl s3.gc) := cell_of_cells hX36 9
  clear hX36 hb6 hb46
  go_wp2_with fail
  refine HC3.out.mono ?_
  rintro e w7 ⟨rfl, hb7⟩
  go_wp2_with fail
  go_ret
  exact ⟨rfl, HB1.out.trans ((Hb14.out.trans ((Hb46.out.trans (hb7.mono Hb46.out.size)).mono Hb14.out.size)).mono HB1.out.size)⟩
end Go.Proofs.YtmkefodaibmkhaaGreatDoor
namespace Go.Proofs.YtmkefodaibmkhaaGreatDoor
open Go Go.RowKit Go.Shelf

theorem bot_kind {n : Int} (h : 0 ≤ bottomB n) : ∃ k : Nat, n = k ∧ (k = 1 ∨ k = 2 ∨ k = 3) ∧ bottomB n = (botN k : Int) := by
  unfold bottomB at h ⊢
  by_cases h1 : n = 1
  · subst h1; exact ⟨1, rfl, .inl rfl, rfl⟩
  · by_cases h2 : n = 2
    · subst h2; exact ⟨2, rfl, .inr (.inl rfl), rfl⟩
    · by_cases h3 : n = 3
      · subst h3; exact ⟨3, rfl, .inr (.inr rfl), rfl⟩
      · exfalso
        have e1 : (n == 1) = false := by simpa using h1
        have e2 : (n == 2) = false := by simpa using h2
        have e3 : (n == 3) = false := by simpa using h3
        rw [e1, e2, e3] at h
        simp at h
/-- of, behind few. -/
theorem of_few (k t : Nat) (l : List (Nat × Int)) (a : Option Addr) (len cap : Nat) (w : World) (hk : k = 1 ∨ k = 2 ∨ k = 3) (ht : t ≤ botN k) (hS : SlC encIt 2 w.heap.size w a len cap l) (hA : AllOk l) (hg : GT w) :
    Calls Tryz.prog 13 #[.int .i64 k, .int .i64 t, .slice a (min len 100) cap] w fun e w' => ∃ x, e = .returned (.tuple #[x, .int .i64 0]) ∧ SkB w' x k (wkSum k t (l.take (min len 100))).1 (wkSum k t (l.take (min len 100))).2 ∧ Below w.heap.size w w' :=
  of_any k t (l.take (min len 100)) a (min len 100) cap w hk ht (hS.1.take _ (by omega)) (by omega) (fun i hi => hA i (List.mem_of_mem_take hi)) hg
set_option maxRecDepth 100000 in
set_option maxHeartbeats 2000000 in
theorem lowers_good (k t1 t2 : Nat) (l : List (Nat × Int)) (a : Option Addr) (len cap : Nat) (w : World) (hk : k = 1 ∨ k = 2 ∨ k = 3) (h1 : t1 ≤ botN k) (h2 : t2 ≤ botN k) (hS : SlC encIt 2 w.heap.size w a len cap l) (hA : AllOk l) (hg : GT w) :
    Calls Tryz.prog 3 #[.int .i64 k, .int .i64 t1, .int .i64 t2, .slice a len cap] w fun e w' => e = .returned (.bool true) ∧ Below w.heap.size w w' := by
  have hlc := hS.2.1
  have HF : Hid (∀ W, Calls Tryz.prog 14 #[.slice a len cap] W fun e w' => e = .returned (.slice a (min len 100) cap) ∧ W = w') := fun W => (fewItems_any a len cap W hlc).mono fun e w' h => ⟨h.1, h.2.symm⟩
  obtain ⟨lo, hlo⟩ : ∃ lo, min t1 t2 = lo := ⟨_, rfl⟩
  obtain ⟨hi, hhi⟩ : ∃ hi, max t1 t2 = hi := ⟨_, rfl⟩
  have elo : min (t1 : Int) (t2 : Int) = (lo : Int) := by omega
  have ehi : max (t1 : Int) (t2 : Int) = (hi : Int) := by omega
  obtain ⟨A, hAt⟩ : ∃ A, l.take (min len 100) = A := ⟨_, rfl⟩
  obtain ⟨m, hm⟩ : ∃ m, min len 100 = m := ⟨_, rfl⟩
  have HO1 : Hid (∀ W, Below w.heap.size w W → Calls Tryz.prog 13 #[.int .i64 k, .int .i64 lo, .slice a m cap] W fun e w' => ∃ x, e = .returned (.tuple #[x, .int .i64 0]) ∧ SkB w' x k (wkSum k lo A).1 (wkSum k lo A).2 ∧ Below W.heap.size W w') := fun W hB => by
    rw [← hAt, ← hm]
    exact of_few k lo l a len cap W hk (by omega) ((hS.below hB).mono hB.size) hA (hg.go hB)
  have HO2 : Hid (∀ W, Below w.heap.size w W → Calls Tryz.prog 13 #[.int .i64 k, .int .i64 hi, .slice a m cap] W fun e w' => ∃ x, e = .returned (.tuple #[x, .int .i64 0]) ∧ SkB w' x k (wkSum k hi A).1 (wkSum k hi A).2 ∧ Below W.heap.size W w') := fun W hB => by
    rw [← hAt, ← hm]
    exact of_few k hi l a len cap W hk (by omega) ((hS.below hB).mono hB.size) hA (hg.go hB)
  have hAA : AllOk A := by rw [← hAt]; exact fun i h => hA i (List.mem_of_mem_take h)
  have HT : Hid (∀ v W, SkB W v k (wkSum k lo A).1 (wkSum k lo A).2 → Calls Tryz.prog 15 #[v, .int .i64 hi] W fun e w' => ∃ x, e = .returned (.tuple #[x, .int .i64 0]) ∧ SkB w' x k (wkSum k hi A).1 (wkSum k hi A).2 ∧ Below W.heap.size W w') := fun v W h => by
    have h3 := To_any (t := hi) (sum_ok k lo hk (by omega) A hAA) (by omega) h
    have e := sum_to k lo hi hk (by omega) (by omega) A hAA
    rw [show ((wkSum k lo A).1, (wkSum k lo A).2) = wkSum k lo A from rfl, e] at h3
    exact h3
  rw [hm] at HF
  have HB : Hid (∀ w, Calls Tryz.prog 12 #[.int .i64 k] w fun e w' => e = .returned (.int .i64 (botN k : Nat)) ∧ w = w') := fun w => (Bottom_any k w).mono fun e w' ⟨h1, h2⟩ => ⟨by rw [h1, (bot_eq (bdNew_ok k hk)).1], h2⟩
  generalize wkSum k lo A = S1 at HO1 HT
  generalize wkSum k hi A = S2 at HO2 HT
  have HH := Lib.hid (shown10_any w)
  have g1 : ¬ ((botN k : Int) < (t1 : Int)) := by omega
  have g2 : ¬ ((botN k : Int) < (t2 : Int)) := by omega
  clear hlc hlo hhi hAt hm hk hS hA hg hAA
  go_enter Tryz.func3, Tryz.ntmps3
  go_wp2_with fail
  refine HH.out.mono ?_
  rintro e w0 ⟨rfl, hb0⟩
  have HB0 := Lib.hid hb0
  clear hb0
  go_wp2_with (go_at_call 12; refine (HB.out _).mono ?_; rintro e w' ⟨rfl, rfl⟩)
  go_wp2_with (go_at_call 14; refine (HF.out _).mono ?_; rintro e w' ⟨rfl, rfl⟩)
  refine (HO1.out _ HB0.out).mono ?_
  rintro e w1 ⟨x1, rfl, ⟨y1, s1, hy1, rfl, hA1⟩, hb1⟩
  obtain ⟨W1, hW1, hX1, hB1, hs1⟩ := boxes1 w1 #[.int .i64 y1.kind, .int .i64 y1.level, .slice s1.ea s1.el s1.ec, .int .i64 y1.hb, .string y1.hr, .int .i64 y1.cr, .int .i64 y1.cc, .slice s1.ca s1.cl s1.cc, .int .i64 y1.gf, .slice s1.ga s1.gl s1.gc] 36
  have HK1 : Hid (SkB W1 (.agg #[.int .i64 y1.kind, .int .i64 y1.level, .slice s1.ea s1.el s1.ec, .int .i64 y1.hb, .string y1.hr, .int .i64 y1.cr, .int .i64 y1.cc, .slice s1.ca s1.cl s1.cc, .int .i64 y1.gf, .slice s1.ga s1.gl s1.gc]) k S1.1 S1.2) := ⟨y1, s1, hy1, rfl, hA1.go hB1⟩
  have HB1 : Hid (Below w.heap.size w W1) := HB0.out.trans ((hb1.trans (hB1.mono hb1.size)).mono HB0.out.size)
  have HX1 := Lib.hid hX1
  clear hX1 hB1 hs1 hb1 hy1 hA1
  go_wp2_with (go_at_call 14; refine (HF.out _).mono ?_; rintro e w' ⟨rfl, rfl⟩)
  refine (HO2.out _ HB1.out).mono ?_
  rintro e w2 ⟨x2, rfl, ⟨y2, s2, hy2, rfl, hA2⟩, hb2⟩
  obtain ⟨W2, hW2, hX2, hB2, hs2⟩ := boxes1 w2 #[.int .i64 y2.kind, .int .i64 y2.level, .slice s2.ea s2.el s2.ec, .int .i64 y2.hb, .string y2.hr, .int .i64 y2.cr, .int .i64 y2.cc, .slice s2.ca s2.cl s2.cc, .int .i64 y2.gf, .slice s2.ga s2.gl s2.gc] 36
  have HK2 : Hid (SkB W2 (.agg #[.int .i64 y2.kind, .int .i64 y2.level, .slice s2.ea s2.el s2.ec, .int .i64 y2.hb, .string y2.hr, .int .i64 y2.cr, .int .i64 y2.cc, .slice s2.ca s2.cl s2.cc, .int .i64 y2.gf, .slice s2.ga s2.gl s2.gc]) k S2.1 S2.2) := ⟨y2, s2, hy2, rfl, hA2.go hB2⟩
  have hb12 : Below W1.heap.size W1 W2 := hb2.trans (hB2.mono hb2.size)
  have HX2 := Lib.hid hX2
  have hX12 := known hb12 (Nat.le_refl _) HX1.out
  have HT := Lib.hid (HT.out _ W2 (HK1.out.go hb12))
  have HB12 := Lib.hid hb12
  have a0 : W2.cell? ⟨w1.heap.size, 0, none⟩ = some (.int .i64 y1.kind) := cell_of_cells hX12 0
  have a1 : W2.cell? ⟨w1.heap.size, 1, none⟩ = some (.int .i64 y1.level) := cell_of_cells hX12 1
  have a2 : W2.cell? ⟨w1.heap.size, 2, none⟩ = some (.slice s1.ea s1.el s1.ec) := cell_of_cells hX12 2
  have a3 : W2.cell? ⟨w1.heap.size, 3, none⟩ = some (.int .i64 y1.hb) := cell_of_cells hX12 3
  have a4 : W2.cell? ⟨w1.heap.size, 4, none⟩ = some (.string y1.hr) := cell_of_cells hX12 4
  have a5 : W2.cell? ⟨w1.heap.size, 5, none⟩ = some (.int .i64 y1.cr) := cell_of_cells hX12 5
  have a6 : W2.cell? ⟨w1.heap.size, 6, none⟩ = some (.int .i64 y1.cc) := cell_of_cells hX12 6
  have a7 : W2.cell? ⟨w1.heap.size, 7, none⟩ = some (.slice s1.ca s1.cl s1.cc) := cell_of_cells hX12 7
  have a8 : W2.cell? ⟨w1.heap.size, 8, none⟩ = some (.int .i64 y1.gf) := cell_of_cells hX12 8
  have a9 : W2.cell? ⟨w1.heap.size, 9, none⟩ = some (.slice s1.ga s1.gl s1.gc) := cell_of_cells hX12 9
  clear hX2 hB2 hs2 hb2 hy2 hA2 hX12 hb12
  go_wp2_with fail
  refine HT.out.mono ?_
  rintro e w3 ⟨x3, rfl, ⟨y3, s3, hy3, rfl, hA3⟩, hb3⟩
  obtain ⟨W3, hW3, hX3, hB3, hs3⟩ := boxes1 w3 #[.int .i64 y3.kind, .int .i64 y3.level, .slice s3.ea s3.el s3.ec, .int .i64 y3.hb, .string y3.hr, .int .i64 y3.cr, .int .i64 y3.cc, .slice s3.ca s3.cl s3.cc, .int .i64 y3.gf, .slice s3.ga s3.gl s3.gc] 36
  have hb23 : Below W2.heap.size W2 W3 := hb3.trans (hB3.mono hb3.size)
  have hX23 := known hb23 (Nat.le_refl _) HX2.out
  have HS := Lib.hid (Same_sk (w := W3) (HK2.out.go hb23) ⟨y3, s3, hy3, rfl, hA3.go hB3⟩)
  have HB23 := Lib.hid hb23
  have b0 : W3.cell? ⟨w2.heap.size, 0, none⟩ = some (.int .i64 y2.kind) := cell_of_cells hX23 0
  have b1 : W3.cell? ⟨w2.heap.size, 1, none⟩ = some (.int .i64 y2.level) := cell_of_cells hX23 1
  have b2 : W3.cell? ⟨w2.heap.size, 2, none⟩ = some (.slice s2.ea s2.el s2.ec) := cell_of_cells hX23 2
  have b3 : W3.cell? ⟨w2.heap.size, 3, none⟩ = some (.int .i64 y2.hb) := cell_of_cells hX23 3
  have b4 : W3.cell? ⟨w2.heap.size, 4, none⟩ = some (.string y2.hr) := cell_of_cells hX23 4
  have b5 : W3.cell? ⟨w2.heap.size, 5, none⟩ = some (.int .i64 y2.cr) := cell_of_cells hX23 5
  have b6 : W3.cell? ⟨w2.heap.size, 6, none⟩ = some (.int .i64 y2.cc) := cell_of_cells hX23 6
  have b7 : W3.cell? ⟨w2.heap.size, 7, none⟩ = some (.slice s2.ca s2.cl s2.cc) := cell_of_cells hX23 7
  have b8 : W3.cell? ⟨w2.heap.size, 8, none⟩ = some (.int .i64 y2.gf) := cell_of_cells hX23 8
  have b9 : W3.cell? ⟨w2.heap.size, 9, none⟩ = some (.slice s2.ga s2.gl s2.gc) := cell_of_cells hX23 9
  have c0 : W3.cell? ⟨w3.heap.size, 0, none⟩ = some (.int .i64 y3.kind) := cell_of_cells hX3 0
  have c1 : W3.cell? ⟨w3.heap.size, 1, none⟩ = some (.int .i64 y3.level) := cell_of_cells hX3 1
  have c2 : W3.cell? ⟨w3.heap.size, 2, none⟩ = some (.slice s3.ea s3.el s3.ec) := cell_of_cells hX3 2
  have c3 : W3.cell? ⟨w3.heap.size, 3, none⟩ = some (.int .i64 y3.hb) := cell_of_cells hX3 3
  have c4 : W3.cell? ⟨w3.heap.size, 4, none⟩ = some (.string y3.hr) := cell_of_cells hX3 4
  have c5 : W3.cell? ⟨w3.heap.size, 5, none⟩ = some (.int .i64 y3.cr) := cell_of_cells hX3 5
  have c6 : W3.cell? ⟨w3.heap.size, 6, none⟩ = some (.int .i64 y3.cc) := cell_of_cells hX3 6
  have c7 : W3.cell? ⟨w3.heap.size, 7, none⟩ = some (.slice s3.ca s3.cl s3.cc) := cell_of_cells hX3 7
  have c8 : W3.cell? ⟨w3.heap.size, 8, none⟩ = some (.int .i64 y3.gf) := cell_of_cells hX3 8
  have c9 : W3.cell? ⟨w3.heap.size, 9, none⟩ = some (.slice s3.ga s3.gl s3.gc) := cell_of_cells hX3 9
  clear hX3 hB3 hs3 hb3 hy3 hA3 hX23 hb23
  go_wp2_with fail
  refine HS.out.mono ?_
  rintro e w4 ⟨rfl, hb4⟩
  go_wp2_with fail
  go_ret
  exact ⟨rfl, HB1.out.trans ((HB12.out.trans ((HB23.out.trans (hb4.mono HB23.out.size)).mono HB12.out.size)).mono HB1.out.size)⟩
set_option maxRecDepth 100000 in
set_option maxHeartbeats 2000000 in
theorem ladderLowers_any (n0 n1 n2 : Int) (l : List (Nat × Int)) (a : Option Addr) (len cap : Nat) (w : World) (_ : I64 n0) (_ : I64 n1) (_ : I64 n2) (hS : SlC encIt 2 w.heap.size w a len cap l) (hA : ∀ i ∈ l, Item.ok i) (hg : GT w) :
    Calls Tryz.prog 3 #[.int .i64 n0, .int .i64 n1, .int .i64 n2, .slice a len cap] w fun e w' => e = .returned (.bool true) ∧ Below w.heap.size w w' := by
  by_cases hbad : n1 < 0 ∨ n2 < 0 ∨ bottomB n0 < n1 ∨ bottomB n0 < n2
  · have HB := Lib.hid (fun w => Bottom_any n0 w)
    have HH := Lib.hid (shown10_any w)
    generalize bottomB n0 = bt at hbad HB
    clear hS hA hg
    rcases (by omega : n1 < 0 ∨ (0 ≤ n1 ∧ n2 < 0) ∨ (0 ≤ n1 ∧ 0 ≤ n2 ∧ bt < n1) ∨ (0 ≤ n1 ∧ 0 ≤ n2 ∧ n1 ≤ bt ∧ bt < n2)) with h | ⟨h, h'⟩ | ⟨h, h', h''⟩ | ⟨h, h', h'', h3⟩
    all_goals
      clear hbad
      go_enter Tryz.func3, Tryz.ntmps3
      go_wp2_with fail
      refine HH.out.mono ?_
      rintro e w0 ⟨rfl, hb0⟩
      go_wp2_with (go_at_call 12; refine (HB.out _).mono ?_; rintro e w' ⟨rfl, rfl⟩)
      go_ret
      exact ⟨rfl, hb0⟩
  · obtain ⟨k, rfl, hk, hbk⟩ := bot_kind (n := n0) (by omega)
    rw [hbk] at hbad
    obtain ⟨t1, rfl⟩ : ∃ t : Nat, n1 = t := ⟨n1.toNat, by omega⟩
    obtain ⟨t2, rfl⟩ : ∃ t : Nat, n2 = t := ⟨n2.toNat, by omega⟩
    exact lowers_good k t1 t2 l a len cap w hk (by omega) (by omega) hS hA hg
end Go.Proofs.YtmkefodaibmkhaaGreatDoor

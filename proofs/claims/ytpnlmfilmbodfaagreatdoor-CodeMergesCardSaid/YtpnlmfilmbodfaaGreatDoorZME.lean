/- Package hist: Merge. -/
import Derived.Test.YtpnlmfilmbodfaaGreatDoorZGG
import Derived.Test.YtpnlmfilmbodfaaGreatDoorZJ1
namespace Go.Proofs.YtpnlmfilmbodfaaGreatDoor
open Go Go.RowKit Go.Shelf Go.Maps
theorem hist_out2 {w w6 w7 : World} {b rb : Nat} {a : Option Addr} {len cap : Nat} {l : List (Int × Int)} (f : Int) (hrb : w.heap.size ≤ rb) (hbn : rb < b) (hR6 : w6.heap[rb]? = some (.cells #[.int .i64 0, .slice none 0 0] 31 (0, 0))) (hB6 : Below w.heap.size w w6) (hS7 : SlC encB 2 w7.heap.size w7 a len cap l) (ha7 : ∀ x, a = some x → w6.heap.size ≤ x.block) (hg7 : w6.grownBy w7 (some b)) :
    w7.heap[rb]? = some (.cells #[.int .i64 0, .slice none 0 0] 31 (0, 0)) ∧ ∃ V, (w7.setCell ⟨rb, 0, none⟩ (.int .i64 f)).setCell ⟨rb, 1, none⟩ (.slice a len cap) = V ∧ V.heap[rb]? = some (.cells #[.int .i64 f, .slice a len cap] 31 (0, 0)) ∧ SlC encB 2 V.heap.size V a len cap l ∧ Below w.heap.size w V := by
  have hl := (Array.getElem?_eq_some_iff.1 hR6).1
  have hR7 := (hg7.block _ hl (fun e => by cases e; omega)).trans hR6
  refine ⟨hR7, _, rfl, set_cells2 hR7, ?_, ?_⟩
  · have hsz : ((w7.setCell ⟨rb, 0, none⟩ (.int .i64 f)).setCell ⟨rb, 1, none⟩ (.slice a len cap)).heap.size = w7.heap.size := by simp
    rw [hsz]
    refine slC_block hS7 fun x hx => ?_
    have := ha7 x hx
    exact (Below.heap_setCell _ _ _ _ (fun e => by simp at e; omega)).trans (Below.heap_setCell _ _ _ _ (fun e => by simp at e; omega))
  · have hB7 : Below w.heap.size w w7 := hB6.grown hg7 hB6.size (fun k e => by cases e; omega)
    exact (hB7.setCell (p := ⟨rb, 0, none⟩) hrb _).setCell (p := ⟨rb, 1, none⟩) hrb _
theorem puts_last (l m : List (Int × Int)) (x : Int × Int) : hiPuts l (m ++ [x]) = binPut (hiPuts l m) x.1 x.2 := by
  unfold hiPuts
  rw [List.foldl_append]
  rfl
set_option maxRecDepth 100000 in
set_option maxHeartbeats 2000000 in
theorem hiMerge_any (f : Nat) (l m : List (Int × Int)) (a : Option Addr) (len cap : Nat) (a2 : Option Addr) (len2 cap2 : Nat) (w : World) (hf : f ≤ 3) (hL : SlE encB 2 w.heap.size w a len l) (hr : hiRight f l = true) (hu : BinUp l) (hbu : BinsU l) (hlen : len ≤ 1000) (hp : ∀ b ∈ l, I64 b.1)
    (hM : SlE encB 2 w.heap.size w a2 len2 m) (hr2 : hiRight f m = true) (hmu : BinsU m) (hlen2 : len2 ≤ 1000) (hp2 : ∀ b ∈ m, I64 b.1) :
    Calls Tryz.prog 342 #[.agg #[.int .i64 f, .slice a len cap], .agg #[.int .i64 f, .slice a2 len2 cap2]] w fun e w' => ∃ a' len' cap', e = .returned (.tuple #[.agg #[.int .i64 f, .slice a' len' cap'], .int .i64 0]) ∧ SlC encB 2 w'.heap.size w' a' len' cap' (hiDone (hiPuts l m)) ∧ Below w.heap.size w w' := by
  obtain ⟨W0, hW0, hXp, hXy, hX0, hB0, hs0⟩ := boxes3 w #[.int .i64 f, .slice a len cap] 31 #[.int .i64 f, .slice a2 len2 cap2] 31 #[.int .i64 0, .slice none 0 0] 31
  have z0 : W0.cell? ⟨w.heap.size, 0, none⟩ = some (.int .i64 f) := cCc hXp 0
  have z1 : W0.cell? ⟨w.heap.size, 1, none⟩ = some (.slice a len cap) := cCc hXp 1
  have hBg := hbegin9_any f l a len cap W0 hf ((hL.below hB0).mono hB0.size) hr hu hbu hlen hp (by unfold maxLen; omega)
  have HR : Hid (∀ W, Below W0.heap.size W0 W → Calls Tryz.prog 214 #[.agg #[.int .i64 f, .slice a2 len2 cap2]] W fun e w' => e = .returned (.bool true) ∧ Below W.heap.size W w') := fun W hB => (hist_Right_any f m a2 len2 cap2 W (((hM.below hB0).mono hB0.size).go hB) (by unfold maxLen; omega) (fun b hb => (hp2 b hb).2)).mono fun e w' h => ⟨by rw [h.1, hr2], h.2⟩
  have HX0 := Lib.hid hX0
  have HXY := Lib.hid hXy
  have HXP := Lib.hid hXp
  have HB0 := Lib.hid hB0
  have HM := Lib.hid hM
  have HC : Hid (BinUp l ∧ BinsU l ∧ (∀ b ∈ l, I64 b.1) ∧ BinsU m ∧ (∀ b ∈ m, I64 b.1) ∧ l.length ≤ 1000 ∧ len2 ≤ 1000 ∧ len2 = m.length) := ⟨hu, hbu, hp, hmu, hp2, by have := hL.1; omega, hlen2, hM.1⟩
  have hlen9 := hlen2
  clear hL hr hu hbu hp hX0 hXy hXp hB0 hM hr2 hmu hp2 hlen hf
  go_enter Tryz.func342, Tryz.ntmps342
  go_wp2_with fail
  refine hBg.mono ?_
  rintro e w1 ⟨b, rfl, hm1, hb1, hB1⟩
  obtain ⟨W2, hW2, hX2, hB2, hs2⟩ := boxes1 w1 #[.map (some b), .int .i64 f] 394
  have hm2 : MapIs W2 b l.length l := hm1.kept (below_gb hB2 none) (by simp)
  have hb1l := hm1.lt
  have hb12 : Below W0.heap.size W0 W2 := hB1.trans (hB2.mono hB1.size)
  have hY2 := known hb12 (Nat.le_refl _) HXY.out
  have HRt := Lib.hid (HR.out W2 hb12)
  have y0 : W2.cell? ⟨w.heap.size + 1, 0, none⟩ = some (.int .i64 f) := cCc hY2 0
  have y1 : W2.cell? ⟨w.heap.size + 1, 1, none⟩ = some (.slice a2 len2 cap2) := cCc hY2 1
  have hs1 : W0.heap.size ≤ w1.heap.size := hB1.size
  have HB12 := Lib.hid hb12
  have HX2 := Lib.hid hX2
  have HM2 := Lib.hid hm2
  clear hY2 hB1 hB2 hm1 hm2 hX2 hb12
  go_wp2_with fail
  refine HRt.out.mono ?_
  rintro e w3 ⟨rfl, hb3⟩
  have hb13 : Below W0.heap.size W0 w3 := HB12.out.trans (hb3.mono HB12.out.size)
  have hP3 := known hb13 (Nat.le_refl _) HXP.out
  have hY3 := known hb13 (Nat.le_refl _) HXY.out
  have hR3 := known hb13 (Nat.le_refl _) HX0.out
  have hX3 := known hb3 (Nat.le_refl _) HX2.out
  have hm3 : MapIs w3 b l.length l := HM2.out.kept (below_gb hb3 none) (by simp)
  have hb3s := hb3.size
  have hB03 : Below w.heap.size w w3 := HB0.out.trans (hb13.mono HB0.out.size)
  have p0 : w3.cell? ⟨w.heap.size, 0, none⟩ = some (.int .i64 f) := cCc hP3 0
  have p1 : w3.cell? ⟨w.heap.size, 1, none⟩ = some (.slice a len cap) := cCc hP3 1
  have q0 : w3.cell? ⟨w.heap.size + 1, 0, none⟩ = some (.int .i64 f) := cCc hY3 0
  have q1 : w3.cell? ⟨w.heap.size + 1, 1, none⟩ = some (.slice a2 len2 cap2) := cCc hY3 1
  have HR3 := Lib.hid hR3
  have HX3 := Lib.hid hX3
  have HB03 := Lib.hid hB03
  clear hb13 hP3 hY3 hR3 hX3 hb3 hB03
  go_wp2_with fail
  go_loopw [9, 39] (fun _ i wr => ∃ k : Nat, k ≤ len2 ∧ i = .int .i64 k ∧ MapIs wr b (l.length + k) (hiPuts l (m.take k)) ∧ w3.grownBy wr (some b)) (fun _ i _ => len2 - (intOf i).toNat)
  case atStart => exact ⟨0, Nat.zero_le _, rfl, hm3, World.grownBy.refl _ _⟩
  case round =>
    obtain ⟨k, hk, rfl, hMp, hG⟩ := hrel
    have hXw := (hG.block _ (Array.getElem?_eq_some_iff.1 HX3.out).1 (fun e => by cases e; omega)).trans HX3.out
    have hXr := (hG.block _ (Array.getElem?_eq_some_iff.1 HR3.out).1 (fun e => by cases e; omega)).trans HR3.out
    have hBw : Below w.heap.size w wr := HB03.out.grown hG HB03.out.size (fun j e => by cases e; omega)
    by_cases hlt : k < len2
    · obtain ⟨x, b1, o1, hx, ea, hb1, p0, p1⟩ := bin_cells (HM.out.below hBw) hlt
      subst ea
      have HX := Lib.hid hx
      have hxi : I64 x.1 := HC.out.2.2.2.2.1 x (List.mem_of_getElem? hx)
      have hxu : U64 x.2 := HC.out.2.2.2.1 x (List.mem_of_getElem? hx)
      obtain ⟨x1, x2⟩ := x
      dsimp only at p0 p1 hxi hxu
      obtain ⟨W4, hW4, hX4, hB4, hs4⟩ := boxes1 wr #[.int .i64 x1, .int .u64 x2] 192
      have hM4 : MapIs W4 b (l.length + k) (hiPuts l (m.take k)) := hMp.kept (below_gb hB4 none) (by simp)
      have hXw4 := known hB4 (Nat.le_refl _) hXw
      have hP := put_any b (l.length + k) f x1 x2 (hiPuts l (m.take k)) W4 hM4 hxi hxu (by have := HC.out.2.2.2.2.2.1; omega) (hiPuts_up _ _ HC.out.1) (hiPuts_u64 _ _ HC.out.2.1 (fun c hc => HC.out.2.2.2.1 c (List.mem_of_mem_take hc)))
      have u0 : W4.cell? ⟨wr.heap.size, 0, none⟩ = some (.int .i64 x1) := cCc hX4 0
      have u1 : W4.cell? ⟨wr.heap.size, 1, none⟩ = some (.int .u64 x2) := cCc hX4 1
      have v0 : W4.cell? ⟨w1.heap.size, 0, none⟩ = some (.map (some b)) := cCc hXw4 0
      have v1 : W4.cell? ⟨w1.heap.size, 1, none⟩ = some (.int .i64 f) := cCc hXw4 1
      have HG := Lib.hid (hG.trans (below_gb hB4 (some b)))
      have HP := Lib.hid hP
      clear hx hXw hXr hX4 hXw4 hM4 hMp hB4 hG hP
      go_wp2_with fail
      refine HP.out.mono ?_
      rintro e w6 ⟨rfl, hM6, hG6⟩
      go_wp2_with fail
      go_roundw
      case rel => exact ⟨k + 1, by omega, by simp, by rw [take_snoc' HX.out, puts_last]; exact hM6, HG.out.trans hG6⟩
      case measure => simp [intOf]; omega
    · obtain rfl : k = len2 := by omega
      rw [List.take_of_length_le (by rw [HC.out.2.2.2.2.2.2.2]; exact Nat.le_refl _)] at hMp
      have hD := hdone9_any b (l.length + k) f (hiPuts l m) wr hMp (hiPuts_up _ _ HC.out.1) (hiPuts_u64 _ _ HC.out.2.1 HC.out.2.2.2.1) (fun c hc => by
          rcases hiPuts_mem m l c hc with h | ⟨y, hy, e⟩ | ⟨y, hy, e⟩
          · exact HC.out.2.2.1 c h
          · rw [e]; exact HC.out.2.2.1 y hy
          · rw [e]; exact HC.out.2.2.2.2.1 y hy) (by have := hiPuts_len m l; have := HC.out.2.2.2.2.2.1; have := HC.out.2.2.2.2.2.2.2; omega) (by have := HC.out.2.2.2.2.2.1; omega)
      have u0 : wr.cell? ⟨w1.heap.size, 0, none⟩ = some (.map (some b)) := cCc hXw 0
      have u1 : wr.cell? ⟨w1.heap.size, 1, none⟩ = some (.int .i64 f) := cCc hXw 1
      have HD := Lib.hid hD
      have HXr := Lib.hid hXr
      have HBw := Lib.hid hBw
      clear hXw hXr hMp hG hBw hD
      go_wp2_with fail
      refine HD.out.mono ?_
      rintro e w7 ⟨a', len', cap', rfl, hS7, ha7, hg7⟩
      obtain ⟨hR7, V, hV, hXV, hSV, hBV⟩ := hist_out2 (rb := w.heap.size + 1 + 1) f (by omega) (by omega) HXr.out HBw.out hS7 ha7 hg7
      have o0 : w7.cell? ⟨w.heap.size + 1 + 1, 0, none⟩ = some (.int .i64 0) := cCc hR7 0
      have o1 : w7.cell? ⟨w.heap.size + 1 + 1, 1, none⟩ = some (.slice none 0 0) := cCc hR7 1
      have g0 : w7.frozen? ⟨w.heap.size + 1 + 1, 0, none⟩ = false := cFz hR7 0
      have g1 : w7.frozen? ⟨w.heap.size + 1 + 1, 1, none⟩ = false := cFz hR7 1
      have j0 : V.cell? ⟨w.heap.size + 1 + 1, 0, none⟩ = some (.int .i64 f) := cCc hXV 0
      have j1 : V.cell? ⟨w.heap.size + 1 + 1, 1, none⟩ = some (.slice a' len' cap') := cCc hXV 1
      have HE : Hid (SlC encB 2 V.heap.size V a' len' cap' (hiDone (hiPuts l m)) ∧ Below w.heap.size w V) := ⟨hSV, hBV⟩
      clear hR7 hXV hSV hBV hS7 ha7 hg7
      go_wp2_with fail
      exact bodyPost_ret (v := .tuple #[.agg #[.int .i64 f, .slice a' len' cap'], .int .i64 0]) (by simp [results, Tryz.f342, go_sem, j0, j1]) rfl ⟨a', len', cap', rfl, HE.out.1, HE.out.2⟩
end Go.Proofs.YtpnlmfilmbodfaaGreatDoor

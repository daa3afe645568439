/- Laws of layer 10: few, of, shown. -/
import Derived.Test.YtmkefodaibmkhaaGreatDoorZL8
import Derived.Test.YtmkefodaibmkhaaGreatDoorZLJ
import Derived.Test.YtmkefodaibmkhaaGreatDoorZLG
import Derived.Test.YtmkefodaibmkhaaGreatDoorZM2
import Derived.Test.YtmkefodaibmkhaaGreatDoorZJ1
namespace Go.Proofs.YtmkefodaibmkhaaGreatDoor
open Go Go.RowKit Go.Shelf

def encIt (i : Nat × Int) : List Value := [.int .u64 i.1, .int .u64 i.2]
theorem und_items : Tryz.prog.underlying 22 = some (.slice 52) := by kernel_rfl
theorem take_items (a : Option Addr) (len cap m : Nat) (w : World) (h : m ≤ cap) : (Instr.slice 22 (.slice a len cap) none (some (.int .i64 (m : Int))) none).run Tryz.prog w = .ok (.slice a m cap) w := by
  have hz := dropA_zero a cap 2
  unfold dropA at hz
  have hs : (sizeOf 52).run Tryz.prog w = .ok 2 w := by kernel_rfl
  have he : Tryz.prog.elem 22 = 52 := by kernel_rfl
  rw [run_slice_h (t := 22) (a := a) (len := len) (cap := cap) (w := w) (ht := by rw [he]; exact und_items) (kh := .i64) (h := (m : Int)) (by omega) (by omega), he, hs]
  simp only [Result.andThen, sliced, Int.toNat_natCast, Nat.sub_zero, hz]
set_option maxRecDepth 100000 in
theorem fewItems_any (a : Option Addr) (len cap : Nat) (w : World) (h : len ≤ cap) : Calls Tryz.prog 14 #[.slice a len cap] w fun e w' => e = .returned (.slice a (min len 100) cap) ∧ w' = w := by
  have h1 := take_items a len cap (min len 100) w (by omega)
  by_cases hl : len ≤ 100
  · have e1 : min len 100 = len := by omega
    have e2 : min (len : Int) 100 = (len : Int) := by omega
    rw [e1] at h1 ⊢
    clear e1
    go_enter Tryz.func14, Tryz.ntmps14
    go_wp2
    go_ret
    exact ⟨rfl, rfl⟩
  · have e1 : min len 100 = 100 := by omega
    have e2 : min (len : Int) 100 = 100 := by omega
    have h2 : (Instr.slice 22 (.slice a len cap) none (some (.int .i64 100)) none).run Tryz.prog w = .ok (.slice a 100 cap) w := take_items a len cap 100 w (by omega)
    rw [e1]
    clear e1 h1
    go_enter Tryz.func14, Tryz.ntmps14
    go_wp2
    go_ret
    exact ⟨rfl, rfl⟩
theorem New_any (k : Nat) (hk : k = 1 ∨ k = 2 ∨ k = 3) (w : World) : Calls Tryz.prog 27 #[.int .i64 k] w fun e w' => ∃ x, e = .returned (.tuple #[x, .int .i64 0]) ∧ SkB w' x k 0 (bdNew k) ∧ Below w.heap.size w w' := by
  rcases hk with rfl | rfl | rfl
  · exact New_1 w
  · exact New_2 w
  · exact New_3 w
theorem at_apart {W V : World} {y : Sk} {s : SS} (h : s.At W.heap.size W y) {b : Nat} {cs : Array Value} {t : TypeId} (hX : W.heap[b]? = some (.cells cs t (0, 0))) (hc : ∀ (i : Nat) (u : Int), cs[i]? ≠ some (Value.int .u64 u)) (hV : OnlyAt b W V) : s.At V.heap.size V y :=
  ⟨slC_apart (i0 := 0) (by decide) (fun x => ⟨x, rfl⟩) hX hc hV h.e, slC_apart (i0 := 0) (by decide) (fun x => ⟨x, rfl⟩) hX hc hV h.c, slC_apart (i0 := 1) (by decide) (fun x => ⟨x.2, rfl⟩) hX hc hV h.g⟩
/-- What of's loop knows between its rounds. -/
def OI (k t : Nat) (A : List (Nat × Int)) (w : World) (b m : Nat) (W : World) : Prop := ∃ (y : Sk) (s : SS), y = skOf k (wkSum k t (A.take m)).1 (wkSum k t (A.take m)).2 ∧ W.heap[b]? = some (.cells #[.int .i64 y.kind, .int .i64 y.level, .slice s.ea s.el s.ec, .int .i64 y.hb, .string y.hr, .int .i64 y.cr, .int .i64 y.cc, .slice s.ca s.cl s.cc, .int .i64 y.gf, .slice s.ga s.gl s.gc] 36 (0, 0)) ∧ s.At W.heap.size W y ∧
  W.heap[w.heap.size]? = some (.cells #[.int .i64 0, .int .i64 0, .slice none 0 0, .int .i64 0, .string ⟨#[]⟩, .int .i64 0, .int .i64 0, .slice none 0 0, .int .i64 0, .slice none 0 0] 36 (0, 0)) ∧ Below w.heap.size w W
theorem sum_snoc (k t : Nat) (A : List (Nat × Int)) (x : Nat × Int) : wkSum k t (A ++ [x]) = wkAdd (wkSum k t A) x := by unfold wkSum; rw [List.foldl_append]; rfl
set_option maxRecDepth 100000 in
set_option maxHeartbeats 4000000 in
theorem of_any (k t : Nat) (A : List (Nat × Int)) (a : Option Addr) (len cap : Nat) (w : World) (hk : k = 1 ∨ k = 2 ∨ k = 3) (ht : t ≤ botN k) (hS : SlE encIt 2 w.heap.size w a len A) (hlen : len ≤ 100) (hA : AllOk A) (hg : GT w) :
    Calls Tryz.prog 13 #[.int .i64 k, .int .i64 t, .slice a len cap] w fun e w' => ∃ x, e = .returned (.tuple #[x, .int .i64 0]) ∧ SkB w' x k (wkSum k t A).1 (wkSum k t A).2 ∧ Below w.heap.size w w' := by
  obtain rfl : len = A.length := hS.1
  obtain ⟨W0, hW0, hXr, hB0, hs0⟩ := boxes1 w #[.int .i64 0, .int .i64 0, .slice none 0 0, .int .i64 0, .string ⟨#[]⟩, .int .i64 0, .int .i64 0, .slice none 0 0, .int .i64 0, .slice none 0 0] 36
  have HN := Lib.hid (New_any k hk W0)
  have HT : Hid (∀ v W, SkB W v k 0 (bdNew k) → Calls Tryz.prog 15 #[v, .int .i64 t] W fun e w' => ∃ x, e = .returned (.tuple #[x, .int .i64 0]) ∧ SkB w' x k (wkTo (0, bdNew k) t).1 (wkTo (0, bdNew k) t).2 ∧ Below W.heap.size W w') := fun v W h => To_any (bdNew_ok k hk) ht h
  have HStep : Hid (∀ m x v W, A[m]? = some x → SkB W v k (wkSum k t (A.take m)).1 (wkSum k t (A.take m)).2 → Below w.heap.size w W → Calls Tryz.prog 25 #[v, .agg #[.int .u64 x.1, .int .u64 x.2]] W fun e w' => ∃ x', e = .returned (.tuple #[x', .int .i64 0]) ∧ SkB w' x' k (wkSum k t (A.take (m + 1))).1 (wkSum k t (A.take (m + 1))).2 ∧ Below W.heap.size W w') := fun m x v W hx h hB => by
    have hx2 := hA x (List.mem_of_getElem? hx)
    have hok := sum_ok k t hk ht (A.take m) (fun i hi => hA i (List.mem_of_mem_take hi))
    have h1 := Add_any (h := x.1) (n := x.2) hok hx2.1 hx2.2 (hg.go hB) h
    rw [take_snoc' hx, sum_snoc]
    exact h1
  have HS := Lib.hid hS
  have HXr := Lib.hid hXr
  have HB0 := Lib.hid hB0
  clear hXr hB0 hk ht hS hA hg
  go_enter Tryz.func13, Tryz.ntmps13
  go_wp2_with fail
  refine HN.out.mono ?_
  rintro e w1 ⟨x1, rfl, ⟨y1, s1, hy1, rfl, hA1⟩, hb1⟩
  obtain ⟨W2, hW2, hX2, hB2, hs2⟩ := boxes1 w1 #[.int .i64 y1.kind, .int .i64 y1.level, .slice s1.ea s1.el s1.ec, .int .i64 y1.hb, .string y1.hr, .int .i64 y1.cr, .int .i64 y1.cc, .slice s1.ca s1.cl s1.cc, .int .i64 y1.gf, .slice s1.ga s1.gl s1.gc] 36
  have d0 : W2.cell? ⟨w1.heap.size, 0, none⟩ = some (.int .i64 y1.kind) := cell_of_cells hX2 0
  have d1 : W2.cell? ⟨w1.heap.size, 1, none⟩ = some (.int .i64 y1.level) := cell_of_cells hX2 1
  have d2 : W2.cell? ⟨w1.heap.size, 2, none⟩ = some (.slice s1.ea s1.el s1.ec) := cell_of_cells hX2 2
  have d3 : W2.cell? ⟨w1.heap.size, 3, none⟩ = some (.int .i64 y1.hb) := cell_of_cells hX2 3
  have d4 : W2.cell? ⟨w1.heap.size, 4, none⟩ = some (.string y1.hr) := cell_of_cells hX2 4
  have d5 : W2.cell? ⟨w1.heap.size, 5, none⟩ = some (.int .i64 y1.cr) := cell_of_cells hX2 5
  have d6 : W2.cell? ⟨w1.heap.size, 6, none⟩ = some (.int .i64 y1.cc) := cell_of_cells hX2 6
  have d7 : W2.cell? ⟨w1.heap.size, 7, none⟩ = some (.slice s1.ca s1.cl s1.cc) := cell_of_cells hX2 7
  have d8 : W2.cell? ⟨w1.heap.size, 8, none⟩ = some (.int .i64 y1.gf) := cell_of_cells hX2 8
  have d9 : W2.cell? ⟨w1.heap.size, 9, none⟩ = some (.slice s1.ga s1.gl s1.gc) := cell_of_cells hX2 9
  have HT2 := Lib.hid (HT.out _ W2 ⟨y1, s1, hy1, rfl, hA1.go hB2⟩)
  have HX2 := Lib.hid hX2
  have HB2 := Lib.hid hB2
  have HB1 := Lib.hid hb1
  clear hX2 hB2 hb1 hy1 hA1
  go_wp2_with fail
  refine HT2.out.mono ?_
  rintro e w3 ⟨x3, rfl, ⟨y3, s3, hy3, rfl, hA3⟩, hb3⟩
  have hX3 := known hb3 (Nat.le_refl _) HX2.out
  have p0 : w3.cell? ⟨w1.heap.size, 0, none⟩ = some (.int .i64 y1.kind) := cell_of_cells hX3 0
  have p1 : w3.cell? ⟨w1.heap.size, 1, none⟩ = some (.int .i64 y1.level) := cell_of_cells hX3 1
  have p2 : w3.cell? ⟨w1.heap.size, 2, none⟩ = some (.slice s1.ea s1.el s1.ec) := cell_of_cells hX3 2
  have p3 : w3.cell? ⟨w1.heap.size, 3, none⟩ = some (.int .i64 y1.hb) := cell_of_cells hX3 3
  have p4 : w3.cell? ⟨w1.heap.size, 4, none⟩ = some (.string y1.hr) := cell_of_cells hX3 4
  have p5 : w3.cell? ⟨w1.heap.size, 5, none⟩ = some (.int .i64 y1.cr) := cell_of_cells hX3 5
  have p6 : w3.cell? ⟨w1.heap.size, 6, none⟩ = some (.int .i64 y1.cc) := cell_of_cells hX3 6
  have p7 : w3.cell? ⟨w1.heap.size, 7, none⟩ = some (.slice s1.ca s1.cl s1.cc) := cell_of_cells hX3 7
  have p8 : w3.cell? ⟨w1.heap.size, 8, none⟩ = some (.int .i64 y1.gf) := cell_of_cells hX3 8
  have p9 : w3.cell? ⟨w1.heap.size, 9, none⟩ = some (.slice s1.ga s1.gl s1.gc) := cell_of_cells hX3 9
  have g0 : w3.frozen? ⟨w1.heap.size, 0, none⟩ = false := frozen_of_cells hX3 0
  have g1 : w3.frozen? ⟨w1.heap.size, 1, none⟩ = false := frozen_of_cells hX3 1
  have g2 : w3.frozen? ⟨w1.heap.size, 2, none⟩ = false := frozen_of_cells hX3 2
  have g3 : w3.frozen? ⟨w1.heap.size, 3, none⟩ = false := frozen_of_cells hX3 3
  have g4 : w3.frozen? ⟨w1.heap.size, 4, none⟩ = false := frozen_of_cells hX3 4
  have g5 : w3.frozen? ⟨w1.heap.size, 5, none⟩ = false := frozen_of_cells hX3 5
  have g6 : w3.frozen? ⟨w1.heap.size, 6, none⟩ = false := frozen_of_cells hX3 6
  have g7 : w3.frozen? ⟨w1.heap.size, 7, none⟩ = false := frozen_of_cells hX3 7
  have g8 : w3.frozen? ⟨w1.heap.size, 8, none⟩ = false := frozen_of_cells hX3 8
  have g9 : w3.frozen? ⟨w1.heap.size, 9, none⟩ = false := frozen_of_cells hX3 9
  obtain ⟨V, hV, hVX, hVO, hVB⟩ := store10 (.int .i64 y3.kind) (.int .i64 y3.level) (.slice s3.ea s3.el s3.ec) (.int .i64 y3.hb) (.string y3.hr) (.int .i64 y3.cr) (.int .i64 y3.cc) (.slice s3.ca s3.cl s3.cc) (.int .i64 y3.gf) (.slice s3.ga s3.gl s3.gc) hX3
  have hsz := HB1.out.size
  have HB03 : Below W0.heap.size W0 w3 := HB1.out.trans ((HB2.out.trans (hb3.mono HB2.out.size)).mono HB1.out.size)
  have HO0 : Hid (OI k t A w w1.heap.size 0 V) := by
    refine ⟨y3, s3, hy3, hVX, at_apart hA3 hX3 (fun i u => noU_sk y1 s1 u) hVO, (hVO.2 _ (by omega)).trans (known HB03 (Nat.le_refl _) HXr.out), hVB _ _ (HB0.out.trans (HB03.mono HB0.out.size)) (by omega)⟩
  clear hX3 hVX hVO hVB hy3 hA3 hb3 HB03
  go_wp2_with fail
  go_loopw [9, 10] (fun e i wr => ∃ m : Nat, m ≤ A.length ∧ e = .int .i64 0 ∧ i = .int .i64 m ∧ OI k t A w w1.heap.size m wr) (fun _ i _ => A.length - (intOf i).toNat)
  case atStart => exact ⟨0, Nat.zero_le _, rfl, rfl, HO0.out⟩
  case round =>
    obtain ⟨m, hm, rfl, rfl, y, s, hy, hX, hAt, hR, hB⟩ := hrel
    by_cases hlt : m < A.length
    · obtain ⟨x, hx⟩ : ∃ x, A[m]? = some x := ⟨_, List.getElem?_eq_getElem hlt⟩
      obtain ⟨gb, off, ha, hgb, hc⟩ := HS.out.2 m x hx
      subst ha
      have i0 : wr.cell? ⟨gb, off + m * 2, none⟩ = some (.int .u64 x.1) := (hB.cell (p := ⟨gb, off + m * 2, none⟩) hgb).trans (hc 0 (by omega))
      have i1 : wr.cell? ⟨gb, off + m * 2 + 1, none⟩ = some (.int .u64 x.2) := (hB.cell (p := ⟨gb, off + m * 2 + 1, none⟩) hgb).trans (hc 1 (by omega))
      have HAdd := Lib.hid (HStep.out m x (.agg #[.int .i64 y.kind, .int .i64 y.level, .slice s.ea s.el s.ec, .int .i64 y.hb, .string y.hr, .int .i64 y.cr, .int .i64 y.cc, .slice s.ca s.cl s.cc, .int .i64 y.gf, .slice s.ga s.gl s.gc]) wr.drew hx ⟨y, s, hy, rfl, hAt.go (Below.refl _ _).drew⟩ hB.drew)
      have HStep : Hid (∀ (V : World) (y5 : Sk) (s5 : SS), y5 = skOf k (wkSum k t (A.take (m + 1))).1 (wkSum k t (A.take (m + 1))).2 → s5.At V.heap.size V y5 → V.heap[w1.heap.size]? = some (.cells #[.int .i64 y5.kind, .int .i64 y5.level, .slice s5.ea s5.el s5.ec, .int .i64 y5.hb, .string y5.hr, .int .i64 y5.cr, .int .i64 y5.cc, .slice s5.ca s5.cl s5.cc, .int .i64 y5.gf, .slice s5.ga s5.gl s5.gc] 36 (0, 0)) → V.heap[w.heap.size]? = some (.cells #[.int .i64 0, .int .i64 0, .slice none 0 0, .int .i64 0, .string ⟨#[]⟩, .int .i64 0, .int .i64 0, .slice none 0 0, .int .i64 0, .slice none 0 0] 36 (0, 0)) → Below w.heap.size w V → OI k t A w w1.heap.size (m + 1) V) := fun V y5 s5 h1 h2 h3 h4 h5 => ⟨y5, s5, h1, h3, h2, h4, h5⟩
      have c0 : wr.cell? ⟨w1.heap.size, 0, none⟩ = some (.int .i64 y.kind) := cell_of_cells hX 0
      have c1 : wr.cell? ⟨w1.heap.size, 1, none⟩ = some (.int .i64 y.level) := cell_of_cells hX 1
      have c2 : wr.cell? ⟨w1.heap.size, 2, none⟩ = some (.slice s.ea s.el s.ec) := cell_of_cells hX 2
      have c3 : wr.cell? ⟨w1.heap.size, 3, none⟩ = some (.int .i64 y.hb) := cell_of_cells hX 3
      have c4 : wr.cell? ⟨w1.heap.size, 4, none⟩ = some (.string y.hr) := cell_of_cells hX 4
      have c5 : wr.cell? ⟨w1.heap.size, 5, none⟩ = some (.int .i64 y.cr) := cell_of_cells hX 5
      have c6 : wr.cell? ⟨w1.heap.size, 6, none⟩ = some (.int .i64 y.cc) := cell_of_cells hX 6
      have c7 : wr.cell? ⟨w1.heap.size, 7, none⟩ = some (.slice s.ca s.cl s.cc) := cell_of_cells hX 7
      have c8 : wr.cell? ⟨w1.heap.size, 8, none⟩ = some (.int .i64 y.gf) := cell_of_cells hX 8
      have c9 : wr.cell? ⟨w1.heap.size, 9, none⟩ = some (.slice s.ga s.gl s.gc) := cell_of_cells hX 9
      have HX : Hid (wr.drew.heap[w1.heap.size]? = some (.cells #[.int .i64 y.kind, .int .i64 y.level, .slice s.ea s.el s.ec, .int .i64 y.hb, .string y.hr, .int .i64 y.cr, .int .i64 y.cc, .slice s.ca s.cl s.cc, .int .i64 y.gf, .slice s.ga s.gl s.gc] 36 (0, 0))) := hX
      have HR : Hid (wr.drew.heap[w.heap.size]? = some (.cells #[.int .i64 0, .int .i64 0, .slice none 0 0, .int .i64 0, .string ⟨#[]⟩, .int .i64 0, .int .i64 0, .slice none 0 0, .int .i64 0, .slice none 0 0] 36 (0, 0))) := hR
      have HB : Hid (Below w.heap.size w wr.drew) := hB.drew
      clear hX hR hB hAt hy hx hc hgb
      go_wp2_with fail
      -- REGION
      refine wp_region_any (by kernel_rfl) ?_
      change wpAny _ _ _ _ _ _ _ (World.drew _)
      refine wpAny_take (i := 1) (v := ?_) rfl (by kernel_rfl) (by kernel_rfl) (by kernel_rfl) (fun _ _ _ h => h) (Or.inl ⟨by rfl, ?_⟩) ?_
      rotate_left
      · intro w; go_simp; with_reducible rfl
      refine wpAny_take (i := 2) (v := ?_) rfl (by kernel_rfl) (by kernel_rfl) (by kernel_rfl) (fun _ _ _ h => h) (Or.inl ⟨by rfl, ?_⟩) ?_
      rotate_left
      · intro w; go_simp; with_reducible rfl
      refine wpAny_take (i := 3) (v := ?_) rfl (by kernel_rfl) (by kernel_rfl) (by kernel_rfl) (fun _ _ _ h => h) (Or.inl ⟨by rfl, ?_⟩) ?_
      rotate_left
      · intro w; go_simp; with_reducible rfl
      refine wpAny_ready (rs := [0, 4]) (by kernel_rfl) (by simp) ?_
      refine AllReady.cons rfl (fun K hK => ?_) ?_
      · go_simp
        refine hK _ _ ?_
        clear hK K
        refine wpAny_ready (rs := [4]) (by kernel_rfl) (by simp) ?_
        refine AllReady.cons rfl (fun K hK => ?_) ?_
        · go_simp
          refine hK _ _ ?_
          clear hK K
          refine wpAny_ready (rs := [5]) (by kernel_rfl) (by simp) ?_
          refine AllReady.cons rfl (fun K hK => ?_) ?_
          · go_simp
            refine HAdd.out.mono ?_
            rintro e w5 ⟨x5, rfl, ⟨y5, s5, hy5, rfl, hA5⟩, hb5⟩
            have hX5 := known hb5 (Nat.le_refl _) HX.out
            have hR5 := known hb5 (Nat.le_refl _) HR.out
            have f0 : w5.cell? ⟨w1.heap.size, 0, none⟩ = some (.int .i64 y.kind) := cell_of_cells hX5 0
            have f1 : w5.cell? ⟨w1.heap.size, 1, none⟩ = some (.int .i64 y.level) := cell_of_cells hX5 1
            have f2 : w5.cell? ⟨w1.heap.size, 2, none⟩ = some (.slice s.ea s.el s.ec) := cell_of_cells hX5 2
            have f3 : w5.cell? ⟨w1.heap.size, 3, none⟩ = some (.int .i64 y.hb) := cell_of_cells hX5 3
            have f4 : w5.cell? ⟨w1.heap.size, 4, none⟩ = some (.string y.hr) := cell_of_cells hX5 4
            have f5 : w5.cell? ⟨w1.heap.size, 5, none⟩ = some (.int .i64 y.cr) := cell_of_cells hX5 5
            have f6 : w5.cell? ⟨w1.heap.size, 6, none⟩ = some (.int .i64 y.cc) := cell_of_cells hX5 6
            have f7 : w5.cell? ⟨w1.heap.size, 7, none⟩ = some (.slice s.ca s.cl s.cc) := cell_of_cells hX5 7
            have f8 : w5.cell? ⟨w1.heap.size, 8, none⟩ = some (.int .i64 y.gf) := cell_of_cells hX5 8
            have f9 : w5.cell? ⟨w1.heap.size, 9, none⟩ = some (.slice s.ga s.gl s.gc) := cell_of_cells hX5 9
            have g0 : w5.frozen? ⟨w1.heap.size, 0, none⟩ = false := frozen_of_cells hX5 0
            have g1 : w5.frozen? ⟨w1.heap.size, 1, none⟩ = false := frozen_of_cells hX5 1
            have g2 : w5.frozen? ⟨w1.heap.size, 2, none⟩ = false := frozen_of_cells hX5 2
            have g3 : w5.frozen? ⟨w1.heap.size, 3, none⟩ = false := frozen_of_cells hX5 3
            have g4 : w5.frozen? ⟨w1.heap.size, 4, none⟩ = false := frozen_of_cells hX5 4
            have g5 : w5.frozen? ⟨w1.heap.size, 5, none⟩ = false := frozen_of_cells hX5 5
            have g6 : w5.frozen? ⟨w1.heap.size, 6, none⟩ = false := frozen_of_cells hX5 6
            have g7 : w5.frozen? ⟨w1.heap.size, 7, none⟩ = false := frozen_of_cells hX5 7
            have g8 : w5.frozen? ⟨w1.heap.size, 8, none⟩ = false := frozen_of_cells hX5 8
            have g9 : w5.frozen? ⟨w1.heap.size, 9, none⟩ = false := frozen_of_cells hX5 9
            obtain ⟨V, hV, hVX, hVO, hVB⟩ := store10 (.int .i64 y5.kind) (.int .i64 y5.level) (.slice s5.ea s5.el s5.ec) (.int .i64 y5.hb) (.string y5.hr) (.int .i64 y5.cr) (.int .i64 y5.cc) (.slice s5.ca s5.cl s5.cc) (.int .i64 y5.gf) (.slice s5.ga s5.gl s5.gc) hX5
            have HO : Hid (OI k t A w w1.heap.size (m + 1) V) := HStep.out V y5 s5 hy5 (at_apart hA5 hX5 (fun i u => noU_sk y s u) hVO) hVX ((hVO.2 _ (by omega)).trans hR5) (hVB _ _ (HB.out.trans (hb5.mono HB.out.size)) (by omega))
            clear hX5 hR5 hVX hVO hVB hy5 hA5 hb5
            refine hK _ _ ?_
            clear hK K
            refine wpAny_take (i := 6) (v := ?_) rfl (by kernel_rfl) (by kernel_rfl) (by kernel_rfl) (fun _ _ _ h => h) (Or.inl ⟨by rfl, ?_⟩) ?_
            rotate_left
            · intro w; go_simp; with_reducible rfl
            refine wpAny_take (i := 7) (v := ?_) rfl (by kernel_rfl) (by kernel_rfl) (by kernel_rfl) (fun _ _ _ h => h) (Or.inl ⟨by rfl, ?_⟩) ?_
            rotate_left
            · intro w; go_simp; with_reducible rfl
            refine wpAny_take (i := 8) (v := ?_) rfl (by kernel_rfl) (by kernel_rfl) (by kernel_rfl) (fun _ _ _ h => h) (Or.inl ⟨by rfl, ?_⟩) ?_
            rotate_left
            · intro w; go_simp; with_reducible rfl
            refine wpAny_ready (rs := [9]) (by kernel_rfl) (by simp) ?_
            refine AllReady.cons rfl (fun K hK => ?_) ?_
            · go_simp
              refine hK _ _ ?_
              clear hK K
              refine wpAny_take (i := 10) (v := ?_) rfl (by kernel_rfl) (by kernel_rfl) (by kernel_rfl) (fun _ _ _ h => h) (Or.inl ⟨by rfl, ?_⟩) ?_
              rotate_left
              · intro w; go_simp; with_reducible rfl
              refine wpAny_done (by kernel_rfl) ?_ _
              go_wp2_with fail
              go_roundw
              case rel => exact ⟨m + 1, by omega, rfl, by simp, HO.out⟩
              case measure => simp [intOf]; omega
            exact AllReady.nil
          exact AllReady.nil
        exact AllReady.nil
      refine AllReady.cons rfl (fun K hK => ?_) ?_
      · go_simp
        refine hK _ _ ?_
        clear hK K
        refine wpAny_ready (rs := [0]) (by kernel_rfl) (by simp) ?_
        refine AllReady.cons rfl (fun K hK => ?_) ?_
        · go_simp
          refine hK _ _ ?_
          clear hK K
          refine wpAny_ready (rs := [5]) (by kernel_rfl) (by simp) ?_
          refine AllReady.cons rfl (fun K hK => ?_) ?_
          · go_simp
            refine HAdd.out.mono ?_
            rintro e w5 ⟨x5, rfl, ⟨y5, s5, hy5, rfl, hA5⟩, hb5⟩
            have hX5 := known hb5 (Nat.le_refl _) HX.out
            have hR5 := known hb5 (Nat.le_refl _) HR.out
            have f0 : w5.cell? ⟨w1.heap.size, 0, none⟩ = some (.int .i64 y.kind) := cell_of_cells hX5 0
            have f1 : w5.cell? ⟨w1.heap.size, 1, none⟩ = some (.int .i64 y.level) := cell_of_cells hX5 1
            have f2 : w5.cell? ⟨w1.heap.size, 2, none⟩ = some (.slice s.ea s.el s.ec) := cell_of_cells hX5 2
            have f3 : w5.cell? ⟨w1.heap.size, 3, none⟩ = some (.int .i64 y.hb) := cell_of_cells hX5 3
            have f4 : w5.cell? ⟨w1.heap.size, 4, none⟩ = some (.string y.hr) := cell_of_cells hX5 4
            have f5 : w5.cell? ⟨w1.heap.size, 5, none⟩ = some (.int .i64 y.cr) := cell_of_cells hX5 5
            have f6 : w5.cell? ⟨w1.heap.size, 6, none⟩ = some (.int .i64 y.cc) := cell_of_cells hX5 6
            have f7 : w5.cell? ⟨w1.heap.size, 7, none⟩ = some (.slice s.ca s.cl s.cc) := cell_of_cells hX5 7
            have f8 : w5.cell? ⟨w1.heap.size, 8, none⟩ = some (.int .i64 y.gf) := cell_of_cells hX5 8
            have f9 : w5.cell? ⟨w1.heap.size, 9, none⟩ = some (.slice s.ga s.gl s.gc) := cell_of_cells hX5 9
            have g0 : w5.frozen? ⟨w1.heap.size, 0, none⟩ = false := frozen_of_cells hX5 0
            have g1 : w5.frozen? ⟨w1.heap.size, 1, none⟩ = false := frozen_of_cells hX5 1
            have g2 : w5.frozen? ⟨w1.heap.size, 2, none⟩ = false := frozen_of_cells hX5 2
            have g3 : w5.frozen? ⟨w1.heap.size, 3, none⟩ = false := frozen_of_cells hX5 3
            have g4 : w5.frozen? ⟨w1.heap.size, 4, none⟩ = false := frozen_of_cells hX5 4
            have g5 : w5.frozen? ⟨w1.heap.size, 5, none⟩ = false := frozen_of_cells hX5 5
            have g6 : w5.frozen? ⟨w1.heap.size, 6, none⟩ = false := frozen_of_cells hX5 6
            have g7 : w5.frozen? ⟨w1.heap.size, 7, none⟩ = false := frozen_of_cells hX5 7
            have g8 : w5.frozen? ⟨w1.heap.size, 8, none⟩ = false := frozen_of_cells hX5 8
            have g9 : w5.frozen? ⟨w1.heap.size, 9, none⟩ = false := frozen_of_cells hX5 9
            obtain ⟨V, hV, hVX, hVO, hVB⟩ := store10 (.int .i64 y5.kind) (.int .i64 y5.level) (.slice s5.ea s5.el s5.ec) (.int .i64 y5.hb) (.string y5.hr) (.int .i64 y5.cr) (.int .i64 y5.cc) (.slice s5.ca s5.cl s5.cc) (.int .i64 y5.gf) (.slice s5.ga s5.gl s5.gc) hX5
            have HO : Hid (OI k t A w w1.heap.size (m + 1) V) := HStep.out V y5 s5 hy5 (at_apart hA5 hX5 (fun i u => noU_sk y s u) hVO) hVX ((hVO.2 _ (by omega)).trans hR5) (hVB _ _ (HB.out.trans (hb5.mono HB.out.size)) (by omega))
            clear hX5 hR5 hVX hVO hVB hy5 hA5 hb5
            refine hK _ _ ?_
            clear hK K
            refine wpAny_take (i := 6) (v := ?_) rfl (by kernel_rfl) (by kernel_rfl) (by kernel_rfl) (fun _ _ _ h => h) (Or.inl ⟨by rfl, ?_⟩) ?_
            rotate_left
            · intro w; go_simp; with_reducible rfl
            refine wpAny_take (i := 7) (v := ?_) rfl (by kernel_rfl) (by kernel_rfl) (by kernel_rfl) (fun _ _ _ h => h) (Or.inl ⟨by rfl, ?_⟩) ?_
            rotate_left
            · intro w; go_simp; with_reducible rfl
            refine wpAny_take (i := 8) (v := ?_) rfl (by kernel_rfl) (by kernel_rfl) (by kernel_rfl) (fun _ _ _ h => h) (Or.inl ⟨by rfl, ?_⟩) ?_
            rotate_left
            · intro w; go_simp; with_reducible rfl
            refine wpAny_ready (rs := [9]) (by kernel_rfl) (by simp) ?_
            refine AllReady.cons rfl (fun K hK => ?_) ?_
            · go_simp
              refine hK _ _ ?_
              clear hK K
              refine wpAny_take (i := 10) (v := ?_) rfl (by kernel_rfl) (by kernel_rfl) (by kernel_rfl) (fun _ _ _ h => h) (Or.inl ⟨by rfl, ?_⟩) ?_
              rotate_left
              · intro w; go_simp; with_reducible rfl
              refine wpAny_done (by kernel_rfl) ?_ _
              go_wp2_with fail
              go_roundw
              case rel => exact ⟨m + 1, by omega, rfl, by simp, HO.out⟩
              case measure => simp [intOf]; omega
            exact AllReady.nil
          exact AllReady.nil
        exact AllReady.nil
      exact AllReady.nil
      -- END
    · obtain rfl : m = A.length := by omega
      rw [List.take_length] at hy
      have c0 : wr.cell? ⟨w1.heap.size, 0, none⟩ = some (.int .i64 y.kind) := cell_of_cells hX 0
      have c1 : wr.cell? ⟨w1.heap.size, 1, none⟩ = some (.int .i64 y.level) := cell_of_cells hX 1
      have c2 : wr.cell? ⟨w1.heap.size, 2, none⟩ = some (.slice s.ea s.el s.ec) := cell_of_cells hX 2
      have c3 : wr.cell? ⟨w1.heap.size, 3, none⟩ = some (.int .i64 y.hb) := cell_of_cells hX 3
      have c4 : wr.cell? ⟨w1.heap.size, 4, none⟩ = some (.string y.hr) := cell_of_cells hX 4
      have c5 : wr.cell? ⟨w1.heap.size, 5, none⟩ = some (.int .i64 y.cr) := cell_of_cells hX 5
      have c6 : wr.cell? ⟨w1.heap.size, 6, none⟩ = some (.int .i64 y.cc) := cell_of_cells hX 6
      have c7 : wr.cell? ⟨w1.heap.size, 7, none⟩ = some (.slice s.ca s.cl s.cc) := cell_of_cells hX 7
      have c8 : wr.cell? ⟨w1.heap.size, 8, none⟩ = some (.int .i64 y.gf) := cell_of_cells hX 8
      have c9 : wr.cell? ⟨w1.heap.size, 9, none⟩ = some (.slice s.ga s.gl s.gc) := cell_of_cells hX 9
      have r0 : wr.cell? ⟨w.heap.size, 0, none⟩ = some (.int .i64 0) := cell_of_cells hR 0
      have r1 : wr.cell? ⟨w.heap.size, 1, none⟩ = some (.int .i64 0) := cell_of_cells hR 1
      have r2 : wr.cell? ⟨w.heap.size, 2, none⟩ = some (.slice none 0 0) := cell_of_cells hR 2
      have r3 : wr.cell? ⟨w.heap.size, 3, none⟩ = some (.int .i64 0) := cell_of_cells hR 3
      have r4 : wr.cell? ⟨w.heap.size, 4, none⟩ = some (.string ⟨#[]⟩) := cell_of_cells hR 4
      have r5 : wr.cell? ⟨w.heap.size, 5, none⟩ = some (.int .i64 0) := cell_of_cells hR 5
      have r6 : wr.cell? ⟨w.heap.size, 6, none⟩ = some (.int .i64 0) := cell_of_cells hR 6
      have r7 : wr.cell? ⟨w.heap.size, 7, none⟩ = some (.slice none 0 0) := cell_of_cells hR 7
      have r8 : wr.cell? ⟨w.heap.size, 8, none⟩ = some (.int .i64 0) := cell_of_cells hR 8
      have r9 : wr.cell? ⟨w.heap.size, 9, none⟩ = some (.slice none 0 0) := cell_of_cells hR 9
      have g0 : wr.frozen? ⟨w.heap.size, 0, none⟩ = false := frozen_of_cells hR 0
      have g1 : wr.frozen? ⟨w.heap.size, 1, none⟩ = false := frozen_of_cells hR 1
      have g2 : wr.frozen? ⟨w.heap.size, 2, none⟩ = false := frozen_of_cells hR 2
      have g3 : wr.frozen? ⟨w.heap.size, 3, none⟩ = false := frozen_of_cells hR 3
      have g4 : wr.frozen? ⟨w.heap.size, 4, none⟩ = false := frozen_of_cells hR 4
      have g5 : wr.frozen? ⟨w.heap.size, 5, none⟩ = false := frozen_of_cells hR 5
      have g6 : wr.frozen? ⟨w.heap.size, 6, none⟩ = false := frozen_of_cells hR 6
      have g7 : wr.frozen? ⟨w.heap.size, 7, none⟩ = false := frozen_of_cells hR 7
      have g8 : wr.frozen? ⟨w.heap.size, 8, none⟩ = false := frozen_of_cells hR 8
      have g9 : wr.frozen? ⟨w.heap.size, 9, none⟩ = false := frozen_of_cells hR 9
      obtain ⟨U, hU, hUX, hUO, hUB⟩ := store10 (.int .i64 y.kind) (.int .i64 y.level) (.slice s.ea s.el s.ec) (.int .i64 y.hb) (.string y.hr) (.int .i64 y.cr) (.int .i64 y.cc) (.slice s.ca s.cl s.cc) (.int .i64 y.gf) (.slice s.ga s.gl s.gc) hR
      have k0 : U.cell? ⟨w.heap.size, 0, none⟩ = some (.int .i64 y.kind) := cell_of_cells hUX 0
      have k1 : U.cell? ⟨w.heap.size, 1, none⟩ = some (.int .i64 y.level) := cell_of_cells hUX 1
      have k2 : U.cell? ⟨w.heap.size, 2, none⟩ = some (.slice s.ea s.el s.ec) := cell_of_cells hUX 2
      have k3 : U.cell? ⟨w.heap.size, 3, none⟩ = some (.int .i64 y.hb) := cell_of_cells hUX 3
      have k4 : U.cell? ⟨w.heap.size, 4, none⟩ = some (.string y.hr) := cell_of_cells hUX 4
      have k5 : U.cell? ⟨w.heap.size, 5, none⟩ = some (.int .i64 y.cr) := cell_of_cells hUX 5
      have k6 : U.cell? ⟨w.heap.size, 6, none⟩ = some (.int .i64 y.cc) := cell_of_cells hUX 6
      have k7 : U.cell? ⟨w.heap.size, 7, none⟩ = some (.slice s.ca s.cl s.cc) := cell_of_cells hUX 7
      have k8 : U.cell? ⟨w.heap.size, 8, none⟩ = some (.int .i64 y.gf) := cell_of_cells hUX 8
      have k9 : U.cell? ⟨w.heap.size, 9, none⟩ = some (.slice s.ga s.gl s.gc) := cell_of_cells hUX 9
      have HS2 : Hid (SkB U (.agg #[.int .i64 y.kind, .int .i64 y.level, .slice s.ea s.el s.ec, .int .i64 y.hb, .string y.hr, .int .i64 y.cr, .int .i64 y.cc, .slice s.ca s.cl s.cc, .int .i64 y.gf, .slice s.ga s.gl s.gc]) k (wkSum k t A).1 (wkSum k t A).2) := ⟨y, s, hy, rfl, at_apart hAt hR (fun i u => noU_zero u) hUO⟩
      have HBU : Hid (Below w.heap.size w U) := hUB _ _ hB (Nat.le_refl _)
      clear hX hR hB hAt hy hUX hUO hUB
      go_wp2_with fail
      exact bodyPost_ret (v := .tuple #[.agg #[.int .i64 y.kind, .int .i64 y.level, .slice s.ea s.el s.ec, .int .i64 y.hb, .string y.hr, .int .i64 y.cr, .int .i64 y.cc, .slice s.ca s.cl s.cc, .int .i64 y.gf, .slice s.ga s.gl s.gc], .int .i64 0]) (by simp [results, Tryz.f13, go_sem, k0, k1, k2, k3, k4, k5, k6, k7, k8, k9]) rfl ⟨_, rfl, HS2.out, HBU.out⟩
end Go.Proofs.YtmkefodaibmkhaaGreatDoor

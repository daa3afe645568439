/- The law LadderAsks: its walk. Printed by gen_nh.py. -/
import Derived.Test.YtmkefodaibmkhaaGreatDoorZLO
import Derived.Test.YtmkefodaibmkhaaGreatDoorZNG
import Derived.BigQuiet
namespace Go.Proofs.YtmkefodaibmkhaaGreatDoor
open Go Go.RowKit Go.Shelf

/-- The items' cells. -/
theorem it_cells {W0 W : World} {a : Option Addr} {len : Nat} {A : List (Nat × Int)} (h : SlE encIt 2 W0.heap.size W0 a len A) (hB : Below W0.heap.size W0 W) {j : Nat} {x : Nat × Int} (hx : A[j]? = some x) :
    ∃ b off, a = some ⟨b, off, none⟩ ∧ W.cell? ⟨b, off + j * 2, none⟩ = some (.int .u64 x.1) ∧ W.cell? ⟨b, off + j * 2 + 1, none⟩ = some (.int .u64 x.2) := by
  obtain ⟨b, off, e, hb, hc⟩ := h.2 j x hx
  exact ⟨b, off, e, (hB.cell (p := ⟨b, off + j * 2, none⟩) hb).trans (hc 0 (by omega)), (hB.cell (p := ⟨b, off + j * 2 + 1, none⟩) hb).trans (hc 1 (by omega))⟩
theorem sat_wrap (s n : Int) (hs : U64 s) (hn : U64 n) : IntKind.u64.wrap (s + min n (18446744073709551615 - s)) = satI s n := by
  unfold U64 at hs hn
  have e : s + min n (18446744073709551615 - s) = satI s n := by unfold satI; split <;> omega
  rw [e]
  have := satI_u64 s n hs hn
  unfold U64 at this
  exact u64_small _ (by omega) (by omega)
theorem dif_wrap (d : Nat) (h : d < 1000) : IntKind.u64.wrap ((d : Int) + 1) = ((d + 1 : Nat) : Int) := by
  rw [show ((d : Int) + 1) = ((d + 1 : Nat) : Int) by omega]
  exact u64_small _ (by omega) (by omega)
theorem beq_cast (a b : Nat) : ((a : Int) == (b : Int)) = (a == b) := by rw [Bool.eq_iff_iff, beq_iff_eq, beq_iff_eq]; omega
/-- Is the number among the first ones? -/
def amid (A : List (Nat × Int)) (q n : Nat) : Bool := (A.take q).any fun y => y.1 == n
theorem amid_snoc (A : List (Nat × Int)) (q n : Nat) (y : Nat × Int) (h : A[q]? = some y) : amid A (q + 1) n = (amid A q n || (y.1 == n)) := by
  unfold amid
  rw [take_snoc' h, List.any_append]
  simp
theorem amid_iff (A : List (Nat × Int)) (q n : Nat) : amid A q n = true ↔ (n : Int) ∈ hashes (A.take q) := by
  unfold amid hashes
  rw [List.any_eq_true, List.mem_map]
  constructor
  · rintro ⟨y, hy, e⟩
    exact ⟨y, hy, by have : y.1 = n := by simpa using e
                     omega⟩
  · rintro ⟨y, hy, e⟩
    exact ⟨y, hy, by have : y.1 = n := by omega
                     simpa using this⟩
theorem dif_step (A : List (Nat × Int)) (j : Nat) (x : Nat × Int) (h : A[j]? = some x) : dif (A.take (j + 1)) = dif (A.take j) + if amid A j x.1 then 0 else 1 := by
  rw [take_snoc' h, dif_snoc]
  have := amid_iff A j x.1
  by_cases hm : amid A j x.1 = true
  · rw [if_pos hm, if_pos (this.1 hm)]
  · rw [if_neg hm, if_neg (fun e => hm (this.2 e))]
set_option maxRecDepth 100000 in
set_option maxHeartbeats 4000000 in
theorem asks_1 (t h : Nat) (l : List (Nat × Int)) (a : Option Addr) (len cap : Nat) (w : World) (ht : t ≤ botN 1) (hh : h < 2 ^ 64) (hS : SlC encIt 2 w.heap.size w a len cap l) (hA : AllOk l) (hg : GT w) :
    Calls Tryz.prog 7 #[.int .i64 1, .int .i64 t, .slice a len cap, .int .u64 h] w fun e w' => e = .returned (.bool true) ∧ Below w.heap.size w w' := by
  have hlc := hS.2.1
  have hk : (1 : Nat) = 1 ∨ (1 : Nat) = 2 ∨ (1 : Nat) = 3 := by omega
  have HF : Hid (∀ W, Calls Tryz.prog 14 #[.slice a len cap] W fun e w' => e = .returned (.slice a (min len 100) cap) ∧ W = w') := fun W => (fewItems_any a len cap W hlc).mono fun e w' h => ⟨h.1, h.2.symm⟩
  obtain ⟨A, hAt⟩ : ∃ A, l.take (min len 100) = A := ⟨_, rfl⟩
  obtain ⟨m, hm⟩ : ∃ m, min len 100 = m := ⟨_, rfl⟩
  have hmA : m = A.length := by rw [← hAt, List.length_take, ← hS.1.1, ← hm]; omega
  have hSA : SlE encIt 2 w.heap.size w a m A := by rw [← hAt, ← hm]; exact (hS.1.take _ (by omega))
  have hAA : AllOk A := by rw [← hAt]; exact fun i h => hA i (List.mem_of_mem_take h)
  have HO : Hid (∀ W, Below w.heap.size w W → Calls Tryz.prog 13 #[.int .i64 1, .int .i64 t, .slice a m cap] W fun e w' => ∃ x, e = .returned (.tuple #[x, .int .i64 0]) ∧ SkB w' x 1 (wkSum 1 t A).1 (wkSum 1 t A).2 ∧ Below W.heap.size W w') := fun W hB => by
    rw [← hAt, ← hm]
    exact of_few 1 t l a len cap W hk ht ((hS.below hB).mono hB.size) hA (hg.go hB)
  have HQ : Hid (∀ v W, SkB W v 1 (wkSum 1 t A).1 (wkSum 1 t A).2 → Calls Tryz.prog 33 #[v, .int .u64 h] W (AskPost ((wkSum 1 t A).2.ask h) W)) := fun v W hv => Ask_any (sum_ok 1 t hk ht A hAA) hh hv
  have HL : Hid (∀ v W, SkB W v 1 (wkSum 1 t A).1 (wkSum 1 t A).2 → ∃ (y : Sk) (s : SS), v = .agg #[.int .i64 y.kind, .int .i64 y.level, .slice s.ea s.el s.ec, .int .i64 y.hb, .string y.hr, .int .i64 y.cr, .int .i64 y.cc, .slice s.ca s.cl s.cc, .int .i64 y.gf, .slice s.ga s.gl s.gc] ∧ y.level = (wkSum 1 t A).1) := fun v W ⟨y, s, hy, hv, _⟩ => ⟨y, s, hv, by rw [hy]; exact (skOf_kind _ _ _).2⟩
  have hlen : A.length ≤ 100 := by omega
  rw [hm] at HF
  have HLaw := Lib.hid (asks_num t h ht A hAA)
  have HB : Hid (∀ w, Calls Tryz.prog 12 #[.int .i64 1] w fun e w' => e = .returned (.int .i64 (botN 1 : Nat)) ∧ w = w') := fun w => (Bottom_any 1 w).mono fun e w' ⟨h1, h2⟩ => ⟨by rw [h1]; rfl, h2⟩
  generalize wkSum 1 t A = S at HO HQ HL HLaw
  have HH := Lib.hid (shown10_any w)
  have g1 : ¬ ((botN 1 : Int) < (t : Int)) := by omega
  have HSA := Lib.hid hSA
  have HAA := Lib.hid hAA
  clear hlc hAt hm hk hS hA hg hSA hAA ht
  subst hmA
  go_enter Tryz.func7, Tryz.ntmps7
  go_wp2_with fail
  refine HH.out.mono ?_
  rintro e w0 ⟨rfl, hb0⟩
  have HB0 := Lib.hid hb0
  clear hb0
  go_wp2_with (go_at_call 14; refine (HF.out _).mono ?_; rintro e w' ⟨rfl, rfl⟩)
  go_wp2_with (go_at_call 12; refine (HB.out _).mono ?_; rintro e w' ⟨rfl, rfl⟩)
  refine (HO.out _ HB0.out).mono ?_
  rintro e w1 ⟨x1, rfl, hx1, hb1⟩
  obtain ⟨y1, s1, rfl, hlev⟩ := HL.out x1 w1 hx1
  have HLev := Lib.hid hlev
  clear hlev
  obtain ⟨W1, hW1, hX1, hB1, hs1⟩ := boxes1 w1 #[.int .i64 y1.kind, .int .i64 y1.level, .slice s1.ea s1.el s1.ec, .int .i64 y1.hb, .string y1.hr, .int .i64 y1.cr, .int .i64 y1.cc, .slice s1.ca s1.cl s1.cc, .int .i64 y1.gf, .slice s1.ga s1.gl s1.gc] 36
  have HK1 : Hid (SkB W1 (.agg #[.int .i64 y1.kind, .int .i64 y1.level, .slice s1.ea s1.el s1.ec, .int .i64 y1.hb, .string y1.hr, .int .i64 y1.cr, .int .i64 y1.cc, .slice s1.ca s1.cl s1.cc, .int .i64 y1.gf, .slice s1.ga s1.gl s1.gc]) 1 S.1 S.2) := SkB.go hx1 hB1
  have HB1 : Hid (Below w.heap.size w W1) := HB0.out.trans ((hb1.trans (hB1.mono hb1.size)).mono HB0.out.size)
  have HX1 := Lib.hid hX1
  clear hX1 hB1 hs1 hb1 hx1
  go_wp2_with fail
  go_loopw [12, 13, 14] (fun le di i wr => ∃ j : Nat, j ≤ A.length ∧ i = .int .i64 j ∧ le = .int .u64 (asSum 1 h 0 (A.take j)) ∧ di = .int .u64 (dif (A.take j) : Nat) ∧ Below W1.heap.size W1 wr) (fun _ _ i _ => A.length - (intOf i).toNat)
  case atStart => exact ⟨0, Nat.zero_le _, rfl, rfl, rfl, Below.refl _ _⟩
  case round =>
    obtain ⟨j, hj, rfl, rfl, rfl, hBr⟩ := hrel
    by_cases hlt : j < A.length
    · obtain ⟨x, hx⟩ : ∃ x, A[j]? = some x := ⟨_, List.getElem?_eq_getElem hlt⟩
      have hxo := HAA.out x (List.mem_of_getElem? hx)
      have hBw : Below w.heap.size w wr := HB1.out.trans (hBr.mono HB1.out.size)
      obtain ⟨gb, off, ha, i0, i1⟩ := it_cells HSA.out hBw hx
      subst ha
      have hsu : U64 (asSum 1 h 0 (A.take j)) := asSum_u64 1 h _ 0 (fun i hi => HAA.out i (List.mem_of_mem_take hi)) u64_0
      have hsn : asSum 1 h 0 (A.take (j + 1)) = if asIs 1 h x then satI (asSum 1 h 0 (A.take j)) x.2 else asSum 1 h 0 (A.take j) := by rw [take_snoc' hx]; exact asSum_snoc _ _ _ _ _
      have hdn := dif_step A j x hx
      have hd1 : dif (A.take j) ≤ 100 := by have := dif_le (A.take j); rw [List.length_take] at this; omega
      have HN := Lib.hid (And.intro hsn hdn)
      have hsw := sat_wrap _ _ hsu hxo.2
      have hmx : IntKind.u64.wrap (18446744073709551615 - asSum 1 h 0 (A.take j)) = 18446744073709551615 - asSum 1 h 0 (A.take j) := by unfold U64 at hsu; exact u64_small _ (by omega) (by omega)
      have hdw := dif_wrap (dif (A.take j)) (by omega)
      generalize asSum 1 h 0 (A.take j) = s0 at hsu hsn hsw hmx HN
      generalize dif (A.take j) = d0 at hdn hd1 hdw HN
      have HX := Lib.hid hx
      have HBR := Lib.hid hBr
      have HBW := Lib.hid hBw
      clear hsn hdn hx hBr hBw
      have hc : ¬ asIs 1 h x = true := by simp [asIs]
      · go_wp2_with fail
        go_loopw [15, 16] (fun is q wr2 => ∃ n : Nat, n ≤ j ∧ q = .int .i64 n ∧ is = .bool (amid A n x.1) ∧ Below W1.heap.size W1 wr2) (fun _ q _ => j - (intOf q).toNat)
        case atStart => exact ⟨0, Nat.zero_le _, rfl, rfl, HBR.out⟩
        case round =>
          obtain ⟨n, hn, rfl, rfl, hB2⟩ := hrel
          by_cases hnj : n < j
          · obtain ⟨y, hy⟩ : ∃ y, A[n]? = some y := ⟨_, List.getElem?_eq_getElem (by omega)⟩
            have hB2w : Below w.heap.size w wr := HB1.out.trans (hB2.mono HB1.out.size)
            obtain ⟨gb2, off2, e2, y0, -⟩ := it_cells HSA.out hB2w hy
            cases e2
            obtain ⟨gb2, off2, e2, z0, -⟩ := it_cells HSA.out hB2w HX.out
            cases e2
            have hnext := amid_snoc A n x.1 y hy
            have HNX := Lib.hid hnext
            have HB2 := Lib.hid hB2
            have hnl : (n : Int) < A.length := by omega
            clear hy hB2w hnext hB2 i0 i1
            generalize amid A n x.1 = am at HNX ⊢
            cases am with
            | true =>
              go_wp2_with fail
              go_quiet (fail)
              go_wp2_with fail
              go_roundw
              case rel => exact ⟨n + 1, by omega, by simp, by rw [HNX.out]; rfl, below_drewN HB2.out _⟩
              case measure => simp [intOf]; omega
            | false =>
              go_wp2_with fail
              go_quiet (fail)
              go_wp2_with fail
              go_roundw
              case rel => exact ⟨n + 1, by omega, by simp, by rw [HNX.out, Bool.false_or, ← beq_cast y.1 x.1]; first | done | rw [hq], below_drewN HB2.out _⟩
              case measure => simp [intOf]; omega
          · obtain rfl : n = j := by omega
            cases ham : amid A n x.1 with
            | true =>
              go_wp2_with fail
              go_roundw
              case rel => exact ⟨n + 1, by omega, by simp, by rw [HN.out.1, if_neg hc], by rw [HN.out.2, if_pos ham]; rfl, hB2⟩
              case measure => simp [intOf]; omega
            | false =>
              go_wp2_with fail
              go_roundw
              case rel => exact ⟨n + 1, by omega, by simp, by rw [HN.out.1, if_neg hc], by rw [HN.out.2, if_neg (by rw [ham]; decide), Int.natCast_add]; rfl, hB2⟩
              case measure => simp [intOf]; omega
    · obtain rfl : j = A.length := by omega
      rw [List.take_length]
      have hX := known hBr (Nat.le_refl _) HX1.out
      have hQ := Lib.hid (HQ.out _ wr (HK1.out.go hBr))
      have c0 : wr.cell? ⟨w1.heap.size, 0, none⟩ = some (.int .i64 y1.kind) := cell_of_cells hX 0
      have c1 : wr.cell? ⟨w1.heap.size, 1, none⟩ = some (.int .i64 y1.level) := cell_of_cells hX 1
      have c2 : wr.cell? ⟨w1.heap.size, 2, none⟩ = some (.slice s1.ea s1.el s1.ec) := cell_of_cells hX 2
      have c3 : wr.cell? ⟨w1.heap.size, 3, none⟩ = some (.int .i64 y1.hb) := cell_of_cells hX 3
      have c4 : wr.cell? ⟨w1.heap.size, 4, none⟩ = some (.string y1.hr) := cell_of_cells hX 4
      have c5 : wr.cell? ⟨w1.heap.size, 5, none⟩ = some (.int .i64 y1.cr) := cell_of_cells hX 5
      have c6 : wr.cell? ⟨w1.heap.size, 6, none⟩ = some (.int .i64 y1.cc) := cell_of_cells hX 6
      have c7 : wr.cell? ⟨w1.heap.size, 7, none⟩ = some (.slice s1.ca s1.cl s1.cc) := cell_of_cells hX 7
      have c8 : wr.cell? ⟨w1.heap.size, 8, none⟩ = some (.int .i64 y1.gf) := cell_of_cells hX 8
      have c9 : wr.cell? ⟨w1.heap.size, 9, none⟩ = some (.slice s1.ga s1.gl s1.gc) := cell_of_cells hX 9
      have HBR := Lib.hid (HB1.out.trans (hBr.mono HB1.out.size))
      have HBR2 := Lib.hid hBr
      have HL0 := HLaw.out
      generalize dif A = d0 at HL0 ⊢
      generalize S.2.ask h = n at HL0 hQ
      obtain ⟨hl1, hl2⟩ := HL0
      clear hX hBr
      by_cases hz : S.1 = 0
      · have hn := hl1 hz
        subst hn
        by_cases hp : 0 < d0
        · have hp1 : (0 : Int) < (d0 : Int) := by omega
          go_wp2_with fail
          refine hQ.out.mono ?_
          rintro e w3 ⟨rfl, hb3⟩
          have hX3 := known hb3 (Nat.le_refl _) (known HBR2.out (Nat.le_refl _) HX1.out)
          have f0 : w3.cell? ⟨w1.heap.size, 0, none⟩ = some (.int .i64 y1.kind) := cell_of_cells hX3 0
          have f1 : w3.cell? ⟨w1.heap.size, 1, none⟩ = some (.int .i64 y1.level) := cell_of_cells hX3 1
          have f2 : w3.cell? ⟨w1.heap.size, 2, none⟩ = some (.slice s1.ea s1.el s1.ec) := cell_of_cells hX3 2
          have f3 : w3.cell? ⟨w1.heap.size, 3, none⟩ = some (.int .i64 y1.hb) := cell_of_cells hX3 3
          have f4 : w3.cell? ⟨w1.heap.size, 4, none⟩ = some (.string y1.hr) := cell_of_cells hX3 4
          have f5 : w3.cell? ⟨w1.heap.size, 5, none⟩ = some (.int .i64 y1.cr) := cell_of_cells hX3 5
          have f6 : w3.cell? ⟨w1.heap.size, 6, none⟩ = some (.int .i64 y1.cc) := cell_of_cells hX3 6
          have f7 : w3.cell? ⟨w1.heap.size, 7, none⟩ = some (.slice s1.ca s1.cl s1.cc) := cell_of_cells hX3 7
          have f8 : w3.cell? ⟨w1.heap.size, 8, none⟩ = some (.int .i64 y1.gf) := cell_of_cells hX3 8
          have f9 : w3.cell? ⟨w1.heap.size, 9, none⟩ = some (.slice s1.ga s1.gl s1.gc) := cell_of_cells hX3 9
          rw [HLev.out, hz] at f1
          go_wp2_with fail
          go_ret
          exact ⟨rfl, HBR.out.trans (hb3.mono HBR.out.size)⟩
        · have hp1 : d0 = 0 := by omega
          subst hp1
          go_wp2_with fail
          refine hQ.out.mono ?_
          rintro e w3 ⟨rfl, hb3⟩
          have hX3 := known hb3 (Nat.le_refl _) (known HBR2.out (Nat.le_refl _) HX1.out)
          have f0 : w3.cell? ⟨w1.heap.size, 0, none⟩ = some (.int .i64 y1.kind) := cell_of_cells hX3 0
          have f1 : w3.cell? ⟨w1.heap.size, 1, none⟩ = some (.int .i64 y1.level) := cell_of_cells hX3 1
          have f2 : w3.cell? ⟨w1.heap.size, 2, none⟩ = some (.slice s1.ea s1.el s1.ec) := cell_of_cells hX3 2
          have f3 : w3.cell? ⟨w1.heap.size, 3, none⟩ = some (.int .i64 y1.hb) := cell_of_cells hX3 3
          have f4 : w3.cell? ⟨w1.heap.size, 4, none⟩ = some (.string y1.hr) := cell_of_cells hX3 4
          have f5 : w3.cell? ⟨w1.heap.size, 5, none⟩ = some (.int .i64 y1.cr) := cell_of_cells hX3 5
          have f6 : w3.cell? ⟨w1.heap.size, 6, none⟩ = some (.int .i64 y1.cc) := cell_of_cells hX3 6
          have f7 : w3.cell? ⟨w1.heap.size, 7, none⟩ = some (.slice s1.ca s1.cl s1.cc) := cell_of_cells hX3 7
          have f8 : w3.cell? ⟨w1.heap.size, 8, none⟩ = some (.int .i64 y1.gf) := cell_of_cells hX3 8
          have f9 : w3.cell? ⟨w1.heap.size, 9, none⟩ = some (.slice s1.ga s1.gl s1.gc) := cell_of_cells hX3 9
          rw [HLev.out, hz] at f1
          go_wp2_with fail
          go_ret
          exact ⟨rfl, HBR.out.trans (hb3.mono HBR.out.size)⟩
      · have hz1 : (0 : Int) < (S.1 : Int) := by omega
        by_cases hp : 0 < d0
        · have hp1 : (0 : Int) < (d0 : Int) := by omega
          have hp2 : (0 : Int) < n := hl2.2 hp
          go_wp2_with fail
          refine hQ.out.mono ?_
          rintro e w3 ⟨rfl, hb3⟩
          have hX3 := known hb3 (Nat.le_refl _) (known HBR2.out (Nat.le_refl _) HX1.out)
          have f0 : w3.cell? ⟨w1.heap.size, 0, none⟩ = some (.int .i64 y1.kind) := cell_of_cells hX3 0
          have f1 : w3.cell? ⟨w1.heap.size, 1, none⟩ = some (.int .i64 y1.level) := cell_of_cells hX3 1
          have f2 : w3.cell? ⟨w1.heap.size, 2, none⟩ = some (.slice s1.ea s1.el s1.ec) := cell_of_cells hX3 2
          have f3 : w3.cell? ⟨w1.heap.size, 3, none⟩ = some (.int .i64 y1.hb) := cell_of_cells hX3 3
          have f4 : w3.cell? ⟨w1.heap.size, 4, none⟩ = some (.string y1.hr) := cell_of_cells hX3 4
          have f5 : w3.cell? ⟨w1.heap.size, 5, none⟩ = some (.int .i64 y1.cr) := cell_of_cells hX3 5
          have f6 : w3.cell? ⟨w1.heap.size, 6, none⟩ = some (.int .i64 y1.cc) := cell_of_cells hX3 6
          have f7 : w3.cell? ⟨w1.heap.size, 7, none⟩ = some (.slice s1.ca s1.cl s1.cc) := cell_of_cells hX3 7
          have f8 : w3.cell? ⟨w1.heap.size, 8, none⟩ = some (.int .i64 y1.gf) := cell_of_cells hX3 8
          have f9 : w3.cell? ⟨w1.heap.size, 9, none⟩ = some (.slice s1.ga s1.gl s1.gc) := cell_of_cells hX3 9
          rw [HLev.out] at f1
          go_wp2_with fail
          go_ret
          exact ⟨rfl, HBR.out.trans (hb3.mono HBR.out.size)⟩
        · have hp1 : ¬ (0 : Int) < (d0 : Int) := by omega
          have hp2 : ¬ (0 : Int) < n := fun h => hp (hl2.1 h)
          go_wp2_with fail
          refine hQ.out.mono ?_
          rintro e w3 ⟨rfl, hb3⟩
          have hX3 := known hb3 (Nat.le_refl _) (known HBR2.out (Nat.le_refl _) HX1.out)
          have f0 : w3.cell? ⟨w1.heap.size, 0, none⟩ = some (.int .i64 y1.kind) := cell_of_cells hX3 0
          have f1 : w3.cell? ⟨w1.heap.size, 1, none⟩ = some (.int .i64 y1.level) := cell_of_cells hX3 1
          have f2 : w3.cell? ⟨w1.heap.size, 2, none⟩ = some (.slice s1.ea s1.el s1.ec) := cell_of_cells hX3 2
          have f3 : w3.cell? ⟨w1.heap.size, 3, none⟩ = some (.int .i64 y1.hb) := cell_of_cells hX3 3
          have f4 : w3.cell? ⟨w1.heap.size, 4, none⟩ = some (.string y1.hr) := cell_of_cells hX3 4
          have f5 : w3.cell? ⟨w1.heap.size, 5, none⟩ = some (.int .i64 y1.cr) := cell_of_cells hX3 5
          have f6 : w3.cell? ⟨w1.heap.size, 6, none⟩ = some (.int .i64 y1.cc) := cell_of_cells hX3 6
          have f7 : w3.cell? ⟨w1.heap.size, 7, none⟩ = some (.slice s1.ca s1.cl s1.cc) := cell_of_cells hX3 7
          have f8 : w3.cell? ⟨w1.heap.size, 8, none⟩ = some (.int .i64 y1.gf) := cell_of_cells hX3 8
          have f9 : w3.cell? ⟨w1.heap.size, 9, none⟩ = some (.slice s1.ga s1.gl s1.gc) := cell_of_cells hX3 9
          rw [HLev.out] at f1
          go_wp2_with fail
          go_ret
          exact ⟨rfl, HBR.out.trans (hb3.mono HBR.out.size)⟩
set_option maxRecDepth 100000 in
set_option maxHeartbeats 4000000 in
theorem asks_2 (t h : Nat) (l : List (Nat × Int)) (a : Option Addr) (len cap : Nat) (w : World) (ht : t ≤ botN 2) (hh : h < 2 ^ 64) (hS : SlC encIt 2 w.heap.size w a len cap l) (hA : AllOk l) (hg : GT w) :
    Calls Tryz.prog 7 #[.int .i64 2, .int .i64 t, .slice a len cap, .int .u64 h] w fun e w' => e = .returned (.bool true) ∧ Below w.heap.size w w' := by
  have hlc := hS.2.1
  have hk : (2 : Nat) = 1 ∨ (2 : Nat) = 2 ∨ (2 : Nat) = 3 := by omega
  have HF : Hid (∀ W, Calls Tryz.prog 14 #[.slice a len cap] W fun e w' => e = .returned (.slice a (min len 100) cap) ∧ W = w') := fun W => (fewItems_any a len cap W hlc).mono fun e w' h => ⟨h.1, h.2.symm⟩
  obtain ⟨A, hAt⟩ : ∃ A, l.take (min len 100) = A := ⟨_, rfl⟩
  obtain ⟨m, hm⟩ : ∃ m, min len 100 = m := ⟨_, rfl⟩
  have hmA : m = A.length := by rw [← hAt, List.length_take, ← hS.1.1, ← hm]; omega
  have hSA : SlE encIt 2 w.heap.size w a m A := by rw [← hAt, ← hm]; exact (hS.1.take _ (by omega))
  have hAA : AllOk A := by rw [← hAt]; exact fun i h => hA i (List.mem_of_mem_take h)
  have HO : Hid (∀ W, Below w.heap.size w W → Calls Tryz.prog 13 #[.int .i64 2, .int .i64 t, .slice a m cap] W fun e w' => ∃ x, e = .returned (.tuple #[x, .int .i64 0]) ∧ SkB w' x 2 (wkSum 2 t A).1 (wkSum 2 t A).2 ∧ Below W.heap.size W w') := fun W hB => by
    rw [← hAt, ← hm]
    exact of_few 2 t l a len cap W hk ht ((hS.below hB).mono hB.size) hA (hg.go hB)
  have HQ : Hid (∀ v W, SkB W v 2 (wkSum 2 t A).1 (wkSum 2 t A).2 → Calls Tryz.prog 33 #[v, .int .u64 h] W (AskPost ((wkSum 2 t A).2.ask h) W)) := fun v W hv => Ask_any (sum_ok 2 t hk ht A hAA) hh hv
  have HL : Hid (∀ v W, SkB W v 2 (wkSum 2 t A).1 (wkSum 2 t A).2 → ∃ (y : Sk) (s : SS), v = .agg #[.int .i64 y.kind, .int .i64 y.level, .slice s.ea s.el s.ec, .int .i64 y.hb, .string y.hr, .int .i64 y.cr, .int .i64 y.cc, .slice s.ca s.cl s.cc, .int .i64 y.gf, .slice s.ga s.gl s.gc] ∧ y.level = (wkSum 2 t A).1) := fun v W ⟨y, s, hy, hv, _⟩ => ⟨y, s, hv, by rw [hy]; exact (skOf_kind _ _ _).2⟩
  have hlen : A.length ≤ 100 := by omega
  rw [hm] at HF
  have HLaw := Lib.hid (asks_cnt t h ht A hAA)
  have HB : Hid (∀ w, Calls Tryz.prog 12 #[.int .i64 2] w fun e w' => e = .returned (.int .i64 (botN 2 : Nat)) ∧ w = w') := fun w => (Bottom_any 2 w).mono fun e w' ⟨h1, h2⟩ => ⟨by rw [h1]; rfl, h2⟩
  generalize wkSum 2 t A = S at HO HQ HL HLaw
  have HH := Lib.hid (shown10_any w)
  have g1 : ¬ ((botN 2 : Int) < (t : Int)) := by omega
  have HSA := Lib.hid hSA
  have HAA := Lib.hid hAA
  clear hlc hAt hm hk hS hA hg hSA hAA ht
  subst hmA
  go_enter Tryz.func7, Tryz.ntmps7
  go_wp2_with fail
  refine HH.out.mono ?_
  rintro e w0 ⟨rfl, hb0⟩
  have HB0 := Lib.hid hb0
  clear hb0
  go_wp2_with (go_at_call 14; refine (HF.out _).mono ?_; rintro e w' ⟨rfl, rfl⟩)
  go_wp2_with (go_at_call 12; refine (HB.out _).mono ?_; rintro e w' ⟨rfl, rfl⟩)
  refine (HO.out _ HB0.out).mono ?_
  rintro e w1 ⟨x1, rfl, hx1, hb1⟩
  obtain ⟨y1, s1, rfl, hlev⟩ := HL.out x1 w1 hx1
  have HLev := Lib.hid hlev
  clear hlev
  obtain ⟨W1, hW1, hX1, hB1, hs1⟩ := boxes1 w1 #[.int .i64 y1.kind, .int .i64 y1.level, .slice s1.ea s1.el s1.ec, .int .i64 y1.hb, .string y1.hr, .int .i64 y1.cr, .int .i64 y1.cc, .slice s1.ca s1.cl s1.cc, .int .i64 y1.gf, .slice s1.ga s1.gl s1.gc] 36
  have HK1 : Hid (SkB W1 (.agg #[.int .i64 y1.kind, .int .i64 y1.level, .slice s1.ea s1.el s1.ec, .int .i64 y1.hb, .string y1.hr, .int .i64 y1.cr, .int .i64 y1.cc, .slice s1.ca s1.cl s1.cc, .int .i64 y1.gf, .slice s1.ga s1.gl s1.gc]) 2 S.1 S.2) := SkB.go hx1 hB1
  have HB1 : Hid (Below w.heap.size w W1) := HB0.out.trans ((hb1.trans (hB1.mono hb1.size)).mono HB0.out.size)
  have HX1 := Lib.hid hX1
  clear hX1 hB1 hs1 hb1 hx1
  go_wp2_with fail
  go_loopw [12, 13, 14] (fun le di i wr => ∃ j : Nat, j ≤ A.length ∧ i = .int .i64 j ∧ le = .int .u64 (asSum 2 h 0 (A.take j)) ∧ di = .int .u64 (dif (A.take j) : Nat) ∧ Below W1.heap.size W1 wr) (fun _ _ i _ => A.length - (intOf i).toNat)
  case atStart => exact ⟨0, Nat.zero_le _, rfl, rfl, rfl, Below.refl _ _⟩
  case round =>
    obtain ⟨j, hj, rfl, rfl, rfl, hBr⟩ := hrel
    by_cases hlt : j < A.length
    · obtain ⟨x, hx⟩ : ∃ x, A[j]? = some x := ⟨_, List.getElem?_eq_getElem hlt⟩
      have hxo := HAA.out x (List.mem_of_getElem? hx)
      have hBw : Below w.heap.size w wr := HB1.out.trans (hBr.mono HB1.out.size)
      obtain ⟨gb, off, ha, i0, i1⟩ := it_cells HSA.out hBw hx
      subst ha
      have hsu : U64 (asSum 2 h 0 (A.take j)) := asSum_u64 2 h _ 0 (fun i hi => HAA.out i (List.mem_of_mem_take hi)) u64_0
      have hsn : asSum 2 h 0 (A.take (j + 1)) = if asIs 2 h x then satI (asSum 2 h 0 (A.take j)) x.2 else asSum 2 h 0 (A.take j) := by rw [take_snoc' hx]; exact asSum_snoc _ _ _ _ _
      have hdn := dif_step A j x hx
      have hd1 : dif (A.take j) ≤ 100 := by have := dif_le (A.take j); rw [List.length_take] at this; omega
      have HN := Lib.hid (And.intro hsn hdn)
      have hsw := sat_wrap _ _ hsu hxo.2
      have hmx : IntKind.u64.wrap (18446744073709551615 - asSum 2 h 0 (A.take j)) = 18446744073709551615 - asSum 2 h 0 (A.take j) := by unfold U64 at hsu; exact u64_small _ (by omega) (by omega)
      have hdw := dif_wrap (dif (A.take j)) (by omega)
      generalize asSum 2 h 0 (A.take j) = s0 at hsu hsn hsw hmx HN
      generalize dif (A.take j) = d0 at hdn hd1 hdw HN
      have HX := Lib.hid hx
      have HBR := Lib.hid hBr
      have HBW := Lib.hid hBw
      clear hsn hdn hx hBr hBw
      by_cases hq : x.1 = h
      · have hc : asIs 2 h x = true := by simp [asIs, hq]
        have hd : (((x.1 : Int) == (h : Int))) = true := by simp; omega
        go_wp2_with fail
        go_loopw [15, 16] (fun is q wr2 => ∃ n : Nat, n ≤ j ∧ q = .int .i64 n ∧ is = .bool (amid A n x.1) ∧ Below W1.heap.size W1 wr2) (fun _ q _ => j - (intOf q).toNat)
        case atStart => exact ⟨0, Nat.zero_le _, rfl, rfl, HBR.out⟩
        case round =>
          obtain ⟨n, hn, rfl, rfl, hB2⟩ := hrel
          by_cases hnj : n < j
          · obtain ⟨y, hy⟩ : ∃ y, A[n]? = some y := ⟨_, List.getElem?_eq_getElem (by omega)⟩
            have hB2w : Below w.heap.size w wr := HB1.out.trans (hB2.mono HB1.out.size)
            obtain ⟨gb2, off2, e2, y0, -⟩ := it_cells HSA.out hB2w hy
            cases e2
            obtain ⟨gb2, off2, e2, z0, -⟩ := it_cells HSA.out hB2w HX.out
            cases e2
            have hnext := amid_snoc A n x.1 y hy
            have HNX := Lib.hid hnext
            have HB2 := Lib.hid hB2
            have hnl : (n : Int) < A.length := by omega
            clear hy hB2w hnext hB2 i0 i1
            generalize amid A n x.1 = am at HNX ⊢
            cases am with
            | true =>
              go_wp2_with fail
              go_quiet (fail)
              go_wp2_with fail
              go_roundw
              case rel => exact ⟨n + 1, by omega, by simp, by rw [HNX.out]; rfl, below_drewN HB2.out _⟩
              case measure => simp [intOf]; omega
            | false =>
              go_wp2_with fail
              go_quiet (fail)
              go_wp2_with fail
              go_roundw
              case rel => exact ⟨n + 1, by omega, by simp, by rw [HNX.out, Bool.false_or, ← beq_cast y.1 x.1]; first | done | rw [hq], below_drewN HB2.out _⟩
              case measure => simp [intOf]; omega
          · obtain rfl : n = j := by omega
            cases ham : amid A n x.1 with
            | true =>
              go_wp2_with fail
              go_roundw
              case rel => exact ⟨n + 1, by omega, by simp, by rw [HN.out.1, if_pos hc], by rw [HN.out.2, if_pos ham]; rfl, hB2⟩
              case measure => simp [intOf]; omega
            | false =>
              go_wp2_with fail
              go_roundw
              case rel => exact ⟨n + 1, by omega, by simp, by rw [HN.out.1, if_pos hc], by rw [HN.out.2, if_neg (by rw [ham]; decide), Int.natCast_add]; rfl, hB2⟩
              case measure => simp [intOf]; omega
      · have hc : ¬ asIs 2 h x = true := by simp [asIs]; omega
        have hd : (((x.1 : Int) == (h : Int))) = false := by simp; omega
        go_wp2_with fail
        go_loopw [15, 16] (fun is q wr2 => ∃ n : Nat, n ≤ j ∧ q = .int .i64 n ∧ is = .bool (amid A n x.1) ∧ Below W1.heap.size W1 wr2) (fun _ q _ => j - (intOf q).toNat)
        case atStart => exact ⟨0, Nat.zero_le _, rfl, rfl, HBR.out⟩
        case round =>
          obtain ⟨n, hn, rfl, rfl, hB2⟩ := hrel
          by_cases hnj : n < j
          · obtain ⟨y, hy⟩ : ∃ y, A[n]? = some y := ⟨_, List.getElem?_eq_getElem (by omega)⟩
            have hB2w : Below w.heap.size w wr := HB1.out.trans (hB2.mono HB1.out.size)
            obtain ⟨gb2, off2, e2, y0, -⟩ := it_cells HSA.out hB2w hy
            cases e2
            obtain ⟨gb2, off2, e2, z0, -⟩ := it_cells HSA.out hB2w HX.out
            cases e2
            have hnext := amid_snoc A n x.1 y hy
            have HNX := Lib.hid hnext
            have HB2 := Lib.hid hB2
            have hnl : (n : Int) < A.length := by omega
            clear hy hB2w hnext hB2 i0 i1
            generalize amid A n x.1 = am at HNX ⊢
            cases am with
            | true =>
              go_wp2_with fail
              go_quiet (fail)
              go_wp2_with fail
              go_roundw
              case rel => exact ⟨n + 1, by omega, by simp, by rw [HNX.out]; rfl, below_drewN HB2.out _⟩
              case measure => simp [intOf]; omega
            | false =>
              go_wp2_with fail
              go_quiet (fail)
              go_wp2_with fail
              go_roundw
              case rel => exact ⟨n + 1, by omega, by simp, by rw [HNX.out, Bool.false_or, ← beq_cast y.1 x.1]; first | done | rw [hq], below_drewN HB2.out _⟩
              case measure => simp [intOf]; omega
          · obtain rfl : n = j := by omega
            cases ham : amid A n x.1 with
            | true =>
              go_wp2_with fail
              go_roundw
              case rel => exact ⟨n + 1, by omega, by simp, by rw [HN.out.1, if_neg hc], by rw [HN.out.2, if_pos ham]; rfl, hB2⟩
              case measure => simp [intOf]; omega
            | false =>
              go_wp2_with fail
              go_roundw
              case rel => exact ⟨n + 1, by omega, by simp, by rw [HN.out.1, if_neg hc], by rw [HN.out.2, if_neg (by rw [ham]; decide), Int.natCast_add]; rfl, hB2⟩
              case measure => simp [intOf]; omega
    · obtain rfl : j = A.length := by omega
      rw [List.take_length]
      have hX := known hBr (Nat.le_refl _) HX1.out
      have hQ := Lib.hid (HQ.out _ wr (HK1.out.go hBr))
      have c0 : wr.cell? ⟨w1.heap.size, 0, none⟩ = some (.int .i64 y1.kind) := cell_of_cells hX 0
      have c1 : wr.cell? ⟨w1.heap.size, 1, none⟩ = some (.int .i64 y1.level) := cell_of_cells hX 1
      have c2 : wr.cell? ⟨w1.heap.size, 2, none⟩ = some (.slice s1.ea s1.el s1.ec) := cell_of_cells hX 2
      have c3 : wr.cell? ⟨w1.heap.size, 3, none⟩ = some (.int .i64 y1.hb) := cell_of_cells hX 3
      have c4 : wr.cell? ⟨w1.heap.size, 4, none⟩ = some (.string y1.hr) := cell_of_cells hX 4
      have c5 : wr.cell? ⟨w1.heap.size, 5, none⟩ = some (.int .i64 y1.cr) := cell_of_cells hX 5
      have c6 : wr.cell? ⟨w1.heap.size, 6, none⟩ = some (.int .i64 y1.cc) := cell_of_cells hX 6
      have c7 : wr.cell? ⟨w1.heap.size, 7, none⟩ = some (.slice s1.ca s1.cl s1.cc) := cell_of_cells hX 7
      have c8 : wr.cell? ⟨w1.heap.size, 8, none⟩ = some (.int .i64 y1.gf) := cell_of_cells hX 8
      have c9 : wr.cell? ⟨w1.heap.size, 9, none⟩ = some (.slice s1.ga s1.gl s1.gc) := cell_of_cells hX 9
      have HBR := Lib.hid (HB1.out.trans (hBr.mono HB1.out.size))
      have HBR2 := Lib.hid hBr
      have HL0 := HLaw.out
      generalize asSum 2 h 0 A = s0 at HL0 ⊢
      generalize S.2.ask h = n at HL0 hQ
      clear hX hBr
      go_wp2_with fail
      refine hQ.out.mono ?_
      rintro e w3 ⟨rfl, hb3⟩
      go_wp2_with fail
      go_ret
      exact ⟨rfl, HBR.out.trans (hb3.mono HBR.out.size)⟩
set_option maxRecDepth 100000 in
set_option maxHeartbeats 4000000 in
theorem asks_3 (t h : Nat) (l : List (Nat × Int)) (a : Option Addr) (len cap : Nat) (w : World) (ht : t ≤ botN 3) (hh : h < 2 ^ 64) (hS : SlC encIt 2 w.heap.size w a len cap l) (hA : AllOk l) (hg : GT w) :
    Calls Tryz.prog 7 #[.int .i64 3, .int .i64 t, .slice a len cap, .int .u64 h] w fun e w' => e = .returned (.bool true) ∧ Below w.heap.size w w' := by
  have hlc := hS.2.1
  have hk : (3 : Nat) = 1 ∨ (3 : Nat) = 2 ∨ (3 : Nat) = 3 := by omega
  have HF : Hid (∀ W, Calls Tryz.prog 14 #[.slice a len cap] W fun e w' => e = .returned (.slice a (min len 100) cap) ∧ W = w') := fun W => (fewItems_any a len cap W hlc).mono fun e w' h => ⟨h.1, h.2.symm⟩
  obtain ⟨A, hAt⟩ : ∃ A, l.take (min len 100) = A := ⟨_, rfl⟩
  obtain ⟨m, hm⟩ : ∃ m, min len 100 = m := ⟨_, rfl⟩
  have hmA : m = A.length := by rw [← hAt, List.length_take, ← hS.1.1, ← hm]; omega
  have hSA : SlE encIt 2 w.heap.size w a m A := by rw [← hAt, ← hm]; exact (hS.1.take _ (by omega))
  have hAA : AllOk A := by rw [← hAt]; exact fun i h => hA i (List.mem_of_mem_take h)
  have HO : Hid (∀ W, Below w.heap.size w W → Calls Tryz.prog 13 #[.int .i64 3, .int .i64 t, .slice a m cap] W fun e w' => ∃ x, e = .returned (.tuple #[x, .int .i64 0]) ∧ SkB w' x 3 (wkSum 3 t A).1 (wkSum 3 t A).2 ∧ Below W.heap.size W w') := fun W hB => by
    rw [← hAt, ← hm]
    exact of_few 3 t l a len cap W hk ht ((hS.below hB).mono hB.size) hA (hg.go hB)
  have HQ : Hid (∀ v W, SkB W v 3 (wkSum 3 t A).1 (wkSum 3 t A).2 → Calls Tryz.prog 33 #[v, .int .u64 h] W (AskPost ((wkSum 3 t A).2.ask h) W)) := fun v W hv => Ask_any (sum_ok 3 t hk ht A hAA) hh hv
  have HL : Hid (∀ v W, SkB W v 3 (wkSum 3 t A).1 (wkSum 3 t A).2 → ∃ (y : Sk) (s : SS), v = .agg #[.int .i64 y.kind, .int .i64 y.level, .slice s.ea s.el s.ec, .int .i64 y.hb, .string y.hr, .int .i64 y.cr, .int .i64 y.cc, .slice s.ca s.cl s.cc, .int .i64 y.gf, .slice s.ga s.gl s.gc] ∧ y.level = (wkSum 3 t A).1) := fun v W ⟨y, s, hy, hv, _⟩ => ⟨y, s, hv, by rw [hy]; exact (skOf_kind _ _ _).2⟩
  have hlen : A.length ≤ 100 := by omega
  rw [hm] at HF
  have HLaw := Lib.hid (asks_bkt t h ht hh A hAA)
  have HB : Hid (∀ w, Calls Tryz.prog 12 #[.int .i64 3] w fun e w' => e = .returned (.int .i64 (botN 3 : Nat)) ∧ w = w') := fun w => (Bottom_any 3 w).mono fun e w' ⟨h1, h2⟩ => ⟨by rw [h1]; rfl, h2⟩
  generalize wkSum 3 t A = S at HO HQ HL HLaw
  have HH := Lib.hid (shown10_any w)
  have g1 : ¬ ((botN 3 : Int) < (t : Int)) := by omega
  have HSA := Lib.hid hSA
  have HAA := Lib.hid hAA
  clear hlc hAt hm hk hS hA hg hSA hAA ht
  subst hmA
  go_enter Tryz.func7, Tryz.ntmps7
  go_wp2_with fail
  refine HH.out.mono ?_
  rintro e w0 ⟨rfl, hb0⟩
  have HB0 := Lib.hid hb0
  clear hb0
  go_wp2_with (go_at_call 14; refine (HF.out _).mono ?_; rintro e w' ⟨rfl, rfl⟩)
  go_wp2_with (go_at_call 12; refine (HB.out _).mono ?_; rintro e w' ⟨rfl, rfl⟩)
  refine (HO.out _ HB0.out).mono ?_
  rintro e w1 ⟨x1, rfl, hx1, hb1⟩
  obtain ⟨y1, s1, rfl, hlev⟩ := HL.out x1 w1 hx1
  have HLev := Lib.hid hlev
  clear hlev
  obtain ⟨W1, hW1, hX1, hB1, hs1⟩ := boxes1 w1 #[.int .i64 y1.kind, .int .i64 y1.level, .slice s1.ea s1.el s1.ec, .int .i64 y1.hb, .string y1.hr, .int .i64 y1.cr, .int .i64 y1.cc, .slice s1.ca s1.cl s1.cc, .int .i64 y1.gf, .slice s1.ga s1.gl s1.gc] 36
  have HK1 : Hid (SkB W1 (.agg #[.int .i64 y1.kind, .int .i64 y1.level, .slice s1.ea s1.el s1.ec, .int .i64 y1.hb, .string y1.hr, .int .i64 y1.cr, .int .i64 y1.cc, .slice s1.ca s1.cl s1.cc, .int .i64 y1.gf, .slice s1.ga s1.gl s1.gc]) 3 S.1 S.2) := SkB.go hx1 hB1
  have HB1 : Hid (Below w.heap.size w W1) := HB0.out.trans ((hb1.trans (hB1.mono hb1.size)).mono HB0.out.size)
  have HX1 := Lib.hid hX1
  clear hX1 hB1 hs1 hb1 hx1
  go_wp2_with fail
  go_loopw [12, 13, 14] (fun le di i wr => ∃ j : Nat, j ≤ A.length ∧ i = .int .i64 j ∧ le = .int .u64 (asSum 3 h 0 (A.take j)) ∧ di = .int .u64 (dif (A.take j) : Nat) ∧ Below W1.heap.size W1 wr) (fun _ _ i _ => A.length - (intOf i).toNat)
  case atStart => exact ⟨0, Nat.zero_le _, rfl, rfl, rfl, Below.refl _ _⟩
  case round =>
    obtain ⟨j, hj, rfl, rfl, rfl, hBr⟩ := hrel
    by_cases hlt : j < A.length
    · obtain ⟨x, hx⟩ : ∃ x, A[j]? = some x := ⟨_, List.getElem?_eq_getElem hlt⟩
      have hxo := HAA.out x (List.mem_of_getElem? hx)
      have hBw : Below w.heap.size w wr := HB1.out.trans (hBr.mono HB1.out.size)
      obtain ⟨gb, off, ha, i0, i1⟩ := it_cells HSA.out hBw hx
      subst ha
      have hsu : U64 (asSum 3 h 0 (A.take j)) := asSum_u64 3 h _ 0 (fun i hi => HAA.out i (List.mem_of_mem_take hi)) u64_0
      have hsn : asSum 3 h 0 (A.take (j + 1)) = if asIs 3 h x then satI (asSum 3 h 0 (A.take j)) x.2 else asSum 3 h 0 (A.take j) := by rw [take_snoc' hx]; exact asSum_snoc _ _ _ _ _
      have hdn := dif_step A j x hx
      have hd1 : dif (A.take j) ≤ 100 := by have := dif_le (A.take j); rw [List.length_take] at this; omega
      have HN := Lib.hid (And.intro hsn hdn)
      have hsw := sat_wrap _ _ hsu hxo.2
      have hmx : IntKind.u64.wrap (18446744073709551615 - asSum 3 h 0 (A.take j)) = 18446744073709551615 - asSum 3 h 0 (A.take j) := by unfold U64 at hsu; exact u64_small _ (by omega) (by omega)
      have hdw := dif_wrap (dif (A.take j)) (by omega)
      generalize asSum 3 h 0 (A.take j) = s0 at hsu hsn hsw hmx HN
      generalize dif (A.take j) = d0 at hdn hd1 hdw HN
      have HX := Lib.hid hx
      have HBR := Lib.hid hBr
      have HBW := Lib.hid hBw
      clear hsn hdn hx hBr hBw
      by_cases hq : x.1 ≤ h
      · have hc : asIs 3 h x = true := by simp [asIs, hq]
        have hd : (decide ((x.1 : Int) ≤ (h : Int))) = true := by simp; omega
        go_wp2_with fail
        go_loopw [15, 16] (fun is q wr2 => ∃ n : Nat, n ≤ j ∧ q = .int .i64 n ∧ is = .bool (amid A n x.1) ∧ Below W1.heap.size W1 wr2) (fun _ q _ => j - (intOf q).toNat)
        case atStart => exact ⟨0, Nat.zero_le _, rfl, rfl, HBR.out⟩
        case round =>
          obtain ⟨n, hn, rfl, rfl, hB2⟩ := hrel
          by_cases hnj : n < j
          · obtain ⟨y, hy⟩ : ∃ y, A[n]? = some y := ⟨_, List.getElem?_eq_getElem (by omega)⟩
            have hB2w : Below w.heap.size w wr := HB1.out.trans (hB2.mono HB1.out.size)
            obtain ⟨gb2, off2, e2, y0, -⟩ := it_cells HSA.out hB2w hy
            cases e2
            obtain ⟨gb2, off2, e2, z0, -⟩ := it_cells HSA.out hB2w HX.out
            cases e2
            have hnext := amid_snoc A n x.1 y hy
            have HNX := Lib.hid hnext
            have HB2 := Lib.hid hB2
            have hnl : (n : Int) < A.length := by omega
            clear hy hB2w hnext hB2 i0 i1
            generalize amid A n x.1 = am at HNX ⊢
            cases am with
            | true =>
              go_wp2_with fail
              go_quiet (fail)
              go_wp2_with fail
              go_roundw
              case rel => exact ⟨n + 1, by omega, by simp, by rw [HNX.out]; rfl, below_drewN HB2.out _⟩
              case measure => simp [intOf]; omega
            | false =>
              go_wp2_with fail
              go_quiet (fail)
              go_wp2_with fail
              go_roundw
              case rel => exact ⟨n + 1, by omega, by simp, by rw [HNX.out, Bool.false_or, ← beq_cast y.1 x.1]; first | done | rw [hq], below_drewN HB2.out _⟩
              case measure => simp [intOf]; omega
          · obtain rfl : n = j := by omega
            cases ham : amid A n x.1 with
            | true =>
              go_wp2_with fail
              go_roundw
              case rel => exact ⟨n + 1, by omega, by simp, by rw [HN.out.1, if_pos hc], by rw [HN.out.2, if_pos ham]; rfl, hB2⟩
              case measure => simp [intOf]; omega
            | false =>
              go_wp2_with fail
              go_roundw
              case rel => exact ⟨n + 1, by omega, by simp, by rw [HN.out.1, if_pos hc], by rw [HN.out.2, if_neg (by rw [ham]; decide), Int.natCast_add]; rfl, hB2⟩
              case measure => simp [intOf]; omega
      · have hc : ¬ asIs 3 h x = true := by simp [asIs]; omega
        have hd : (decide ((x.1 : Int) ≤ (h : Int))) = false := by simp; omega
        go_wp2_with fail
        go_loopw [15, 16] (fun is q wr2 => ∃ n : Nat, n ≤ j ∧ q = .int .i64 n ∧ is = .bool (amid A n x.1) ∧ Below W1.heap.size W1 wr2) (fun _ q _ => j - (intOf q).toNat)
        case atStart => exact ⟨0, Nat.zero_le _, rfl, rfl, HBR.out⟩
        case round =>
          obtain ⟨n, hn, rfl, rfl, hB2⟩ := hrel
          by_cases hnj : n < j
          · obtain ⟨y, hy⟩ : ∃ y, A[n]? = some y := ⟨_, List.getElem?_eq_getElem (by omega)⟩
            have hB2w : Below w.heap.size w wr := HB1.out.trans (hB2.mono HB1.out.size)
            obtain ⟨gb2, off2, e2, y0, -⟩ := it_cells HSA.out hB2w hy
            cases e2
            obtain ⟨gb2, off2, e2, z0, -⟩ := it_cells HSA.out hB2w HX.out
            cases e2
            have hnext := amid_snoc A n x.1 y hy
            have HNX := Lib.hid hnext
            have HB2 := Lib.hid hB2
            have hnl : (n : Int) < A.length := by omega
            clear hy hB2w hnext hB2 i0 i1
            generalize amid A n x.1 = am at HNX ⊢
            cases am with
            | true =>
              go_wp2_with fail
              go_quiet (fail)
              go_wp2_with fail
              go_roundw
              case rel => exact ⟨n + 1, by omega, by simp, by rw [HNX.out]; rfl, below_drewN HB2.out _⟩
              case measure => simp [intOf]; omega
            | false =>
              go_wp2_with fail
              go_quiet (fail)
              go_wp2_with fail
              go_roundw
              case rel => exact ⟨n + 1, by omega, by simp, by rw [HNX.out, Bool.false_or, ← beq_cast y.1 x.1]; first | done | rw [hq], below_drewN HB2.out _⟩
              case measure => simp [intOf]; omega
          · obtain rfl : n = j := by omega
            cases ham : amid A n x.1 with
            | true =>
              go_wp2_with fail
              go_roundw
              case rel => exact ⟨n + 1, by omega, by simp, by rw [HN.out.1, if_neg hc], by rw [HN.out.2, if_pos ham]; rfl, hB2⟩
              case measure => simp [intOf]; omega
            | false =>
              go_wp2_with fail
              go_roundw
              case rel => exact ⟨n + 1, by omega, by simp, by rw [HN.out.1, if_neg hc], by rw [HN.out.2, if_neg (by rw [ham]; decide), Int.natCast_add]; rfl, hB2⟩
              case measure => simp [intOf]; omega
    · obtain rfl : j = A.length := by omega
      rw [List.take_length]
      have hX := known hBr (Nat.le_refl _) HX1.out
      have hQ := Lib.hid (HQ.out _ wr (HK1.out.go hBr))
      have c0 : wr.cell? ⟨w1.heap.size, 0, none⟩ = some (.int .i64 y1.kind) := cell_of_cells hX 0
      have c1 : wr.cell? ⟨w1.heap.size, 1, none⟩ = some (.int .i64 y1.level) := cell_of_cells hX 1
      have c2 : wr.cell? ⟨w1.heap.size, 2, none⟩ = some (.slice s1.ea s1.el s1.ec) := cell_of_cells hX 2
      have c3 : wr.cell? ⟨w1.heap.size, 3, none⟩ = some (.int .i64 y1.hb) := cell_of_cells hX 3
      have c4 : wr.cell? ⟨w1.heap.size, 4, none⟩ = some (.string y1.hr) := cell_of_cells hX 4
      have c5 : wr.cell? ⟨w1.heap.size, 5, none⟩ = some (.int .i64 y1.cr) := cell_of_cells hX 5
      have c6 : wr.cell? ⟨w1.heap.size, 6, none⟩ = some (.int .i64 y1.cc) := cell_of_cells hX 6
      have c7 : wr.cell? ⟨w1.heap.size, 7, none⟩ = some (.slice s1.ca s1.cl s1.cc) := cell_of_cells hX 7
      have c8 : wr.cell? ⟨w1.heap.size, 8, none⟩ = some (.int .i64 y1.gf) := cell_of_cells hX 8
      have c9 : wr.cell? ⟨w1.heap.size, 9, none⟩ = some (.slice s1.ga s1.gl s1.gc) := cell_of_cells hX 9
      have HBR := Lib.hid (HB1.out.trans (hBr.mono HB1.out.size))
      have HBR2 := Lib.hid hBr
      have HL0 := HLaw.out
      generalize asSum 3 h 0 A = s0 at HL0 ⊢
      generalize S.2.ask h = n at HL0 hQ
      clear hX hBr
      go_wp2_with fail
      refine hQ.out.mono ?_
      rintro e w3 ⟨rfl, hb3⟩
      go_wp2_with fail
      go_ret
      exact ⟨rfl, HBR.out.trans (hb3.mono HBR.out.size)⟩
set_option maxRecDepth 100000 in
set_option maxHeartbeats 2000000 in
theorem ladderAsks_any (n0 n1 : Int) (l : List (Nat × Int)) (a : Option Addr) (len cap : Nat) (n3 : Int) (w : World) (_ : I64 n0) (_ : I64 n1) (hS : SlC encIt 2 w.heap.size w a len cap l) (hA : ∀ i ∈ l, Item.ok i) (hn : U64 n3) (hg : GT w) :
    Calls Tryz.prog 7 #[.int .i64 n0, .int .i64 n1, .slice a len cap, .int .u64 n3] w fun e w' => e = .returned (.bool true) ∧ Below w.heap.size w w' := by
  obtain ⟨h, rfl⟩ : ∃ h : Nat, n3 = h := ⟨n3.toNat, by unfold U64 at hn; omega⟩
  have hh : h < 2 ^ 64 := by unfold U64 at hn; omega
  by_cases hbad : n1 < 0 ∨ bottomB n0 < n1
  · have HB := Lib.hid (fun w => Bottom_any n0 w)
    have HF : Hid (∀ W, Calls Tryz.prog 14 #[.slice a len cap] W fun e w' => e = .returned (.slice a (min len 100) cap) ∧ W = w') := fun W => (fewItems_any a len cap W hS.2.1).mono fun e w' h => ⟨h.1, h.2.symm⟩
    have HH := Lib.hid (shown10_any w)
    generalize bottomB n0 = bt at hbad HB
    clear hS hA hg hn hh
    rcases (by omega : n1 < 0 ∨ (0 ≤ n1 ∧ bt < n1)) with h | ⟨h, h'⟩
    all_goals
      clear hbad
      go_enter Tryz.func7, Tryz.ntmps7
      go_wp2_with fail
      refine HH.out.mono ?_
      rintro e w0 ⟨rfl, hb0⟩
      go_wp2_with (go_at_call 14; refine (HF.out _).mono ?_; rintro e w' ⟨rfl, rfl⟩)
      go_wp2_with (go_at_call 12; refine (HB.out _).mono ?_; rintro e w' ⟨rfl, rfl⟩)
      go_ret
      exact ⟨rfl, hb0⟩
  · obtain ⟨k, rfl, hk, hbk⟩ := bot_kind (n := n0) (by omega)
    rw [hbk] at hbad
    obtain ⟨t, rfl⟩ : ∃ t : Nat, n1 = t := ⟨n1.toNat, by omega⟩
    rcases hk with rfl | rfl | rfl
    · exact asks_1 t h l a len cap w (by omega) hh hS hA hg
    · exact asks_2 t h l a len cap w (by omega) hh hS hA hg
    · exact asks_3 t h l a len cap w (by omega) hh hS hA hg
end Go.Proofs.YtmkefodaibmkhaaGreatDoor

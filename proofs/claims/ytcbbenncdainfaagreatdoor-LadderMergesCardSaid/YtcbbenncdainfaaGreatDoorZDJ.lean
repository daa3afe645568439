/- The reference of layer 9: put. Printed by gen_df.py. The reference of layer 9: Add, Merge, Lower, Rank, at bins that are right. Printed by gen_dj.py. -/
import Derived.Test.YtcbbenncdainfaaGreatDoorZDE
import Derived.Test.YtcbbenncdainfaaGreatDoorZRP
namespace Go.Proofs.YtcbbenncdainfaaGreatDoor
open Go Go.RowKit Go.Shelf
theorem take_bin (a : Option Addr) (len cap m : Nat) (w : World) (h : m ≤ cap) : (Instr.slice 29 (.slice a len cap) none (some (.int .i64 (m : Int))) none).run Tryz.prog w = .ok (.slice a m cap) w := by
 have hz := dropA_zero a cap 2
 unfold dropA at hz
 have hs : (sizeOf 123).run Tryz.prog w = .ok 2 w := by kernel_rfl
 have he : Tryz.prog.elem 29 = 123 := by kernel_rfl
 rw [run_slice_h (t := 29) (a := a) (len := len) (cap := cap) (w := w) (ht := by rw [he]; exact und_bin) (kh := .i64) (h := (m : Int)) (by omega) (by omega), he, hs]
 simp only [Result.andThen, sliced, Int.toNat_natCast, Nat.sub_zero, hz]
theorem from_bin (a : Option Addr) (len cap k : Nat) (w : World) (h : k ≤ len) : (Instr.slice 29 (.slice a len cap) (some (.int .i64 (k : Int))) none none).run Tryz.prog w = .ok (.slice (dropA a cap k 2) (len - k) (cap - k)) w := by
 have hs : (sizeOf 123).run Tryz.prog w = .ok 2 w := by kernel_rfl
 have he : Tryz.prog.elem 29 = 123 := by kernel_rfl
 rw [run_slice_l (t := 29) (a := a) (len := len) (cap := cap) (w := w) (ht := by rw [he]; exact und_bin) (kl := .i64) (l := (k : Int)) (by omega) (by omega), he, hs]
 simp only [Result.andThen, sliced, Int.toNat_natCast, dropA]
def BinsPost (m : List (Int × Int)) (w : World) (e : Ending) (w' : World) : Prop := ∃ a cap, e = .returned (.slice a m.length cap) ∧ SlC encB 2 w'.heap.size w' a m.length cap m ∧ Below w.heap.size w w'
theorem bins_own {w w' : World} {base n : Nat} {v : Value} {m : List (Int × Int)} (h : w'.ownsRow base 123 2 v n (m.flatMap encB)) (hn : n = m.length) (hB : Below w.heap.size w w') : BinsPost m w (.returned v) w' := by
 subst hn
 obtain ⟨a', cap', hv, hS, -⟩ := slC_of_owns (enc := encB) (fun _ => rfl) h
 exact ⟨a', cap', by rw [hv], hS, hB⟩
attribute [-go_sem] Builtin.append_ run_slice_any run_slice_h run_slice_l
set_option maxRecDepth 100000 in
set_option maxHeartbeats 4000000 in
theorem ref09_put_any (p n : Int) (l : List (Int × Int)) (a : Option Addr) (len cap : Nat) (w : World) (hL : SlC encB 2 w.heap.size w a len cap l) (hlen : len ≤ 2000) (hn : U64 n) (hU : BinsU l) :
  Calls Tryz.prog 73 #[.slice a len cap, .int .i64 p, .int .u64 n] w (BinsPost (refPut l p n) w) := by
 have hll := hL.1.1
 have HL := Lib.hid hL
 have HLL := Lib.hid hll
 have HU := Lib.hid hU
 have hcap : len ≤ cap := hL.2.1
 have hn0 := hn.1
 have hn1 := hn.2
 clear hL hll hU
 obtain ⟨R, hR⟩ : ∃ R, binPut l p n = R := ⟨_, rfl⟩
 have HR := Lib.hid hR
 obtain ⟨R2, hR2⟩ : ∃ R, refPut l p n = R := ⟨_, rfl⟩
 rw [hR2]
 have HR2 : Hid ((n = 0 → R2 = l) ∧ (¬ n = 0 → R2 = R)) := ⟨fun h => by rw [← hR2]; exact if_pos h, fun h => by rw [← hR2, ← hR]; exact if_neg h⟩
 clear hR hR2
 go_enter Tryz.func73, Tryz.ntmps73
 go_wp2_with fail
 go_loopw [7] (fun i wr => ∃ k : Nat, i = .int .i64 k ∧ k ≤ len ∧ Hid (R = l.take k ++ binPut (l.drop k) p n) ∧ Below w.heap.size w wr) (fun i _ => len - (intOf i).toNat)
 case atStart => exact ⟨0, rfl, Nat.zero_le _, by rw [Hid, List.take_zero, List.drop_zero, List.nil_append, HR.out], Below.refl _ _⟩
 case round =>
  obtain ⟨k, rfl, hk, HK, hB⟩ := hrel
  have HB := Lib.hid hB
  have HLr := Lib.hid (HL.out.go hB)
  have htk := fun W => take_bin a len cap k W (by omega)
  have hfr := fun W => from_bin a len cap k W hk
  have i0 : (0 : Int) ≤ (k : Int) := Int.natCast_nonneg _
  have HLn := Lib.hid hlen
  by_cases hlt : k < len
  ·obtain ⟨x, hx⟩ : ∃ x, l[k]? = some x := ⟨_, List.getElem?_eq_getElem (by rw [← HLL.out]; exact hlt)⟩
   obtain ⟨b, off, rfl, hbb, hc⟩ := HLr.out.1.2 k x hx
   have c0 : wr.cell? ⟨b, off + k * 2, none⟩ = some (.int .i64 x.1) := hc 0 (by omega)
   have c1 : wr.cell? ⟨b, off + k * 2 + 1, none⟩ = some (.int .u64 x.2) := hc 1 (by omega)
   have HBB := Lib.hid hbb
   have i1 : (k : Int) < (len : Int) := by omega
   have HD := Lib.hid (drop_cons' hx)
   have HX := Lib.hid hx
   obtain ⟨x1, x2⟩ := x
   dsimp only at c0 c1
   clear hc hx hB hbb
   by_cases hxn : x1 < p
   ·have HS : Hid (R = l.take (k + 1) ++ binPut (l.drop (k + 1)) p n) := by
     rw [Hid, HK.out, HD.out, binPut_less hxn, take_snoc' HX.out, List.append_assoc]
     rfl
    go_wp2_with fail
    go_roundw
    case rel => exact ⟨k + 1, by go_num, by omega, HS.out, HB.out⟩
    case measure => simp [intOf]; omega
   ·by_cases hn0' : n = 0
    ·have HE : Hid (R2 = l) := HR2.out.1 hn0'
     subst hn0'
     go_wp2_with fail
     go_ret
     rw [HE.out]
     unfold BinsPost
     rw [← HLL.out]
     exact ⟨_, cap, rfl, HLr.out, HB.out⟩
    ·have t0 : (n == 0) = false := by rw [beq_eq_false_iff_ne]; exact hn0'
     have HE2 : Hid (R2 = R) := HR2.out.2 hn0'
     obtain ⟨v1, w1, hap1, hO1, hB1, hz1, hk1, -⟩ := append_elems Tryz.prog (cap := cap) 29 und_bin info_bin rfl (by decide) (World.ownsRow_nil wr wr.heap.size 123 2) (Below.refl wr.heap.size wr) (Nat.le_refl _) (Nat.le_refl _) (fun _ => rfl) (HLr.out.take k hk).1 one_bin (by omega) (by omega) (by decide)
     rw [List.nil_append, Nat.zero_add] at hO1
     by_cases hxe : x1 = p
     ·have u2 : U64 x2 := HU.out (x1, x2) (List.mem_of_getElem? HX.out)
      have HE : Hid (R2 = l.take k ++ (p, satI x2 n) :: l.drop (k + 1)) := by rw [Hid, HE2.out, HK.out, HD.out, hxe, binPut_eq]
      have HP : Hid (∀ W, Calls Tryz.prog 72 #[.int .u64 x2, .int .u64 n] W fun e w' => e = .returned (.int .u64 (satI x2 n)) ∧ w' = W) := fun W => ref08_Plus_any x2 n W u2 ⟨hn0, hn1⟩
      have hfr1 : ∀ W, (Instr.slice 29 (.slice (some ⟨b, off, none⟩) len cap) (some (.int .i64 (IntKind.i64.wrap ((k : Int) + 1)))) none none).run Tryz.prog W = .ok (.slice (dropA (some ⟨b, off, none⟩) cap (k + 1) 2) (len - (k + 1)) (cap - (k + 1))) W := fun W => by rw [show IntKind.i64.wrap ((k : Int) + 1) = ((k + 1 : Nat) : Int) from by rw [IntWalk.i64_in _ (by omega)]; rfl]; exact from_bin (some ⟨b, off, none⟩) len cap (k + 1) W (by omega)
      have c1' : w1.cell? ⟨b, off + k * 2 + 1, none⟩ = some (.int .u64 x2) := (hB1.cell (p := ⟨b, off + k * 2 + 1, none⟩) HBB.out).trans c1
      have c0' : w1.cell? ⟨b, off + k * 2, none⟩ = some (.int .i64 x1) := (hB1.cell (p := ⟨b, off + k * 2, none⟩) HBB.out).trans c0
      generalize satI x2 n = s at HE HP
      obtain ⟨g2, c2, w2, hap2, hO2, hB2, hz2, -, -⟩ := append_one Tryz.prog 29 und_bin info_bin rfl (by decide) (W := w1.drew) (ownsN_go hO1 (Below.refl _ _).drew) hB1.drew (Nat.le_refl _) hz1 (encB (p, s)) rfl (one_bin _) (by omega) (by decide)
      have hap2 : (Builtin.append_ #[29, 29] 29 #[v1, .slice (some ⟨w1.heap.size, 0, none⟩) 1 1]).run Tryz.prog (w1.alloc (.cells #[.int .i64 p, .int .u64 s] 123)).drew = .ok (.slice (some ⟨g2, 0, none⟩) (k + 1) c2) w2 := hap2
      obtain ⟨v3, w3, hap3, hO3, hB3, hz3, -, -⟩ := append_elems Tryz.prog (cap := cap - (k + 1)) 29 und_bin info_bin rfl (by decide) hO2 hB2 (Nat.le_refl _) (Nat.le_of_lt (Nat.lt_of_le_of_lt hz1 hz2)) (fun _ => rfl) (((HLr.out.below hB2).mono hB2.size).drop (k + 1) hlt).1 one_bin (by omega) (by omega) (by decide)
      have HO3 : Hid (w3.ownsRow wr.heap.size 123 2 v3 (k + 1 + (len - (k + 1))) (((l.take k).flatMap encB ++ encB (p, s)) ++ (l.drop (k + 1)).flatMap encB)) := hO3
      have HB3 := Lib.hid hB3
      have hxe' : (x1 == p) = true := by rw [beq_iff_eq]; exact hxe
      subst hxe
      clear hO1 hO2 hO3 hB1 hB2 hB3 hk1
      go_wp2_with fail
      refine wp_region_any (by kernel_rfl) ?_
      change wpAny _ _ _ _ _ _ _ (World.drew _)
      refine tk 0 (v := ?_) rfl ?_ ?_
      rotate_left
      ·intro w; go_simp; with_reducible rfl
      refine tk 1 (v := ?_) rfl ?_ ?_
      rotate_left
      ·intro w; go_simp; with_reducible rfl
      refine tk 2 (v := ?_) rfl ?_ ?_
      rotate_left
      ·intro w; go_simp; with_reducible rfl
      refine tk 3 (v := ?_) rfl ?_ ?_
      rotate_left
      ·intro w; go_simp; with_reducible rfl
      refine tk 4 (v := ?_) rfl ?_ ?_
      rotate_left
      ·intro w; go_simp; with_reducible rfl
      refine tk 5 (v := ?_) rfl ?_ ?_
      rotate_left
      ·intro w; go_simp; with_reducible rfl
      refine tk 7 (v := ?_) rfl ?_ ?_
      rotate_left
      ·intro w; go_simp; with_reducible rfl
      refine tk 12 (v := ?_) rfl ?_ ?_
      rotate_left
      ·intro w; go_simp; with_reducible rfl
      refine tk 13 (v := ?_) rfl ?_ ?_
      rotate_left
      ·intro w; go_simp; with_reducible rfl
      refine tk 14 (v := ?_) rfl ?_ ?_
      rotate_left
      ·intro w; go_simp; with_reducible rfl
      refine tk 15 (v := ?_) rfl ?_ ?_
      rotate_left
      ·intro w; go_simp; with_reducible rfl
      refine wpAny_ready (rs := [6]) (by kernel_rfl) (by simp) ?_
      refine AllReady.cons rfl (fun K hK => ?_) ?_
      ·go_simp
       refine hK _ _ ?_
       clear hK K
       refine wpAny_ready (rs := [8]) (by kernel_rfl) (by simp) ?_
       refine AllReady.cons rfl (fun K hK => ?_) ?_
       ·go_simp
        refine (HP.out _).mono ?_
        rintro e w' ⟨rfl, h9⟩
        subst w'
        refine hK _ _ ?_
        clear hK K
        refine tk 9 (v := ?_) rfl ?_ ?_
        rotate_left
        ·intro w; go_simp; with_reducible rfl
        refine wpAny_ready (rs := [10]) (by kernel_rfl) (by simp) ?_
        refine AllReady.cons rfl (fun K hK => ?_) ?_
        ·go_simp
         refine hK _ _ ?_
         clear hK K
         refine wpAny_ready (rs := [11]) (by kernel_rfl) (by simp) ?_
         refine AllReady.cons rfl (fun K hK => ?_) ?_
         ·go_simp
          refine hK _ _ ?_
          clear hK K
          refine wpAny_ready (rs := [16]) (by kernel_rfl) (by simp) ?_
          refine AllReady.cons rfl (fun K hK => ?_) ?_
          ·go_simp
           refine hK _ _ ?_
           clear hK K
           refine wpAny_ready (rs := [17]) (by kernel_rfl) (by simp) ?_
           refine AllReady.cons rfl (fun K hK => ?_) ?_
           ·go_simp
            refine hK _ _ ?_
            clear hK K
            refine wpAny_done (by kernel_rfl) ?_ _
            go_wp2_with fail
            go_ret
            have HF : BinsPost R2 wr (.returned v3) w3 := bins_own (w := wr) (m := R2) (by have h1 := HO3.out; rw [HE.out, List.flatMap_append, List.flatMap_cons, ← List.append_assoc]; exact h1) (by have := HLL.out; rw [HE.out, List.length_append, List.length_take, List.length_cons, List.length_drop]; omega) HB3.out
            obtain ⟨a', cap', h1, h2, h3⟩ := HF
            exact ⟨a', cap', h1, h2, HB.out.trans (h3.mono HB.out.size)⟩
           exact AllReady.nil
          exact AllReady.nil
         exact AllReady.nil
        exact AllReady.nil
       exact AllReady.nil
      exact AllReady.nil
     ·have t1 : (x1 == p) = false := by rw [beq_eq_false_iff_ne]; exact hxe
      have HE : Hid (R2 = l.take k ++ (p, n) :: l.drop k) := by rw [Hid, HE2.out, HK.out, HD.out, binPut_more hxn hxe]
      have c0' : w1.cell? ⟨b, off + k * 2, none⟩ = some (.int .i64 x1) := (hB1.cell (p := ⟨b, off + k * 2, none⟩) HBB.out).trans c0
      obtain ⟨g2, c2, w2, hap2, hO2, hB2, hz2, -, -⟩ := append_one Tryz.prog 29 und_bin info_bin rfl (by decide) (W := w1.drew) (ownsN_go hO1 (Below.refl _ _).drew) hB1.drew (Nat.le_refl _) hz1 (encB (p, n)) rfl (one_bin _) (by omega) (by decide)
      have hap2 : (Builtin.append_ #[29, 29] 29 #[v1, .slice (some ⟨w1.heap.size, 0, none⟩) 1 1]).run Tryz.prog (w1.alloc (.cells #[.int .i64 p, .int .u64 n] 123)).drew = .ok (.slice (some ⟨g2, 0, none⟩) (k + 1) c2) w2 := hap2
      obtain ⟨v3, w3, hap3, hO3, hB3, hz3, -, -⟩ := append_elems Tryz.prog (cap := cap - k) 29 und_bin info_bin rfl (by decide) hO2 hB2 (Nat.le_refl _) (Nat.le_of_lt (Nat.lt_of_le_of_lt hz1 hz2)) (fun _ => rfl) (((HLr.out.below hB2).mono hB2.size).drop k hk).1 one_bin (by omega) (by omega) (by decide)
      have HO3 : Hid (w3.ownsRow wr.heap.size 123 2 v3 (k + 1 + (len - k)) (((l.take k).flatMap encB ++ encB (p, n)) ++ (l.drop k).flatMap encB)) := hO3
      have HB3 := Lib.hid hB3
      clear hO1 hO2 hO3 hB1 hB2 hB3 hk1
      go_wp2_with fail
      refine wp_region_any (by kernel_rfl) ?_
      change wpAny _ _ _ _ _ _ _ (World.drew _)
      refine tk 0 (v := ?_) rfl ?_ ?_
      rotate_left
      ·intro w; go_simp; with_reducible rfl
      refine tk 1 (v := ?_) rfl ?_ ?_
      rotate_left
      ·intro w; go_simp; with_reducible rfl
      refine tk 2 (v := ?_) rfl ?_ ?_
      rotate_left
      ·intro w; go_simp; with_reducible rfl
      refine tk 3 (v := ?_) rfl ?_ ?_
      rotate_left
      ·intro w; go_simp; with_reducible rfl
      refine tk 6 (v := ?_) rfl ?_ ?_
      rotate_left
      ·intro w; go_simp; with_reducible rfl
      refine tk 7 (v := ?_) rfl ?_ ?_
      rotate_left
      ·intro w; go_simp; with_reducible rfl
      refine tk 8 (v := ?_) rfl ?_ ?_
      rotate_left
      ·intro w; go_simp; with_reducible rfl
      refine wpAny_ready (rs := [4]) (by kernel_rfl) (by simp) ?_
      refine AllReady.cons rfl (fun K hK => ?_) ?_
      ·go_simp
       refine hK _ _ ?_
       clear hK K
       refine wpAny_ready (rs := [5]) (by kernel_rfl) (by simp) ?_
       refine AllReady.cons rfl (fun K hK => ?_) ?_
       ·go_simp
        refine hK _ _ ?_
        clear hK K
        refine wpAny_ready (rs := [9]) (by kernel_rfl) (by simp) ?_
        refine AllReady.cons rfl (fun K hK => ?_) ?_
        ·go_simp
         refine hK _ _ ?_
         clear hK K
         refine wpAny_ready (rs := [10]) (by kernel_rfl) (by simp) ?_
         refine AllReady.cons rfl (fun K hK => ?_) ?_
         ·go_simp
          refine hK _ _ ?_
          clear hK K
          refine wpAny_done (by kernel_rfl) ?_ _
          go_wp2_with fail
          go_ret
          have HF : BinsPost R2 wr (.returned v3) w3 := bins_own (w := wr) (m := R2) (by have h1 := HO3.out; rw [HE.out, List.flatMap_append, List.flatMap_cons, ← List.append_assoc]; exact h1) (by have := HLL.out; rw [HE.out, List.length_append, List.length_take, List.length_cons, List.length_drop]; omega) HB3.out
          obtain ⟨a', cap', h1, h2, h3⟩ := HF
          exact ⟨a', cap', h1, h2, HB.out.trans (h3.mono HB.out.size)⟩
         exact AllReady.nil
        exact AllReady.nil
       exact AllReady.nil
      exact AllReady.nil
  ·obtain rfl : k = len := by omega
   have HE : Hid (R = l.take k ++ (p, n) :: l.drop k) := by
    rw [Hid, HK.out, List.drop_of_length_le (by rw [← HLL.out]; exact Nat.le_refl _)]
    rfl
   clear hB
   by_cases hn0' : n = 0
   ·have HE9 : Hid (R2 = l) := HR2.out.1 hn0'
    subst hn0'
    go_wp2_with fail
    go_ret
    rw [HE9.out]
    unfold BinsPost
    rw [← HLL.out]
    exact ⟨_, cap, rfl, HLr.out, HB.out⟩
   ·have t0 : (n == 0) = false := by rw [beq_eq_false_iff_ne]; exact hn0'
    have HE2 : Hid (R2 = R) := HR2.out.2 hn0'
    rw [← HE2.out] at HE
    obtain ⟨v1, w1, hap1, hO1, hB1, hz1, hk1, -⟩ := append_elems Tryz.prog (cap := cap) 29 und_bin info_bin rfl (by decide) (World.ownsRow_nil wr wr.heap.size 123 2) (Below.refl wr.heap.size wr) (Nat.le_refl _) (Nat.le_refl _) (fun _ => rfl) (HLr.out.take k hk).1 one_bin (by omega) (by omega) (by decide)
    rw [List.nil_append, Nat.zero_add] at hO1
    obtain ⟨g2, c2, w2, hap2, hO2, hB2, hz2, -, -⟩ := append_one Tryz.prog 29 und_bin info_bin rfl (by decide) (W := w1.drew) (ownsN_go hO1 (Below.refl _ _).drew) hB1.drew (Nat.le_refl _) hz1 (encB (p, n)) rfl (one_bin _) (by omega) (by decide)
    have hap2 : (Builtin.append_ #[29, 29] 29 #[v1, .slice (some ⟨w1.heap.size, 0, none⟩) 1 1]).run Tryz.prog (w1.alloc (.cells #[.int .i64 p, .int .u64 n] 123)).drew = .ok (.slice (some ⟨g2, 0, none⟩) (k + 1) c2) w2 := hap2
    obtain ⟨v3, w3, hap3, hO3, hB3, hz3, -, -⟩ := append_elems Tryz.prog (cap := cap - k) 29 und_bin info_bin rfl (by decide) hO2 hB2 (Nat.le_refl _) (Nat.le_of_lt (Nat.lt_of_le_of_lt hz1 hz2)) (fun _ => rfl) (((HLr.out.below hB2).mono hB2.size).drop k hk).1 one_bin (by omega) (by omega) (by decide)
    have HO3 : Hid (w3.ownsRow wr.heap.size 123 2 v3 (k + 1 + (k - k)) (((l.take k).flatMap encB ++ encB (p, n)) ++ (l.drop k).flatMap encB)) := hO3
    have HB3 := Lib.hid hB3
    clear hO1 hO2 hO3 hB1 hB2 hB3 hk1
    simp only [Nat.sub_self] at hap3 hfr
    go_wp2_with fail
    refine wp_region_any (by kernel_rfl) ?_
    change wpAny _ _ _ _ _ _ _ (World.drew _)
    refine tk 0 (v := ?_) rfl ?_ ?_
    rotate_left
    ·intro w; go_simp; with_reducible rfl
    refine tk 1 (v := ?_) rfl ?_ ?_
    rotate_left
    ·intro w; go_simp; with_reducible rfl
    refine tk 2 (v := ?_) rfl ?_ ?_
    rotate_left
    ·intro w; go_simp; with_reducible rfl
    refine tk 3 (v := ?_) rfl ?_ ?_
    rotate_left
    ·intro w; go_simp; with_reducible rfl
    refine tk 6 (v := ?_) rfl ?_ ?_
    rotate_left
    ·intro w; go_simp; with_reducible rfl
    refine tk 7 (v := ?_) rfl ?_ ?_
    rotate_left
    ·intro w; go_simp; with_reducible rfl
    refine tk 8 (v := ?_) rfl ?_ ?_
    rotate_left
    ·intro w; go_simp; with_reducible rfl
    refine wpAny_ready (rs := [4]) (by kernel_rfl) (by simp) ?_
    refine AllReady.cons rfl (fun K hK => ?_) ?_
    ·go_simp
     refine hK _ _ ?_
     clear hK K
     refine wpAny_ready (rs := [5]) (by kernel_rfl) (by simp) ?_
     refine AllReady.cons rfl (fun K hK => ?_) ?_
     ·go_simp
      refine hK _ _ ?_
      clear hK K
      refine wpAny_ready (rs := [9]) (by kernel_rfl) (by simp) ?_
      refine AllReady.cons rfl (fun K hK => ?_) ?_
      ·go_simp
       refine hK _ _ ?_
       clear hK K
       refine wpAny_ready (rs := [10]) (by kernel_rfl) (by simp) ?_
       refine AllReady.cons rfl (fun K hK => ?_) ?_
       ·go_simp
        refine hK _ _ ?_
        clear hK K
        refine wpAny_done (by kernel_rfl) ?_ _
        go_wp2_with fail
        go_ret
        have HF : BinsPost R2 wr (.returned v3) w3 := bins_own (w := wr) (m := R2) (by have h1 := HO3.out; rw [HE.out, List.flatMap_append, List.flatMap_cons, ← List.append_assoc]; exact h1) (by have := HLL.out; rw [HE.out, List.length_append, List.length_take, List.length_cons, List.length_drop]; omega) HB3.out
        obtain ⟨a', cap', h1, h2, h3⟩ := HF
        exact ⟨a', cap', h1, h2, HB.out.trans (h3.mono HB.out.size)⟩
       exact AllReady.nil
      exact AllReady.nil
     exact AllReady.nil
    exact AllReady.nil
end Go.Proofs.YtcbbenncdainfaaGreatDoor
namespace Go.Proofs.YtcbbenncdainfaaGreatDoor
open Go Go.RowKit Go.Shelf
structure BkR (f : Nat) (l : List (Int × Int)) : Prop where
 hf : f ≤ 3
 up : BinUp l
 pos : ∀ b ∈ l, b.2 ≠ 0
 u : BinsU l
 bd : ∀ b ∈ l, boundsB f b.1 = true
theorem BkR.r {f : Nat} {l : List (Int × Int)} (h : BkR f l) : hiRight f l = true := hiRight_of f l h.hf h.up h.pos h.bd
theorem BkR.len {f : Nat} {l : List (Int × Int)} (h : BkR f l) : l.length ≤ 513 := by have := bins_len f l h.hf h.up h.bd; omega
theorem BkR.b {f : Nat} {l : List (Int × Int)} (h : BkR f l) : Bins l := fun b hb => ⟨bins_i64 f l h.hf h.bd b hb, h.u b hb⟩
theorem BkR.right {f : Nat} {l : List (Int × Int)} (h : BkR f l) {a : Option Addr} {len cap : Nat} {w : World} (hL : SlC encB 2 w.heap.size w a len cap l) :
  Calls Tryz.prog 57 #[.agg #[.int .i64 f, .slice a len cap]] w fun e w' => e = .returned (.bool true) ∧ Below w.heap.size w w' := by
 have := ref09_Right_any f a len cap l w hL.1 (Nat.le_trans hL.2.1 hL.2.2.1) h.b
 rw [h.r] at this
 exact this
theorem refPuts_u64 : ∀ (q p : List (Int × Int)), BinsU p → BinsU q → BinsU (refPuts p q)
 | [], _, hp, _ => hp
 | x :: q, p, hp, hq => by
  refine refPuts_u64 q (refPut p x.1 x.2) ?_ (fun c hc => hq c (List.mem_cons_of_mem _ hc))
  unfold refPut
  split
  ·exact hp
  ·exact binPut_u64 p x.1 x.2 hp (hq x List.mem_cons_self)
def HistPost (f : Int) (m : List (Int × Int)) (w : World) (e : Ending) (w' : World) : Prop := ∃ a cap, e = .returned (.tuple #[.agg #[.int .i64 f, .slice a m.length cap], .int .i64 0]) ∧ SlC encB 2 w'.heap.size w' a m.length cap m ∧ Below w.heap.size w w'
theorem slC_bin_apart {W V : World} {b : Nat} {f : Int} {t : TypeId} {a : Option Addr} {len cap : Nat} {l : List (Int × Int)} (h : SlC encB 2 W.heap.size W a len cap l) (hX : W.heap[b]? = some (.cells #[.int .i64 f, .slice none 0 0] t (0, 0))) (hV : OnlyAt b W V) : SlC encB 2 V.heap.size V a len cap l :=
 slC_apart (i0 := 1) (by decide) (fun x => ⟨x.2, rfl⟩) hX (fun i u h => by rcases i with _ | _ | i <;> simp at h) hV h
theorem store2h {W : World} {b : Nat} {x y : Value} {t : TypeId} (u v : Value) (h : W.heap[b]? = some (.cells #[x, y] t (0, 0))) :
  ∃ V, (W.setCell ⟨b, 0, none⟩ u).setCell ⟨b, 1, none⟩ v = V ∧ V.heap[b]? = some (.cells #[u, v] t (0, 0)) ∧ OnlyAt b W V ∧ (∀ n w0, Below n w0 W → n ≤ b → Below n w0 V) :=
 ⟨_, rfl, hSk (hSk h _) _, ((OnlyAt.refl _ _).set _ _).set _ _, fun _ _ hb hn => (hb.setCell (p := ⟨b, 0, none⟩) hn _).setCell (p := ⟨b, 1, none⟩) hn _⟩
set_option maxRecDepth 100000 in
set_option maxHeartbeats 8000000 in
theorem ref09_Merge_any (f : Nat) (l m : List (Int × Int)) (a : Option Addr) (len cap : Nat) (a2 : Option Addr) (len2 cap2 : Nat) (w : World) (hk : BkR f l) (hk2 : BkR f m) (hL : SlC encB 2 w.heap.size w a len cap l) (hM : SlC encB 2 w.heap.size w a2 len2 cap2 m) :
  Calls Tryz.prog 38 #[.agg #[.int .i64 f, .slice a len cap], .agg #[.int .i64 f, .slice a2 len2 cap2]] w (HistPost f (hiDone (hiPuts l m)) w) := by
 have hll := hL.1.1
 have hml := hM.1.1
 obtain ⟨W0, hW0, hX0, hY0, hXr, hB0, hs0⟩ := boxes3 w #[.int .i64 f, .slice a len cap] 31 #[.int .i64 f, .slice a2 len2 cap2] 31 #[.int .i64 0, .slice none 0 0] 31
 have hRt := hk.right (hL.go hB0)
 have HRt2 : Hid (∀ W, Below W0.heap.size W0 W → Calls Tryz.prog 57 #[.agg #[.int .i64 f, .slice a2 len2 cap2]] W fun e w' => e = .returned (.bool true) ∧ Below W.heap.size W w') := fun W hb => hk2.right ((hM.go hB0).go hb)
 have HX : Hid (∀ W, Below W0.heap.size W0 W → W.heap[w.heap.size]? = some (.cells #[.int .i64 f, .slice a len cap] 31 (0, 0)) ∧ W.heap[w.heap.size + 1]? = some (.cells #[.int .i64 f, .slice a2 len2 cap2] 31 (0, 0)) ∧ W.heap[w.heap.size + 2]? = some (.cells #[.int .i64 0, .slice none 0 0] 31 (0, 0))) := fun W hb => ⟨known hb (Nat.le_refl _) hX0, known hb (Nat.le_refl _) hY0, known hb (Nat.le_refl _) hXr⟩
 have HS := Lib.hid (And.intro (hL.go hB0) (hM.go hB0))
 have hl5 : len ≤ 513 := by have := hk.len; omega
 have hl6 : len2 ≤ 513 := by have := hk2.len; omega
 have HML := Lib.hid hml
 obtain ⟨S, hS⟩ : ∃ S : Nat → List (Int × Int), ∀ k, S k = refPuts l (m.take k) := ⟨_, fun _ => rfl⟩
 have HS0 : Hid (S 0 = l) := by rw [Hid, hS]; rfl
 have HSn : Hid (∀ (k : Nat) (x : Int × Int), m[k]? = some x → S (k + 1) = refPut (S k) x.1 x.2) := fun k x hx => by rw [hS, hS, take_snoc' hx, refPuts_snoc]
 have HSl : Hid (∀ k, k ≤ len2 → (S k).length ≤ len + k) := fun k hk => by
  have := refPuts_len (m.take k) l
  rw [List.length_take] at this
  rw [hS]
  omega
 have HEn : Hid (S len2 = hiDone (hiPuts l m)) := by rw [Hid, hS, List.take_of_length_le (by omega)]; exact refPuts_done hk.pos hk.u hk2.pos hk2.u
 have HU := Lib.hid hk2.u
 have HUS : Hid (∀ k, BinsU (S k)) := fun k => by
  rw [hS]
  exact refPuts_u64 _ _ hk.u (fun c hc => hk2.u c (List.mem_of_mem_take hc))
 generalize hiDone (hiPuts l m) = R at HEn ⊢
 have HB0 := Lib.hid hB0
 have HLL : Hid (len = (S 0).length) := by rw [HS0.out]; exact hll
 have HS1 : Hid (SlC encB 2 W0.heap.size W0 a len cap (S 0)) := by rw [HS0.out]; exact HS.out.1
 obtain ⟨c0, c1⟩ := cl2 hX0
 clear hX0 hY0 hXr hB0 hL hM hll hml hk hk2 hS
 go_enter Tryz.func38, Tryz.ntmps38
 go_wp2_with fail
 refine hRt.mono ?_
 rintro e w1 ⟨rfl, hb1⟩
 obtain ⟨hX1, hY1, -⟩ := HX.out w1 hb1
 obtain ⟨d0, d1⟩ := cl2 hX1
 obtain ⟨y0, y1⟩ := cl2 hY1
 have hRt2 := HRt2.out w1 hb1
 have HB1 := Lib.hid hb1
 clear hX1 hY1 hb1 hRt c0 c1
 go_wp2_with fail
 refine hRt2.mono ?_
 rintro e w2 ⟨rfl, hb2⟩
 have hb02 := HB1.out.trans (hb2.mono HB1.out.size)
 obtain ⟨hX2, hY2, -⟩ := HX.out w2 hb02
 obtain ⟨x0, x1⟩ := cl2 hX2
 obtain ⟨z0, z1⟩ := cl2 hY2
 have HB2 := Lib.hid hb02
 have HS2 : Hid (SlC encB 2 w2.heap.size w2 a len cap (S 0)) := HS1.out.go hb02
 clear hX2 hY2 hb2 hb02 hRt2 d0 d1 y0 y1
 go_wp2_with fail
 go_loopw [6, 7] (fun lv i wr => ∃ (k : Nat) (oa : Option Addr) (ol oc : Nat), i = .int .i64 k ∧ k ≤ len2 ∧ lv = .slice oa ol oc ∧ ol ≤ 2000 ∧ Hid (ol = (S k).length) ∧ Hid (SlC encB 2 wr.heap.size wr oa ol oc (S k)) ∧ Hid (Below W0.heap.size W0 wr)) (fun _ i _ => len2 - (intOf i).toNat)
 case atStart => exact ⟨0, a, len, cap, rfl, Nat.zero_le _, rfl, by omega, HLL.out, HS2.out, HB2.out⟩
 case round =>
  obtain ⟨k, oa, ol, oc, rfl, hk, rfl, hol, HOl, HO, HB⟩ := hrel
  obtain ⟨hX3, hY3, hXr3⟩ := HX.out wr HB.out
  obtain ⟨u0, u1⟩ := cl2 hX3
  obtain ⟨v0, v1⟩ := cl2 hY3
  have i0 : (0 : Int) ≤ (k : Int) := Int.natCast_nonneg _
  by_cases hlt : k < len2
  ·obtain ⟨x, hx⟩ : ∃ x, m[k]? = some x := ⟨_, List.getElem?_eq_getElem (by rw [← HML.out]; exact hlt)⟩
   obtain ⟨b, off, rfl, hbb, hc⟩ := (HS.out.2.go HB.out).1.2 k x hx
   have c0 : wr.cell? ⟨b, off + k * 2, none⟩ = some (.int .i64 x.1) := hc 0 (by omega)
   have c1 : wr.cell? ⟨b, off + k * 2 + 1, none⟩ = some (.int .u64 x.2) := hc 1 (by omega)
   have i1 : (k : Int) < (len2 : Int) := by omega
   have HT := Lib.hid (HSn.out k x hx)
   have HP := Lib.hid (ref09_put_any x.1 x.2 (S k) oa ol oc wr.drew HO.out (by have := HSl.out k hk; have := HOl.out; omega) (HU.out x (List.mem_of_getElem? hx)) (HUS.out k))
   have hle := HSl.out (k + 1) hlt
   obtain ⟨x1, x2⟩ := x
   dsimp only at c0 c1 HP HT
   rw [← HT.out] at HP
   obtain ⟨n2, hn2⟩ : ∃ n2, (S (k + 1)).length = n2 := ⟨_, rfl⟩
   rw [hn2] at hle
   have HN2 := Lib.hid hn2.symm
   have HBd := Lib.hid HB.out.drew
   clear hc hx hbb hX3 hY3 hXr3 hn2
   go_wp2_with fail
   refine wp_region_any (by kernel_rfl) ?_
   change wpAny _ _ _ _ _ _ _ (World.drew _)
   refine tk 0 (v := ?_) rfl ?_ ?_
   rotate_left
   ·intro w; go_simp; with_reducible rfl
   refine tk 1 (v := ?_) rfl ?_ ?_
   rotate_left
   ·intro w; go_simp; with_reducible rfl
   refine tk 3 (v := ?_) rfl ?_ ?_
   rotate_left
   ·intro w; go_simp; with_reducible rfl
   refine tk 7 (v := ?_) rfl ?_ ?_
   rotate_left
   ·intro w; go_simp; with_reducible rfl
   refine tk 9 (v := ?_) rfl ?_ ?_
   rotate_left
   ·intro w; go_simp; with_reducible rfl
   refine wpAny_ready (rs := [2, 8]) (by kernel_rfl) (by simp) ?_
   refine AllReady.cons rfl (fun K hK => ?_) ?_
   ·go_simp
    refine hK _ _ ?_
    clear hK K
    refine tk 4 (v := ?_) rfl ?_ ?_
    rotate_left
    ·intro w; go_simp; with_reducible rfl
    refine tk 5 (v := ?_) rfl ?_ ?_
    rotate_left
    ·intro w; go_simp; with_reducible rfl
    refine wpAny_ready (rs := [6, 8]) (by kernel_rfl) (by simp) ?_
    refine AllReady.cons rfl (fun K hK => ?_) ?_
    ·go_simp
     refine hK _ _ ?_
     clear hK K
     refine wpAny_ready (rs := [8]) (by kernel_rfl) (by simp) ?_
     refine AllReady.cons rfl (fun K hK => ?_) ?_
     ·go_simp
      refine hK _ _ ?_
      clear hK K
      refine tk 10 (v := ?_) rfl ?_ ?_
      rotate_left
      ·intro w; go_simp; with_reducible rfl
      refine tk 11 (v := ?_) rfl ?_ ?_
      rotate_left
      ·intro w; go_simp; with_reducible rfl
      refine wpAny_ready (rs := [12]) (by kernel_rfl) (by simp) ?_
      refine AllReady.cons rfl (fun K hK => ?_) ?_
      ·go_simp
       refine hK _ _ ?_
       clear hK K
       refine wpAny_ready (rs := [13]) (by kernel_rfl) (by simp) ?_
       refine AllReady.cons rfl (fun K hK => ?_) ?_
       ·go_simp
        refine (HP.out).mono ?_
        rintro e w3 ⟨pa, pc, rfl, hS3, hb3⟩
        rw [HN2.out.symm] at hS3 ⊢
        have HS3 := Lib.hid hS3
        have HB3 := Lib.hid (HBd.out.trans (hb3.mono HBd.out.size))
        clear hS3 hb3
        refine hK _ _ ?_
        clear hK K
        refine wpAny_ready (rs := [14]) (by kernel_rfl) (by simp) ?_
        refine AllReady.cons rfl (fun K hK => ?_) ?_
        ·go_simp
         refine hK _ _ ?_
         clear hK K
         refine wpAny_done (by kernel_rfl) ?_ _
         go_wp2_with fail
         all_goals go_roundw
         case rel => exact ⟨k + 1, pa, n2, pc, by go_num, by omega, rfl, by omega, HN2.out, HS3.out, HB3.out⟩
         case measure => simp [intOf]; try omega
        exact AllReady.nil
       exact AllReady.nil
      exact AllReady.nil
     exact AllReady.nil
    refine AllReady.cons rfl (fun K hK => ?_) ?_
    ·go_simp
     refine hK _ _ ?_
     clear hK K
     refine tk 10 (v := ?_) rfl ?_ ?_
     rotate_left
     ·intro w; go_simp; with_reducible rfl
     refine tk 11 (v := ?_) rfl ?_ ?_
     rotate_left
     ·intro w; go_simp; with_reducible rfl
     refine wpAny_ready (rs := [6, 12]) (by kernel_rfl) (by simp) ?_
     refine AllReady.cons rfl (fun K hK => ?_) ?_
     ·go_simp
      refine hK _ _ ?_
      clear hK K
      refine wpAny_ready (rs := [12]) (by kernel_rfl) (by simp) ?_
      refine AllReady.cons rfl (fun K hK => ?_) ?_
      ·go_simp
       refine hK _ _ ?_
       clear hK K
       refine wpAny_ready (rs := [13]) (by kernel_rfl) (by simp) ?_
       refine AllReady.cons rfl (fun K hK => ?_) ?_
       ·go_simp
        refine (HP.out).mono ?_
        rintro e w3 ⟨pa, pc, rfl, hS3, hb3⟩
        rw [HN2.out.symm] at hS3 ⊢
        have HS3 := Lib.hid hS3
        have HB3 := Lib.hid (HBd.out.trans (hb3.mono HBd.out.size))
        clear hS3 hb3
        refine hK _ _ ?_
        clear hK K
        refine wpAny_ready (rs := [14]) (by kernel_rfl) (by simp) ?_
        refine AllReady.cons rfl (fun K hK => ?_) ?_
        ·go_simp
         refine hK _ _ ?_
         clear hK K
         refine wpAny_done (by kernel_rfl) ?_ _
         go_wp2_with fail
         all_goals go_roundw
         case rel => exact ⟨k + 1, pa, n2, pc, by go_num, by omega, rfl, by omega, HN2.out, HS3.out, HB3.out⟩
         case measure => simp [intOf]; try omega
        exact AllReady.nil
       exact AllReady.nil
      exact AllReady.nil
     refine AllReady.cons rfl (fun K hK => ?_) ?_
     ·go_simp
      refine hK _ _ ?_
      clear hK K
      refine wpAny_ready (rs := [6]) (by kernel_rfl) (by simp) ?_
      refine AllReady.cons rfl (fun K hK => ?_) ?_
      ·go_simp
       refine hK _ _ ?_
       clear hK K
       refine wpAny_ready (rs := [13]) (by kernel_rfl) (by simp) ?_
       refine AllReady.cons rfl (fun K hK => ?_) ?_
       ·go_simp
        refine (HP.out).mono ?_
        rintro e w3 ⟨pa, pc, rfl, hS3, hb3⟩
        rw [HN2.out.symm] at hS3 ⊢
        have HS3 := Lib.hid hS3
        have HB3 := Lib.hid (HBd.out.trans (hb3.mono HBd.out.size))
        clear hS3 hb3
        refine hK _ _ ?_
        clear hK K
        refine wpAny_ready (rs := [14]) (by kernel_rfl) (by simp) ?_
        refine AllReady.cons rfl (fun K hK => ?_) ?_
        ·go_simp
         refine hK _ _ ?_
         clear hK K
         refine wpAny_done (by kernel_rfl) ?_ _
         go_wp2_with fail
         all_goals go_roundw
         case rel => exact ⟨k + 1, pa, n2, pc, by go_num, by omega, rfl, by omega, HN2.out, HS3.out, HB3.out⟩
         case measure => simp [intOf]; try omega
        exact AllReady.nil
       exact AllReady.nil
      exact AllReady.nil
     exact AllReady.nil
    exact AllReady.nil
   refine AllReady.cons rfl (fun K hK => ?_) ?_
   ·go_simp
    refine hK _ _ ?_
    clear hK K
    refine tk 10 (v := ?_) rfl ?_ ?_
    rotate_left
    ·intro w; go_simp; with_reducible rfl
    refine tk 11 (v := ?_) rfl ?_ ?_
    rotate_left
    ·intro w; go_simp; with_reducible rfl
    refine wpAny_ready (rs := [2, 12]) (by kernel_rfl) (by simp) ?_
    refine AllReady.cons rfl (fun K hK => ?_) ?_
    ·go_simp
     refine hK _ _ ?_
     clear hK K
     refine tk 4 (v := ?_) rfl ?_ ?_
     rotate_left
     ·intro w; go_simp; with_reducible rfl
     refine tk 5 (v := ?_) rfl ?_ ?_
     rotate_left
     ·intro w; go_simp; with_reducible rfl
     refine wpAny_ready (rs := [6, 12]) (by kernel_rfl) (by simp) ?_
     refine AllReady.cons rfl (fun K hK => ?_) ?_
     ·go_simp
      refine hK _ _ ?_
      clear hK K
      refine wpAny_ready (rs := [12]) (by kernel_rfl) (by simp) ?_
      refine AllReady.cons rfl (fun K hK => ?_) ?_
      ·go_simp
       refine hK _ _ ?_
       clear hK K
       refine wpAny_ready (rs := [13]) (by kernel_rfl) (by simp) ?_
       refine AllReady.cons rfl (fun K hK => ?_) ?_
       ·go_simp
        refine (HP.out).mono ?_
        rintro e w3 ⟨pa, pc, rfl, hS3, hb3⟩
        rw [HN2.out.symm] at hS3 ⊢
        have HS3 := Lib.hid hS3
        have HB3 := Lib.hid (HBd.out.trans (hb3.mono HBd.out.size))
        clear hS3 hb3
        refine hK _ _ ?_
        clear hK K
        refine wpAny_ready (rs := [14]) (by kernel_rfl) (by simp) ?_
        refine AllReady.cons rfl (fun K hK => ?_) ?_
        ·go_simp
         refine hK _ _ ?_
         clear hK K
         refine wpAny_done (by kernel_rfl) ?_ _
         go_wp2_with fail
         all_goals go_roundw
         case rel => exact ⟨k + 1, pa, n2, pc, by go_num, by omega, rfl, by omega, HN2.out, HS3.out, HB3.out⟩
         case measure => simp [intOf]; try omega
        exact AllReady.nil
       exact AllReady.nil
      exact AllReady.nil
     refine AllReady.cons rfl (fun K hK => ?_) ?_
     ·go_simp
      refine hK _ _ ?_
      clear hK K
      refine wpAny_ready (rs := [6]) (by kernel_rfl) (by simp) ?_
      refine AllReady.cons rfl (fun K hK => ?_) ?_
      ·go_simp
       refine hK _ _ ?_
       clear hK K
       refine wpAny_ready (rs := [13]) (by kernel_rfl) (by simp) ?_
       refine AllReady.cons rfl (fun K hK => ?_) ?_
       ·go_simp
        refine (HP.out).mono ?_
        rintro e w3 ⟨pa, pc, rfl, hS3, hb3⟩
        rw [HN2.out.symm] at hS3 ⊢
        have HS3 := Lib.hid hS3
        have HB3 := Lib.hid (HBd.out.trans (hb3.mono HBd.out.size))
        clear hS3 hb3
        refine hK _ _ ?_
        clear hK K
        refine wpAny_ready (rs := [14]) (by kernel_rfl) (by simp) ?_
        refine AllReady.cons rfl (fun K hK => ?_) ?_
        ·go_simp
         refine hK _ _ ?_
         clear hK K
         refine wpAny_done (by kernel_rfl) ?_ _
         go_wp2_with fail
         all_goals go_roundw
         case rel => exact ⟨k + 1, pa, n2, pc, by go_num, by omega, rfl, by omega, HN2.out, HS3.out, HB3.out⟩
         case measure => simp [intOf]; try omega
        exact AllReady.nil
       exact AllReady.nil
      exact AllReady.nil
     exact AllReady.nil
    refine AllReady.cons rfl (fun K hK => ?_) ?_
    ·go_simp
     refine hK _ _ ?_
     clear hK K
     refine wpAny_ready (rs := [2]) (by kernel_rfl) (by simp) ?_
     refine AllReady.cons rfl (fun K hK => ?_) ?_
     ·go_simp
      refine hK _ _ ?_
      clear hK K
      refine tk 4 (v := ?_) rfl ?_ ?_
      rotate_left
      ·intro w; go_simp; with_reducible rfl
      refine tk 5 (v := ?_) rfl ?_ ?_
      rotate_left
      ·intro w; go_simp; with_reducible rfl
      refine wpAny_ready (rs := [6]) (by kernel_rfl) (by simp) ?_
      refine AllReady.cons rfl (fun K hK => ?_) ?_
      ·go_simp
       refine hK _ _ ?_
       clear hK K
       refine wpAny_ready (rs := [13]) (by kernel_rfl) (by simp) ?_
       refine AllReady.cons rfl (fun K hK => ?_) ?_
       ·go_simp
        refine (HP.out).mono ?_
        rintro e w3 ⟨pa, pc, rfl, hS3, hb3⟩
        rw [HN2.out.symm] at hS3 ⊢
        have HS3 := Lib.hid hS3
        have HB3 := Lib.hid (HBd.out.trans (hb3.mono HBd.out.size))
        clear hS3 hb3
        refine hK _ _ ?_
        clear hK K
        refine wpAny_ready (rs := [14]) (by kernel_rfl) (by simp) ?_
        refine AllReady.cons rfl (fun K hK => ?_) ?_
        ·go_simp
         refine hK _ _ ?_
         clear hK K
         refine wpAny_done (by kernel_rfl) ?_ _
         go_wp2_with fail
         all_goals go_roundw
         case rel => exact ⟨k + 1, pa, n2, pc, by go_num, by omega, rfl, by omega, HN2.out, HS3.out, HB3.out⟩
         case measure => simp [intOf]; try omega
        exact AllReady.nil
       exact AllReady.nil
      exact AllReady.nil
     exact AllReady.nil
    exact AllReady.nil
   exact AllReady.nil
  ·obtain rfl : k = len2 := by omega
   obtain ⟨V, hV, hXV, hOV, hBV⟩ := store2h (.int .i64 f) (.slice oa ol oc) hXr3
   obtain ⟨t0, t1⟩ := cl2 hXr3
   obtain ⟨f0, f1⟩ := cz2 hXr3
   obtain ⟨p0, p1⟩ := cl2 hXV
   have HSV := Lib.hid (slC_bin_apart HO.out hXr3 hOV)
   have HBV : Hid (Below w.heap.size w V) := hBV _ _ (HB0.out.trans (HB.out.mono HB0.out.size)) (by omega)
   clear hX3 hY3 hXr3 hXV hOV hBV
   go_wp2_with fail
   refine bodyPost_ret (v := .tuple #[.agg #[.int .i64 f, .slice oa ol oc], .int .i64 0]) (by simp [results, Tryz.f38, go_sem, p0, p1]) rfl ?_
   rw [← HEn.out]
   unfold HistPost
   rw [← HOl.out]
   exact ⟨oa, oc, rfl, HSV.out, HBV.out⟩
set_option maxRecDepth 100000 in
set_option maxHeartbeats 8000000 in
theorem ref09_Lower_any (f : Nat) (l : List (Int × Int)) (a : Option Addr) (len cap : Nat) (w : World) (hk : BkR f l) (h1 : 1 ≤ f) (hL : SlC encB 2 w.heap.size w a len cap l) :
  Calls Tryz.prog 71 #[.agg #[.int .i64 f, .slice a len cap]] w (HistPost ((f : Int) - 1) (hiLow l) w) := by
 have hll := hL.1.1
 obtain ⟨W0, hW0, hX0, hXr, hB0, hs0⟩ := boxes2 w #[.int .i64 f, .slice a len cap] 31 #[.int .i64 0, .slice none 0 0] 31
 have hRt := hk.right (hL.go hB0)
 have HX : Hid (∀ W, Below W0.heap.size W0 W → W.heap[w.heap.size]? = some (.cells #[.int .i64 f, .slice a len cap] 31 (0, 0)) ∧ W.heap[w.heap.size + 1]? = some (.cells #[.int .i64 0, .slice none 0 0] 31 (0, 0))) := fun W hb => ⟨known hb (Nat.le_refl _) hX0, known hb (Nat.le_refl _) hXr⟩
 have HS := Lib.hid (hL.go hB0)
 have hl5 : len ≤ 513 := by have := hk.len; omega
 have hf3 : f ≤ 3 := hk.hf
 have HLL := Lib.hid hll
 obtain ⟨q, hq⟩ : ∃ q, (l.map fun b => (hiHalf b.1, b.2)) = q := ⟨_, rfl⟩
 have HQ : Hid (∀ (k : Nat) (x : Int × Int), l[k]? = some x → q[k]? = some (hiHalf x.1, x.2)) := fun k x hx => by rw [← hq, List.getElem?_map, hx]; rfl
 have hql : q.length = l.length := by rw [← hq, List.length_map]
 obtain ⟨S, hS⟩ : ∃ S : Nat → List (Int × Int), ∀ k, S k = refPuts [] (q.take k) := ⟨_, fun _ => rfl⟩
 have HS0 : Hid (S 0 = []) := by rw [Hid, hS]; rfl
 have HSn : Hid (∀ (k : Nat) (x : Int × Int), q[k]? = some x → S (k + 1) = refPut (S k) x.1 x.2) := fun k x hx => by rw [hS, hS, take_snoc' hx, refPuts_snoc]
 have HSl : Hid (∀ k, k ≤ len → (S k).length ≤ k) := fun k hk => by
  have := refPuts_len (q.take k) []
  rw [List.length_take] at this
  rw [hS]
  simp only [List.length_nil] at this
  omega
 have HEn : Hid (S len = hiLow l) := by rw [Hid, hS, List.take_of_length_le (by omega), ← hq]; exact (hiLow_ref hk.pos hk.u).symm
 have hqu : BinsU q := by rw [← hq]; exact (half_bins hk.pos hk.u).2
 have HU := Lib.hid hqu
 have HUS : Hid (∀ k, BinsU (S k)) := fun k => by
  rw [hS]
  exact refPuts_u64 _ _ (fun c hc => by cases hc) (fun c hc => hqu c (List.mem_of_mem_take hc))
 have HBd1 : Hid (∀ b ∈ l, boundsB f b.1 = true) := hk.bd
 have HI := Lib.hid hk.b
 generalize hiLow l = R at HEn ⊢
 have HB0 := Lib.hid hB0
 have hz0 : w.heap.size + 2 = W0.heap.size := hs0.symm
 have HZ0 := Lib.hid hz0
 have hf1 : ((f : Int) == 0) = false := by rw [beq_eq_false_iff_ne]; omega
 have hfi : (f : Int) ≤ 3 := by omega
 have hfj : (1 : Int) ≤ (f : Int) := by omega
 have hwf : IntKind.i64.wrap ((f : Int) - 1) = (f : Int) - 1 := IntWalk.i64_in _ (by omega)
 obtain ⟨c0, c1⟩ := cl2 hX0
 clear hX0 hXr hB0 hL hll hk hS hq hql hqu hz0
 go_enter Tryz.func71, Tryz.ntmps71
 go_wp2_with fail
 refine hRt.mono ?_
 rintro e w1 ⟨rfl, hb1⟩
 obtain ⟨hX1, -⟩ := HX.out w1 hb1
 obtain ⟨d0, d1⟩ := cl2 hX1
 have HB1 := Lib.hid hb1
 clear hX1 hb1 hRt c0 c1
 go_wp2_with fail
 go_loopw [4, 5] (fun lv i wr => ∃ (k : Nat) (oa : Option Addr) (ol oc : Nat), i = .int .i64 k ∧ k ≤ len ∧ lv = .slice oa ol oc ∧ ol ≤ 2000 ∧ Hid (ol = (S k).length) ∧ Hid (SlC encB 2 wr.heap.size wr oa ol oc (S k)) ∧ Hid (Below W0.heap.size W0 wr)) (fun _ i _ => len - (intOf i).toNat)
 case atStart => exact ⟨0, none, 0, 0, rfl, Nat.zero_le _, rfl, by omega, by rw [HS0.out]; rfl, by rw [HS0.out]; exact SlC.nil, HB1.out⟩
 case round =>
  obtain ⟨k, oa, ol, oc, rfl, hk, rfl, hol, HOl, HO, HB⟩ := hrel
  obtain ⟨hX3, hXr3⟩ := HX.out wr HB.out
  obtain ⟨u0, u1⟩ := cl2 hX3
  have i0 : (0 : Int) ≤ (k : Int) := Int.natCast_nonneg _
  by_cases hlt : k < len
  ·obtain ⟨x, hx⟩ : ∃ x, l[k]? = some x := ⟨_, List.getElem?_eq_getElem (by rw [← HLL.out]; exact hlt)⟩
   obtain ⟨b, off, rfl, hbb, hc⟩ := HS.out.1.2 k x hx
   have hsz := HB.out.size
   have HKP : Hid (∀ W, Below wr.heap.size wr W → W.cell? ⟨w.heap.size, 0, none⟩ = some (.int .i64 f) ∧ W.cell? ⟨w.heap.size, 1, none⟩ = some (.slice (some ⟨b, off, none⟩) len cap) ∧ W.cell? ⟨b, off + k * 2, none⟩ = some (.int .i64 x.1) ∧ Below wr.heap.size wr W) := fun W h => by
    have hb' := HB.out.trans (h.mono hsz)
    obtain ⟨g1, -⟩ := HX.out W hb'
    exact ⟨cCc g1 0, cCc g1 1, (hb'.cell (p := ⟨b, off + k * 2, none⟩) hbb).trans (hc 0 (by omega)), h⟩
   obtain ⟨q0, q1, q2, qB⟩ := HKP.out wr (Below.refl _ _)
   have HC : Hid (∀ W, Below W0.heap.size W0 W → W.cell? ⟨b, off + k * 2 + 1, none⟩ = some (.int .u64 x.2)) := fun W h => (h.cell (p := ⟨b, off + k * 2 + 1, none⟩) hbb).trans (hc 1 (by omega))
   have i1 : (k : Int) < (len : Int) := by omega
   have hxm := List.mem_of_getElem? hx
   obtain ⟨u1, u2⟩ := (HI.out x hxm).1
   have HBd : Hid (∀ W, Calls Tryz.prog 83 #[.int .i64 f, .int .i64 x.1] W (BdR f x.1 W)) := fun W => ref09_Bounds_any f x.1 ⟨u1, u2⟩ W
   obtain ⟨hhalf, hlu⟩ := least_half f h1 hf3 x.1 (HBd1.out x hxm)
   have hbx := HBd1.out x hxm
   have HT : Hid (S (k + 1) = refPut (S k) (hiHalf x.1) x.2) := HSn.out k _ (HQ.out k x hx)
   have hle := HSl.out (k + 1) hlt
   have hlk := HSl.out k hk
   have hux : U64 x.2 := (HI.out x hxm).2
   have HPut : Hid (∀ W, Below wr.heap.size wr W → Calls Tryz.prog 73 #[.slice oa ol oc, .int .i64 (hiHalf x.1), .int .u64 x.2] W (BinsPost (S (k + 1)) W)) := fun W hb => by
    rw [HT.out]
    exact ref09_put_any (hiHalf x.1) x.2 (S k) oa ol oc W (HO.out.go hb) (by have := HOl.out; omega) hux (HUS.out k)
   have HBkt : Hid (∀ W, Calls Tryz.prog 78 #[.int .i64 ((f : Int) - 1), .int .u64 (hiLeast f x.1)] W fun e w' => e = .returned (.int .i64 (hiHalf x.1)) ∧ w' = W) := fun W => by
    obtain ⟨lo, hlo⟩ := Int.eq_ofNat_of_zero_le hlu.1
    have := ref09_Bucket_any (f - 1) lo (by omega) (by have := hlu.2; omega) W
    rw [← hhalf, hlo, Int.toNat_natCast]
    rw [show (((f - 1 : Nat)) : Int) = (f : Int) - 1 by omega] at this
    exact this
   have HLe : Hid (∀ lo : Int, (boundsB f x.1 = true → 1 ≤ (f : Int) → lo = hiLeast (f : Int).toNat x.1) → lo = hiLeast f x.1) := fun lo h => by have := h hbx hfj; rw [Int.toNat_natCast] at this; exact this
   generalize hiLeast f x.1 = low at HBkt HLe hlu
   generalize hiHalf x.1 = hp at HPut HBkt
   obtain ⟨n2, hn2⟩ : ∃ n2, (S (k + 1)).length = n2 := ⟨_, rfl⟩
   rw [hn2] at hle
   have HN2 := Lib.hid hn2.symm
   obtain ⟨x1, x2⟩ := x
   dsimp only at q2 HC HBd HPut HKP hux HLe
   clear hc hx hX3 hXr3 hn2 hhalf hxm hbx u0 u1 u2
   go_wp2_with fail
   go_region_held3 (fun w' => w'.cell? ⟨w.heap.size, 0, none⟩ = some (.int .i64 f) ∧ w'.cell? ⟨w.heap.size, 1, none⟩ = some (.slice (some ⟨b, off, none⟩) len cap) ∧ w'.cell? ⟨b, off + k * 2, none⟩ = some (.int .i64 x1) ∧ Below wr.heap.size wr w')
    (first
     | with_reducible exact HKP.out _ qB.drew
     | (go_split_ands; with_reducible refine HKP.out _ ?_; with_reducible first | exact Below.trans (by assumption) (Below.mono (by assumption) (Below.size (by assumption))) | assumption)
     | go_keep)
    (first | (go_at_call 83; refine (HBd.out _).mono ?_; rintro e w6 ⟨lo, hi, rfl, hlo, hb6⟩; obtain rfl := HLe.out lo hlo))
   rename_i hHeld
   obtain ⟨q0, q1, q2, qB⟩ := hHeld
   have hBd6 : Below W0.heap.size W0 w6 := HB.out.trans (qB.mono hsz)
   have q3 := HC.out w6 hBd6
   have HBw := Lib.hid qB.drew
   have HBd := Lib.hid hBd6.drew
   clear hb6 hBd6 hlo
   go_wp2_with fail
   refine wp_region_any (by kernel_rfl) ?_
   change wpAny _ _ _ _ _ _ _ (World.drew _)
   refine tk 0 (v := ?_) rfl ?_ ?_
   rotate_left
   ·intro w; go_simp; with_reducible rfl
   refine tk 1 (v := ?_) rfl ?_ ?_
   rotate_left
   ·intro w; go_simp; with_reducible rfl
   refine tk 4 (v := ?_) rfl ?_ ?_
   rotate_left
   ·intro w; go_simp; with_reducible rfl
   refine tk 6 (v := ?_) rfl ?_ ?_
   rotate_left
   ·intro w; go_simp; with_reducible rfl
   refine tk 8 (v := ?_) rfl ?_ ?_
   rotate_left
   ·intro w; go_simp; with_reducible rfl
   refine wpAny_ready (rs := [2, 7]) (by kernel_rfl) (by simp) ?_
   refine AllReady.cons rfl (fun K hK => ?_) ?_
   ·go_simp
    refine hK _ _ ?_
    clear hK K
    refine tk 3 (v := ?_) rfl ?_ ?_
    rotate_left
    ·intro w; go_simp; with_reducible rfl
    refine wpAny_ready (rs := [5, 7]) (by kernel_rfl) (by simp) ?_
    refine AllReady.cons rfl (fun K hK => ?_) ?_
    ·go_simp
     refine (HBkt.out _).mono ?_
     rintro e w' ⟨rfl, h9⟩
     subst w'
     refine hK _ _ ?_
     clear hK K
     refine wpAny_ready (rs := [7]) (by kernel_rfl) (by simp) ?_
     refine AllReady.cons rfl (fun K hK => ?_) ?_
     ·go_simp
      refine hK _ _ ?_
      clear hK K
      refine tk 9 (v := ?_) rfl ?_ ?_
      rotate_left
      ·intro w; go_simp; with_reducible rfl
      refine tk 10 (v := ?_) rfl ?_ ?_
      rotate_left
      ·intro w; go_simp; with_reducible rfl
      refine wpAny_ready (rs := [11]) (by kernel_rfl) (by simp) ?_
      refine AllReady.cons rfl (fun K hK => ?_) ?_
      ·go_simp
       refine hK _ _ ?_
       clear hK K
       refine wpAny_ready (rs := [12]) (by kernel_rfl) (by simp) ?_
       refine AllReady.cons rfl (fun K hK => ?_) ?_
       ·go_simp
        refine (HPut.out _ HBw.out).mono ?_
        rintro e w3 ⟨pa, pc, rfl, hS3, hb3⟩
        rw [HN2.out.symm] at hS3 ⊢
        have HS3 := Lib.hid hS3
        have HB3 := Lib.hid (HBd.out.trans (hb3.mono HBd.out.size))
        clear hS3 hb3
        refine hK _ _ ?_
        clear hK K
        refine wpAny_ready (rs := [13]) (by kernel_rfl) (by simp) ?_
        refine AllReady.cons rfl (fun K hK => ?_) ?_
        ·go_simp
         refine hK _ _ ?_
         clear hK K
         refine wpAny_done (by kernel_rfl) ?_ _
         go_wp2_with fail
         all_goals go_roundw
         case rel => exact ⟨k + 1, pa, n2, pc, by go_num, by omega, rfl, by omega, HN2.out, HS3.out, HB3.out⟩
         case measure => simp [intOf]; try omega
        exact AllReady.nil
       exact AllReady.nil
      exact AllReady.nil
     exact AllReady.nil
    refine AllReady.cons rfl (fun K hK => ?_) ?_
    ·go_simp
     refine hK _ _ ?_
     clear hK K
     refine tk 9 (v := ?_) rfl ?_ ?_
     rotate_left
     ·intro w; go_simp; with_reducible rfl
     refine tk 10 (v := ?_) rfl ?_ ?_
     rotate_left
     ·intro w; go_simp; with_reducible rfl
     refine wpAny_ready (rs := [5, 11]) (by kernel_rfl) (by simp) ?_
     refine AllReady.cons rfl (fun K hK => ?_) ?_
     ·go_simp
      refine (HBkt.out _).mono ?_
      rintro e w' ⟨rfl, h9⟩
      subst w'
      refine hK _ _ ?_
      clear hK K
      refine wpAny_ready (rs := [11]) (by kernel_rfl) (by simp) ?_
      refine AllReady.cons rfl (fun K hK => ?_) ?_
      ·go_simp
       refine hK _ _ ?_
       clear hK K
       refine wpAny_ready (rs := [12]) (by kernel_rfl) (by simp) ?_
       refine AllReady.cons rfl (fun K hK => ?_) ?_
       ·go_simp
        refine (HPut.out _ HBw.out).mono ?_
        rintro e w3 ⟨pa, pc, rfl, hS3, hb3⟩
        rw [HN2.out.symm] at hS3 ⊢
        have HS3 := Lib.hid hS3
        have HB3 := Lib.hid (HBd.out.trans (hb3.mono HBd.out.size))
        clear hS3 hb3
        refine hK _ _ ?_
        clear hK K
        refine wpAny_ready (rs := [13]) (by kernel_rfl) (by simp) ?_
        refine AllReady.cons rfl (fun K hK => ?_) ?_
        ·go_simp
         refine hK _ _ ?_
         clear hK K
         refine wpAny_done (by kernel_rfl) ?_ _
         go_wp2_with fail
         all_goals go_roundw
         case rel => exact ⟨k + 1, pa, n2, pc, by go_num, by omega, rfl, by omega, HN2.out, HS3.out, HB3.out⟩
         case measure => simp [intOf]; try omega
        exact AllReady.nil
       exact AllReady.nil
      exact AllReady.nil
     refine AllReady.cons rfl (fun K hK => ?_) ?_
     ·go_simp
      refine hK _ _ ?_
      clear hK K
      refine wpAny_ready (rs := [5]) (by kernel_rfl) (by simp) ?_
      refine AllReady.cons rfl (fun K hK => ?_) ?_
      ·go_simp
       refine (HBkt.out _).mono ?_
       rintro e w' ⟨rfl, h9⟩
       subst w'
       refine hK _ _ ?_
       clear hK K
       refine wpAny_ready (rs := [12]) (by kernel_rfl) (by simp) ?_
       refine AllReady.cons rfl (fun K hK => ?_) ?_
       ·go_simp
        refine (HPut.out _ HBw.out).mono ?_
        rintro e w3 ⟨pa, pc, rfl, hS3, hb3⟩
        rw [HN2.out.symm] at hS3 ⊢
        have HS3 := Lib.hid hS3
        have HB3 := Lib.hid (HBd.out.trans (hb3.mono HBd.out.size))
        clear hS3 hb3
        refine hK _ _ ?_
        clear hK K
        refine wpAny_ready (rs := [13]) (by kernel_rfl) (by simp) ?_
        refine AllReady.cons rfl (fun K hK => ?_) ?_
        ·go_simp
         refine hK _ _ ?_
         clear hK K
         refine wpAny_done (by kernel_rfl) ?_ _
         go_wp2_with fail
         all_goals go_roundw
         case rel => exact ⟨k + 1, pa, n2, pc, by go_num, by omega, rfl, by omega, HN2.out, HS3.out, HB3.out⟩
         case measure => simp [intOf]; try omega
        exact AllReady.nil
       exact AllReady.nil
      exact AllReady.nil
     exact AllReady.nil
    exact AllReady.nil
   refine AllReady.cons rfl (fun K hK => ?_) ?_
   ·go_simp
    refine hK _ _ ?_
    clear hK K
    refine tk 9 (v := ?_) rfl ?_ ?_
    rotate_left
    ·intro w; go_simp; with_reducible rfl
    refine tk 10 (v := ?_) rfl ?_ ?_
    rotate_left
    ·intro w; go_simp; with_reducible rfl
    refine wpAny_ready (rs := [2, 11]) (by kernel_rfl) (by simp) ?_
    refine AllReady.cons rfl (fun K hK => ?_) ?_
    ·go_simp
     refine hK _ _ ?_
     clear hK K
     refine tk 3 (v := ?_) rfl ?_ ?_
     rotate_left
     ·intro w; go_simp; with_reducible rfl
     refine wpAny_ready (rs := [5, 11]) (by kernel_rfl) (by simp) ?_
     refine AllReady.cons rfl (fun K hK => ?_) ?_
     ·go_simp
      refine (HBkt.out _).mono ?_
      rintro e w' ⟨rfl, h9⟩
      subst w'
      refine hK _ _ ?_
      clear hK K
      refine wpAny_ready (rs := [11]) (by kernel_rfl) (by simp) ?_
      refine AllReady.cons rfl (fun K hK => ?_) ?_
      ·go_simp
       refine hK _ _ ?_
       clear hK K
       refine wpAny_ready (rs := [12]) (by kernel_rfl) (by simp) ?_
       refine AllReady.cons rfl (fun K hK => ?_) ?_
       ·go_simp
        refine (HPut.out _ HBw.out).mono ?_
        rintro e w3 ⟨pa, pc, rfl, hS3, hb3⟩
        rw [HN2.out.symm] at hS3 ⊢
        have HS3 := Lib.hid hS3
        have HB3 := Lib.hid (HBd.out.trans (hb3.mono HBd.out.size))
        clear hS3 hb3
        refine hK _ _ ?_
        clear hK K
        refine wpAny_ready (rs := [13]) (by kernel_rfl) (by simp) ?_
        refine AllReady.cons rfl (fun K hK => ?_) ?_
        ·go_simp
         refine hK _ _ ?_
         clear hK K
         refine wpAny_done (by kernel_rfl) ?_ _
         go_wp2_with fail
         all_goals go_roundw
         case rel => exact ⟨k + 1, pa, n2, pc, by go_num, by omega, rfl, by omega, HN2.out, HS3.out, HB3.out⟩
         case measure => simp [intOf]; try omega
        exact AllReady.nil
       exact AllReady.nil
      exact AllReady.nil
     refine AllReady.cons rfl (fun K hK => ?_) ?_
     ·go_simp
      refine hK _ _ ?_
      clear hK K
      refine wpAny_ready (rs := [5]) (by kernel_rfl) (by simp) ?_
      refine AllReady.cons rfl (fun K hK => ?_) ?_
      ·go_simp
       refine (HBkt.out _).mono ?_
       rintro e w' ⟨rfl, h9⟩
       subst w'
       refine hK _ _ ?_
       clear hK K
       refine wpAny_ready (rs := [12]) (by kernel_rfl) (by simp) ?_
       refine AllReady.cons rfl (fun K hK => ?_) ?_
       ·go_simp
        refine (HPut.out _ HBw.out).mono ?_
        rintro e w3 ⟨pa, pc, rfl, hS3, hb3⟩
        rw [HN2.out.symm] at hS3 ⊢
        have HS3 := Lib.hid hS3
        have HB3 := Lib.hid (HBd.out.trans (hb3.mono HBd.out.size))
        clear hS3 hb3
        refine hK _ _ ?_
        clear hK K
        refine wpAny_ready (rs := [13]) (by kernel_rfl) (by simp) ?_
        refine AllReady.cons rfl (fun K hK => ?_) ?_
        ·go_simp
         refine hK _ _ ?_
         clear hK K
         refine wpAny_done (by kernel_rfl) ?_ _
         go_wp2_with fail
         all_goals go_roundw
         case rel => exact ⟨k + 1, pa, n2, pc, by go_num, by omega, rfl, by omega, HN2.out, HS3.out, HB3.out⟩
         case measure => simp [intOf]; try omega
        exact AllReady.nil
       exact AllReady.nil
      exact AllReady.nil
     exact AllReady.nil
    refine AllReady.cons rfl (fun K hK => ?_) ?_
    ·go_simp
     refine hK _ _ ?_
     clear hK K
     refine wpAny_ready (rs := [2]) (by kernel_rfl) (by simp) ?_
     refine AllReady.cons rfl (fun K hK => ?_) ?_
     ·go_simp
      refine hK _ _ ?_
      clear hK K
      refine tk 3 (v := ?_) rfl ?_ ?_
      rotate_left
      ·intro w; go_simp; with_reducible rfl
      refine wpAny_ready (rs := [5]) (by kernel_rfl) (by simp) ?_
      refine AllReady.cons rfl (fun K hK => ?_) ?_
      ·go_simp
       refine (HBkt.out _).mono ?_
       rintro e w' ⟨rfl, h9⟩
       subst w'
       refine hK _ _ ?_
       clear hK K
       refine wpAny_ready (rs := [12]) (by kernel_rfl) (by simp) ?_
       refine AllReady.cons rfl (fun K hK => ?_) ?_
       ·go_simp
        refine (HPut.out _ HBw.out).mono ?_
        rintro e w3 ⟨pa, pc, rfl, hS3, hb3⟩
        rw [HN2.out.symm] at hS3 ⊢
        have HS3 := Lib.hid hS3
        have HB3 := Lib.hid (HBd.out.trans (hb3.mono HBd.out.size))
        clear hS3 hb3
        refine hK _ _ ?_
        clear hK K
        refine wpAny_ready (rs := [13]) (by kernel_rfl) (by simp) ?_
        refine AllReady.cons rfl (fun K hK => ?_) ?_
        ·go_simp
         refine hK _ _ ?_
         clear hK K
         refine wpAny_done (by kernel_rfl) ?_ _
         go_wp2_with fail
         all_goals go_roundw
         case rel => exact ⟨k + 1, pa, n2, pc, by go_num, by omega, rfl, by omega, HN2.out, HS3.out, HB3.out⟩
         case measure => simp [intOf]; try omega
        exact AllReady.nil
       exact AllReady.nil
      exact AllReady.nil
     exact AllReady.nil
    exact AllReady.nil
   exact AllReady.nil
  ·obtain rfl : k = len := by omega
   obtain ⟨V, hV, hXV, hOV, hBV⟩ := store2h (.int .i64 ((f : Int) - 1)) (.slice oa ol oc) hXr3
   obtain ⟨t0, t1⟩ := cl2 hXr3
   obtain ⟨f0, f1⟩ := cz2 hXr3
   obtain ⟨p0, p1⟩ := cl2 hXV
   have HSV := Lib.hid (slC_bin_apart HO.out hXr3 hOV)
   have HBV : Hid (Below w.heap.size w V) := hBV _ _ (HB0.out.trans (HB.out.mono HB0.out.size)) (by omega)
   clear hX3 hXr3 hXV hOV hBV
   go_wp2_with fail
   refine bodyPost_ret (v := .tuple #[.agg #[.int .i64 ((f : Int) - 1), .slice oa ol oc], .int .i64 0]) (by simp [results, Tryz.f71, go_sem, p0, p1]) rfl ?_
   rw [← HEn.out]
   unfold HistPost
   rw [← HOl.out]
   exact ⟨oa, oc, rfl, HSV.out, HBV.out⟩
end Go.Proofs.YtcbbenncdainfaaGreatDoor

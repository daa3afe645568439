/- The reference of layer 9: put. Printed by gen_df.py. -/
import Derived.Test.YtcbbenncdainfaaGreatDoorYDH
import Derived.Test.YtcbbenncdainfaaGreatDoorYRP
namespace Go.Proofs.YtcbbenncdainfaaGreatDoor
open Go Go.RowKit Go.Shelf
theorem take_bin (a : Option Addr) (len cap m : Nat) (w : World) (h : m ≤ cap) : (Instr.slice 29 (.slice a len cap) none (some (.int .i64 (m : Int))) none).run Tryz.prog w = .ok (.slice a m cap) w := by
 have hz := dropA_zero a cap 2
 unfold dropA at hz
 have hs : (sizeOf 123).run Tryz.prog w = .ok 2 w := by kernel_rfl
 have he : Tryz.prog.elem 29 = 123 := by kernel_rfl
 rw [run_slice_h (t := 29) (a := a) (len := len) (cap := cap) (w := w) (ht := by rw [he]; exact und_bin) (kh := .i64) (h := (m : Int)) (by omega) (by omega), he, hs]
 simp only [Result.andThen, sliced, Int.toNat_natCast, Nat.sub_zero, hz]
theorem from_bin (a : Option Addr) (len cap k : Nat) (w : World) (h : k ≤ len) : (Instr.slice 29 (.slice a len cap) (some (.int .i64 (k : Int))) none none).run Tryz.prog w = .ok (.slice (dropA a cap k 2) (len - k) (cap - k)) w := by
 have hs : (sizeOf 123).run Tryz.prog w = .ok 2 w := by kernel_rfl
 have he : Tryz.prog.elem 29 = 123 := by kernel_rfl
 rw [run_slice_l (t := 29) (a := a) (len := len) (cap := cap) (w := w) (ht := by rw [he]; exact und_bin) (kl := .i64) (l := (k : Int)) (by omega) (by omega), he, hs]
 simp only [Result.andThen, sliced, Int.toNat_natCast, dropA]
def BinsPost (m : List (Int × Int)) (w : World) (e : Ending) (w' : World) : Prop := ∃ a cap, e = .returned (.slice a m.length cap) ∧ SlC encB 2 w'.heap.size w' a m.length cap m ∧ Below w.heap.size w w'
theorem bins_own {w w' : World} {base n : Nat} {v : Value} {m : List (Int × Int)} (h : w'.ownsRow base 123 2 v n (m.flatMap encB)) (hn : n = m.length) (hB : Below w.heap.size w w') : BinsPost m w (.returned v) w' := by
 subst hn
 obtain ⟨a', cap', hv, hS, -⟩ := slC_of_owns (enc := encB) (fun _ => rfl) h
 exact ⟨a', cap', by rw [hv], hS, hB⟩
attribute [-go_sem] Builtin.append_ run_slice_any run_slice_h run_slice_l
set_option maxRecDepth 100000 in
set_option maxHeartbeats 4000000 in
theorem ref09_put_any (p n : Int) (l : List (Int × Int)) (a : Option Addr) (len cap : Nat) (w : World) (hL : SlC encB 2 w.heap.size w a len cap l) (hlen : len ≤ 2000) (hn : U64 n) (hU : BinsU l) :
  Calls Tryz.prog 73 #[.slice a len cap, .int .i64 p, .int .u64 n] w (BinsPost (refPut l p n) w) := by
 have hll := hL.1.1
 have HL := Lib.hid hL
 have HLL := Lib.hid hll
 have HU := Lib.hid hU
 have hcap : len ≤ cap := hL.2.1
 have hn0 := hn.1
 have hn1 := hn.2
 clear hL hll hU
 obtain ⟨R, hR⟩ : ∃ R, binPut l p n = R := ⟨_, rfl⟩
 have HR := Lib.hid hR
 obtain ⟨R2, hR2⟩ : ∃ R, refPut l p n = R := ⟨_, rfl⟩
 rw [hR2]
 have HR2 : Hid ((n = 0 → R2 = l) ∧ (¬ n = 0 → R2 = R)) := ⟨fun h => by rw [← hR2]; exact if_pos h, fun h => by rw [← hR2, ← hR]; exact if_neg h⟩
 clear hR hR2
 go_enter Tryz.func73, Tryz.ntmps73
 go_wp2_with fail
 go_loopw [7] (fun i wr => ∃ k : Nat, i = .int .i64 k ∧ k ≤ len ∧ Hid (R = l.take k ++ binPut (l.drop k) p n) ∧ Below w.heap.size w wr) (fun i _ => len - (intOf i).toNat)
 case atStart => exact ⟨0, rfl, Nat.zero_le _, by rw [Hid, List.take_zero, List.drop_zero, List.nil_append, HR.out], Below.refl _ _⟩
 case round =>
  obtain ⟨k, rfl, hk, HK, hB⟩ := hrel
  have HB := Lib.hid hB
  have HLr := Lib.hid (HL.out.go hB)
  have htk := fun W => take_bin a len cap k W (by omega)
  have hfr := fun W => from_bin a len cap k W hk
  have i0 : (0 : Int) ≤ (k : Int) := Int.natCast_nonneg _
  have HLn := Lib.hid hlen
  by_cases hlt : k < len
  ·obtain ⟨x, hx⟩ : ∃ x, l[k]? = some x := ⟨_, List.getElem?_eq_getElem (by rw [← HLL.out]; exact hlt)⟩
   obtain ⟨b, off, rfl, hbb, hc⟩ := HLr.out.1.2 k x hx
   have c0 : wr.cell? ⟨b, off + k * 2, none⟩ = some (.int .i64 x.1) := hc 0 (by omega)
   have c1 : wr.cell? ⟨b, off + k * 2 + 1, none⟩ = some (.int .u64 x.2) := hc 1 (by omega)
   have HBB := Lib.hid hbb
   have i1 : (k : Int) < (len : Int) := by omega
   have HD := Lib.hid (drop_cons' hx)
   have HX := Lib.hid hx
   obtain ⟨x1, x2⟩ := x
   dsimp only at c0 c1
   clear hc hx hB hbb
   by_cases hxn : x1 < p
   ·have HS : Hid (R = l.take (k + 1) ++ binPut (l.drop (k + 1)) p n) := by
     rw [Hid, HK.out, HD.out, binPut_less hxn, take_snoc' HX.out, List.append_assoc]
     rfl
    go_wp2_with fail
    go_roundw
    case rel => exact ⟨k + 1, by go_num, by omega, HS.out, HB.out⟩
    case measure => simp [intOf]; omega
   ·by_cases hn0' : n = 0
    ·have HE : Hid (R2 = l) := HR2.out.1 hn0'
     subst hn0'
     go_wp2_with fail
     go_ret
     rw [HE.out]
     unfold BinsPost
     rw [← HLL.out]
     exact ⟨_, cap, rfl, HLr.out, HB.out⟩
    ·have t0 : (n == 0) = false := by rw [beq_eq_false_iff_ne]; exact hn0'
     have HE2 : Hid (R2 = R) := HR2.out.2 hn0'
     obtain ⟨v1, w1, hap1, hO1, hB1, hz1, hk1, -⟩ := append_elems Tryz.prog (cap := cap) 29 und_bin info_bin rfl (by decide) (World.ownsRow_nil wr wr.heap.size 123 2) (Below.refl wr.heap.size wr) (Nat.le_refl _) (Nat.le_refl _) (fun _ => rfl) (HLr.out.take k hk).1 one_bin (by omega) (by omega) (by decide)
     rw [List.nil_append, Nat.zero_add] at hO1
     by_cases hxe : x1 = p
     ·have u2 : U64 x2 := HU.out (x1, x2) (List.mem_of_getElem? HX.out)
      have HE : Hid (R2 = l.take k ++ (p, satI x2 n) :: l.drop (k + 1)) := by rw [Hid, HE2.out, HK.out, HD.out, hxe, binPut_eq]
      have HP : Hid (∀ W, Calls Tryz.prog 72 #[.int .u64 x2, .int .u64 n] W fun e w' => e = .returned (.int .u64 (satI x2 n)) ∧ w' = W) := fun W => ref08_Plus_any x2 n W u2 ⟨hn0, hn1⟩
      have hfr1 : ∀ W, (Instr.slice 29 (.slice (some ⟨b, off, none⟩) len cap) (some (.int .i64 (IntKind.i64.wrap ((k : Int) + 1)))) none none).run Tryz.prog W = .ok (.slice (dropA (some ⟨b, off, none⟩) cap (k + 1) 2) (len - (k + 1)) (cap - (k + 1))) W := fun W => by rw [show IntKind.i64.wrap ((k : Int) + 1) = ((k + 1 : Nat) : Int) from by rw [IntWalk.i64_in _ (by omega)]; rfl]; exact from_bin (some ⟨b, off, none⟩) len cap (k + 1) W (by omega)
      have c1' : w1.cell? ⟨b, off + k * 2 + 1, none⟩ = some (.int .u64 x2) := (hB1.cell (p := ⟨b, off + k * 2 + 1, none⟩) HBB.out).trans c1
      have c0' : w1.cell? ⟨b, off + k * 2, none⟩ = some (.int .i64 x1) := (hB1.cell (p := ⟨b, off + k * 2, none⟩) HBB.out).trans c0
      generalize satI x2 n = s at HE HP
      obtain ⟨g2, c2, w2, hap2, hO2, hB2, hz2, -, -⟩ := append_one Tryz.prog 29 und_bin info_bin rfl (by decide) (W := w1.drew) (ownsN_go hO1 (Below.refl _ _).drew) hB1.drew (Nat.le_refl _) hz1 (encB (p, s)) rfl (one_bin _) (by omega) (by decide)
      have hap2 : (Builtin.append_ #[29, 29] 29 #[v1, .slice (some ⟨w1.heap.size, 0, none⟩) 1 1]).run Tryz.prog (w1.alloc (.cells #[.int .i64 p, .int .u64 s] 123)).drew = .ok (.slice (some ⟨g2, 0, none⟩) (k + 1) c2) w2 := hap2
      obtain ⟨v3, w3, hap3, hO3, hB3, hz3, -, -⟩ := append_elems Tryz.prog (cap := cap - (k + 1)) 29 und_bin info_bin rfl (by decide) hO2 hB2 (Nat.le_refl _) (Nat.le_of_lt (Nat.lt_of_le_of_lt hz1 hz2)) (fun _ => rfl) (((HLr.out.below hB2).mono hB2.size).drop (k + 1) hlt).1 one_bin (by omega) (by omega) (by decide)
      have HO3 : Hid (w3.ownsRow wr.heap.size 123 2 v3 (k + 1 + (len - (k + 1))) (((l.take k).flatMap encB ++ encB (p, s)) ++ (l.drop (k + 1)).flatMap encB)) := hO3
      have HB3 := Lib.hid hB3
      have hxe' : (x1 == p) = true := by rw [beq_iff_eq]; exact hxe
      subst hxe
      clear hO1 hO2 hO3 hB1 hB2 hB3 hk1
      go_wp2_with fail
      refine wp_region_any (by kernel_rfl) ?_
      change wpAny _ _ _ _ _ _ _ (World.drew _)
      refine tk 0 (v := ?_) rfl ?_ ?_
      rotate_left
      ·intro w; go_simp; with_reducible rfl
      refine tk 1 (v := ?_) rfl ?_ ?_
      rotate_left
      ·intro w; go_simp; with_reducible rfl
      refine tk 2 (v := ?_) rfl ?_ ?_
      rotate_left
      ·intro w; go_simp; with_reducible rfl
      refine tk 3 (v := ?_) rfl ?_ ?_
      rotate_left
      ·intro w; go_simp; with_reducible rfl
      refine tk 4 (v := ?_) rfl ?_ ?_
      rotate_left
      ·intro w; go_simp; with_reducible rfl
      refine tk 5 (v := ?_) rfl ?_ ?_
      rotate_left
      ·intro w; go_simp; with_reducible rfl
      refine tk 7 (v := ?_) rfl ?_ ?_
      rotate_left
      ·intro w; go_simp; with_reducible rfl
      refine tk 12 (v := ?_) rfl ?_ ?_
      rotate_left
      ·intro w; go_simp; with_reducible rfl
      refine tk 13 (v := ?_) rfl ?_ ?_
      rotate_left
      ·intro w; go_simp; with_reducible rfl
      refine tk 14 (v := ?_) rfl ?_ ?_
      rotate_left
      ·intro w; go_simp; with_reducible rfl
      refine tk 15 (v := ?_) rfl ?_ ?_
      rotate_left
      ·intro w; go_simp; with_reducible rfl
      refine wpAny_ready (rs := [6]) (by kernel_rfl) (by simp) ?_
      refine AllReady.cons rfl (fun K hK => ?_) ?_
      ·go_simp
       refine hK _ _ ?_
       clear hK K
       refine wpAny_ready (rs := [8]) (by kernel_rfl) (by simp) ?_
       refine AllReady.cons rfl (fun K hK => ?_) ?_
       ·go_simp
        refine (HP.out _).mono ?_
        rintro e w' ⟨rfl, h9⟩
        subst w'
        refine hK _ _ ?_
        clear hK K
        refine tk 9 (v := ?_) rfl ?_ ?_
        rotate_left
        ·intro w; go_simp; with_reducible rfl
        refine wpAny_ready (rs := [10]) (by kernel_rfl) (by simp) ?_
        refine AllReady.cons rfl (fun K hK => ?_) ?_
        ·go_simp
         refine hK _ _ ?_
         clear hK K
         refine wpAny_ready (rs := [11]) (by kernel_rfl) (by simp) ?_
         refine AllReady.cons rfl (fun K hK => ?_) ?_
         ·go_simp
          refine hK _ _ ?_
          clear hK K
          refine wpAny_ready (rs := [16]) (by kernel_rfl) (by simp) ?_
          refine AllReady.cons rfl (fun K hK => ?_) ?_
          ·go_simp
           refine hK _ _ ?_
           clear hK K
           refine wpAny_ready (rs := [17]) (by kernel_rfl) (by simp) ?_
           refine AllReady.cons rfl (fun K hK => ?_) ?_
           ·go_simp
            refine hK _ _ ?_
            clear hK K
            refine wpAny_done (by kernel_rfl) ?_ _
            go_wp2_with fail
            go_ret
            have HF : BinsPost R2 wr (.returned v3) w3 := bins_own (w := wr) (m := R2) (by have h1 := HO3.out; rw [HE.out, List.flatMap_append, List.flatMap_cons, ← List.append_assoc]; exact h1) (by have := HLL.out; rw [HE.out, List.length_append, List.length_take, List.length_cons, List.length_drop]; omega) HB3.out
            obtain ⟨a', cap', h1, h2, h3⟩ := HF
            exact ⟨a', cap', h1, h2, HB.out.trans (h3.mono HB.out.size)⟩
           exact AllReady.nil
          exact AllReady.nil
         exact AllReady.nil
        exact AllReady.nil
       exact AllReady.nil
      exact AllReady.nil
     ·have t1 : (x1 == p) = false := by rw [beq_eq_false_iff_ne]; exact hxe
      have HE : Hid (R2 = l.take k ++ (p, n) :: l.drop k) := by rw [Hid, HE2.out, HK.out, HD.out, binPut_more hxn hxe]
      have c0' : w1.cell? ⟨b, off + k * 2, none⟩ = some (.int .i64 x1) := (hB1.cell (p := ⟨b, off + k * 2, none⟩) HBB.out).trans c0
      obtain ⟨g2, c2, w2, hap2, hO2, hB2, hz2, -, -⟩ := append_one Tryz.prog 29 und_bin info_bin rfl (by decide) (W := w1.drew) (ownsN_go hO1 (Below.refl _ _).drew) hB1.drew (Nat.le_refl _) hz1 (encB (p, n)) rfl (one_bin _) (by omega) (by decide)
      have hap2 : (Builtin.append_ #[29, 29] 29 #[v1, .slice (some ⟨w1.heap.size, 0, none⟩) 1 1]).run Tryz.prog (w1.alloc (.cells #[.int .i64 p, .int .u64 n] 123)).drew = .ok (.slice (some ⟨g2, 0, none⟩) (k + 1) c2) w2 := hap2
      obtain ⟨v3, w3, hap3, hO3, hB3, hz3, -, -⟩ := append_elems Tryz.prog (cap := cap - k) 29 und_bin info_bin rfl (by decide) hO2 hB2 (Nat.le_refl _) (Nat.le_of_lt (Nat.lt_of_le_of_lt hz1 hz2)) (fun _ => rfl) (((HLr.out.below hB2).mono hB2.size).drop k hk).1 one_bin (by omega) (by omega) (by decide)
      have HO3 : Hid (w3.ownsRow wr.heap.size 123 2 v3 (k + 1 + (len - k)) (((l.take k).flatMap encB ++ encB (p, n)) ++ (l.drop k).flatMap encB)) := hO3
      have HB3 := Lib.hid hB3
      clear hO1 hO2 hO3 hB1 hB2 hB3 hk1
      go_wp2_with fail
      refine wp_region_any (by kernel_rfl) ?_
      change wpAny _ _ _ _ _ _ _ (World.drew _)
      refine tk 0 (v := ?_) rfl ?_ ?_
      rotate_left
      ·intro w; go_simp; with_reducible rfl
      refine tk 1 (v := ?_) rfl ?_ ?_
      rotate_left
      ·intro w; go_simp; with_reducible rfl
      refine tk 2 (v := ?_) rfl ?_ ?_
      rotate_left
      ·intro w; go_simp; with_reducible rfl
      refine tk 3 (v := ?_) rfl ?_ ?_
      rotate_left
      ·intro w; go_simp; with_reducible rfl
      refine tk 6 (v := ?_) rfl ?_ ?_
      rotate_left
      ·intro w; go_simp; with_reducible rfl
      refine tk 7 (v := ?_) rfl ?_ ?_
      rotate_left
      ·intro w; go_simp; with_reducible rfl
      refine tk 8 (v := ?_) rfl ?_ ?_
      rotate_left
      ·intro w; go_simp; with_reducible rfl
      refine wpAny_ready (rs := [4]) (by kernel_rfl) (by simp) ?_
      refine AllReady.cons rfl (fun K hK => ?_) ?_
      ·go_simp
       refine hK _ _ ?_
       clear hK K
       refine wpAny_ready (rs := [5]) (by kernel_rfl) (by simp) ?_
       refine AllReady.cons rfl (fun K hK => ?_) ?_
       ·go_simp
        refine hK _ _ ?_
        clear hK K
        refine wpAny_ready (rs := [9]) (by kernel_rfl) (by simp) ?_
        refine AllReady.cons rfl (fun K hK => ?_) ?_
        ·go_simp
         refine hK _ _ ?_
         clear hK K
         refine wpAny_ready (rs := [10]) (by kernel_rfl) (by simp) ?_
         refine AllReady.cons rfl (fun K hK => ?_) ?_
         ·go_simp
          refine hK _ _ ?_
          clear hK K
          refine wpAny_done (by kernel_rfl) ?_ _
          go_wp2_with fail
          go_ret
          have HF : BinsPost R2 wr (.returned v3) w3 := bins_own (w := wr) (m := R2) (by have h1 := HO3.out; rw [HE.out, List.flatMap_append, List.flatMap_cons, ← List.append_assoc]; exact h1) (by have := HLL.out; rw [HE.out, List.length_append, List.length_take, List.length_cons, List.length_drop]; omega) HB3.out
          obtain ⟨a', cap', h1, h2, h3⟩ := HF
          exact ⟨a', cap', h1, h2, HB.out.trans (h3.mono HB.out.size)⟩
         exact AllReady.nil
        exact AllReady.nil
       exact AllReady.nil
      exact AllReady.nil
  ·obtain rfl : k = len := by omega
   have HE : Hid (R = l.take k ++ (p, n) :: l.drop k) := by
    rw [Hid, HK.out, List.drop_of_length_le (by rw [← HLL.out]; exact Nat.le_refl _)]
    rfl
   clear hB
   by_cases hn0' : n = 0
   ·have HE9 : Hid (R2 = l) := HR2.out.1 hn0'
    subst hn0'
    go_wp2_with fail
    go_ret
    rw [HE9.out]
    unfold BinsPost
    rw [← HLL.out]
    exact ⟨_, cap, rfl, HLr.out, HB.out⟩
   ·have t0 : (n == 0) = false := by rw [beq_eq_false_iff_ne]; exact hn0'
    have HE2 : Hid (R2 = R) := HR2.out.2 hn0'
    rw [← HE2.out] at HE
    obtain ⟨v1, w1, hap1, hO1, hB1, hz1, hk1, -⟩ := append_elems Tryz.prog (cap := cap) 29 und_bin info_bin rfl (by decide) (World.ownsRow_nil wr wr.heap.size 123 2) (Below.refl wr.heap.size wr) (Nat.le_refl _) (Nat.le_refl _) (fun _ => rfl) (HLr.out.take k hk).1 one_bin (by omega) (by omega) (by decide)
    rw [List.nil_append, Nat.zero_add] at hO1
    obtain ⟨g2, c2, w2, hap2, hO2, hB2, hz2, -, -⟩ := append_one Tryz.prog 29 und_bin info_bin rfl (by decide) (W := w1.drew) (ownsN_go hO1 (Below.refl _ _).drew) hB1.drew (Nat.le_refl _) hz1 (encB (p, n)) rfl (one_bin _) (by omega) (by decide)
    have hap2 : (Builtin.append_ #[29, 29] 29 #[v1, .slice (some ⟨w1.heap.size, 0, none⟩) 1 1]).run Tryz.prog (w1.alloc (.cells #[.int .i64 p, .int .u64 n] 123)).drew = .ok (.slice (some ⟨g2, 0, none⟩) (k + 1) c2) w2 := hap2
    obtain ⟨v3, w3, hap3, hO3, hB3, hz3, -, -⟩ := append_elems Tryz.prog (cap := cap - k) 29 und_bin info_bin rfl (by decide) hO2 hB2 (Nat.le_refl _) (Nat.le_of_lt (Nat.lt_of_le_of_lt hz1 hz2)) (fun _ => rfl) (((HLr.out.below hB2).mono hB2.size).drop k hk).1 one_bin (by omega) (by omega) (by decide)
    have HO3 : Hid (w3.ownsRow wr.heap.size 123 2 v3 (k + 1 + (k - k)) (((l.take k).flatMap encB ++ encB (p, n)) ++ (l.drop k).flatMap encB)) := hO3
    have HB3 := Lib.hid hB3
    clear hO1 hO2 hO3 hB1 hB2 hB3 hk1
    simp only [Nat.sub_self] at hap3 hfr
    go_wp2_with fail
    refine wp_region_any (by kernel_rfl) ?_
    change wpAny _ _ _ _ _ _ _ (World.drew _)
    refine tk 0 (v := ?_) rfl ?_ ?_
    rotate_left
    ·intro w; go_simp; with_reducible rfl
    refine tk 1 (v := ?_) rfl ?_ ?_
    rotate_left
    ·intro w; go_simp; with_reducible rfl
    refine tk 2 (v := ?_) rfl ?_ ?_
    rotate_left
    ·intro w; go_simp; with_reducible rfl
    refine tk 3 (v := ?_) rfl ?_ ?_
    rotate_left
    ·intro w; go_simp; with_reducible rfl
    refine tk 6 (v := ?_) rfl ?_ ?_
    rotate_left
    ·intro w; go_simp; with_reducible rfl
    refine tk 7 (v := ?_) rfl ?_ ?_
    rotate_left
    ·intro w; go_simp; with_reducible rfl
    refine tk 8 (v := ?_) rfl ?_ ?_
    rotate_left
    ·intro w; go_simp; with_reducible rfl
    refine wpAny_ready (rs := [4]) (by kernel_rfl) (by simp) ?_
    refine AllReady.cons rfl (fun K hK => ?_) ?_
    ·go_simp
     refine hK _ _ ?_
     clear hK K
     refine wpAny_ready (rs := [5]) (by kernel_rfl) (by simp) ?_
     refine AllReady.cons rfl (fun K hK => ?_) ?_
     ·go_simp
      refine hK _ _ ?_
      clear hK K
      refine wpAny_ready (rs := [9]) (by kernel_rfl) (by simp) ?_
      refine AllReady.cons rfl (fun K hK => ?_) ?_
      ·go_simp
       refine hK _ _ ?_
       clear hK K
       refine wpAny_ready (rs := [10]) (by kernel_rfl) (by simp) ?_
       refine AllReady.cons rfl (fun K hK => ?_) ?_
       ·go_simp
        refine hK _ _ ?_
        clear hK K
        refine wpAny_done (by kernel_rfl) ?_ _
        go_wp2_with fail
        go_ret
        have HF : BinsPost R2 wr (.returned v3) w3 := bins_own (w := wr) (m := R2) (by have h1 := HO3.out; rw [HE.out, List.flatMap_append, List.flatMap_cons, ← List.append_assoc]; exact h1) (by have := HLL.out; rw [HE.out, List.length_append, List.length_take, List.length_cons, List.length_drop]; omega) HB3.out
        obtain ⟨a', cap', h1, h2, h3⟩ := HF
        exact ⟨a', cap', h1, h2, HB.out.trans (h3.mono HB.out.size)⟩
       exact AllReady.nil
      exact AllReady.nil
     exact AllReady.nil
    exact AllReady.nil
end Go.Proofs.YtcbbenncdainfaaGreatDoor

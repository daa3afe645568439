/- The reference of layer 7: New, Place, Add, Of, Merge, Lower, Count, at registers that are right. Package hist: Merge. The references' answers in plain data: ranks, greater registers, sums of counters, counters lowered. No program in sight. The reference of layer 8: Add, Merge, Lower, at counters that are right. Printed by gen_de.py. -/
import Derived.Test.YtcbbenncdainfaaGreatDoorZDP
namespace Go.Proofs.YtcbbenncdainfaaGreatDoor
open Go Go.RowKit Go.Shelf
theorem ref07_isBits_ok (b : Nat) (h1 : 3 ≤ b) (h2 : b ≤ 8) (w : World) : Calls Tryz.prog 82 #[.int .i64 b] w fun e w' => e = .returned (.bool true) ∧ w' = w :=
 (ref07_isBits_any b w).mono fun e w' ⟨h3, h4⟩ => ⟨by rw [h3]; simp [isBitsB]; omega, h4⟩
theorem ref07_Right_ok (b : Nat) (r : List Nat) (w : World) (h1 : 3 ≤ b) (h2 : b ≤ 8) (hl : r.length = 2 ^ b) (hr : ∀ i, r.getD i 0 ≤ 65 - b) :
  Calls Tryz.prog 55 #[.agg #[.int .i64 b, .string (hlStr r)]] w fun e w' => e = .returned (.bool true) ∧ Below w.heap.size w w' :=
 (ref07_Right_any b (hlStr r) w).mono fun e w' h => ⟨by rw [h.1, hlRight_str b r h1 h2 hl hr], h.2⟩
def RegsPost (b : Nat) (r : List Nat) (w : World) (e : Ending) (w' : World) : Prop := e = .returned (.tuple #[.agg #[.int .i64 b, .string (hlStr r)], .int .i64 0]) ∧ Below w.heap.size w w'
theorem store2 {W : World} {b : Nat} {x y : Value} {t : TypeId} (u v : Value) (h : W.heap[b]? = some (.cells #[x, y] t (0, 0))) :
  ∃ V, (W.setCell ⟨b, 0, none⟩ u).setCell ⟨b, 1, none⟩ v = V ∧ V.heap[b]? = some (.cells #[u, v] t (0, 0)) ∧ (∀ n w0, Below n w0 W → n ≤ b → Below n w0 V) :=
 ⟨_, rfl, hSk (hSk h _) _, fun _ _ hb hn => (hb.setCell (p := ⟨b, 0, none⟩) hn _).setCell (p := ⟨b, 1, none⟩) hn _⟩
set_option maxRecDepth 100000 in
set_option maxHeartbeats 1000000 in
theorem ref07_New_any (b : Nat) (w : World) (h1 : 3 ≤ b) (h2 : b ≤ 8) : Calls Tryz.prog 91 #[.int .i64 b] w (RegsPost b (hlNone b) w) := by
 have hib := Lib.hid (fun w => ref07_isBits_ok b h1 h2 w)
 have hp : 2 ^ b ≤ 2 ^ 8 := Nat.pow_le_pow_right (by omega) h2
 have hw : IntKind.i64.wrap (2 ^ b) = ((2 ^ b : Nat) : Int) := by
  have h9 : ∀ n : Nat, n ≤ 256 → IntKind.i64.wrap (n : Int) = n := fun n h => IntWalk.i64_in _ (by omega)
  simpa using h9 (2 ^ b) hp
 unfold hlNone RegsPost
 generalize 2 ^ b = len at hp hw ⊢
 obtain ⟨W0, hW0, hX0, hB0, hs0⟩ := boxes1 w #[.int .i64 0, .string ⟨#[]⟩] 26
 obtain ⟨W1, hmk, hr1, hB1, hs1⟩ := make_u8 W0 len (by omega)
 have hX1 := (hB1.block _ (by omega)).trans hX0
 have hcv := str_cells (cap := len) hr1 (List.length_replicate ..)
 rw [hs0] at hmk hcv
 generalize hlStr (List.replicate len 0) = out at hcv ⊢
 obtain ⟨d0, d1⟩ := cl2 hX1
 obtain ⟨f0, f1⟩ := cz2 hX1
 obtain ⟨V, hV, hXV, hBV⟩ := store2 (.int .i64 b) (.string out) hX1
 obtain ⟨k0, k1⟩ := cl2 hXV
 have HB : Hid (Below w.heap.size w V) := hBV _ _ (hB0.trans (hB1.mono hB0.size)) (Nat.le_refl _)
 clear hp hX0 hX1 hr1 hB0 hB1 hs1 hXV hBV
 go_enter Tryz.func91, Tryz.ntmps91
 go_wp2_with (go_at_call 82; refine (hib.out _).mono ?_; rintro e w' ⟨rfl, rfl⟩)
 exact bodyPost_ret (v := .tuple #[.agg #[.int .i64 b, .string out], .int .i64 0]) (by simp [results, Tryz.f91, go_sem, k0, k1]) rfl ⟨rfl, HB.out⟩
set_option maxRecDepth 100000 in
set_option maxHeartbeats 1000000 in
theorem ref07_Place_any (b n : Nat) (w : World) (h1 : 3 ≤ b) (h2 : b ≤ 8) (hn : n < 2 ^ 64) : Calls Tryz.prog 76 #[.int .i64 b, .int .u64 n] w fun e w' => e = .returned (.tuple #[.int .i64 (hlAt b n : Nat), .int .i64 (hlRank b n : Nat)]) ∧ w' = w := by
 have hib := Lib.hid (fun w => ref07_isBits_ok b h1 h2 w)
 have H12 : Hid (3 ≤ b ∧ b ≤ 8) := ⟨h1, h2⟩
 have HN : Hid (n < 2 ^ 64) := hn
 have HA := Lib.hid (hlAt_lt b n h2 hn)
 have HAt : Hid (hlAt b n = n / 2 ^ (64 - b)) := rfl
 have HS := Lib.hid (fun k => at_step n k)
 have HD := Lib.hid (fun k => low_next b n k)
 have HS0 := Lib.hid (low_start b n (by omega))
 have HR1 := Lib.hid (fun k => rank_one b n k)
 have HR0 := Lib.hid (rank_none b n (by omega))
 have HDg : Hid (∀ j, n / 2 ^ j % 2 = 0 ∨ n / 2 ^ j % 2 = 1) := fun j => by have := Nat.mod_lt (n / 2 ^ j) (show 0 < 2 by omega); omega
 generalize hlAt b n = at_ at HA HAt ⊢
 generalize hlRank b n = rk at HR1 HR0 ⊢
 have ib : (b : Int) ≤ 8 := by omega
 have ib3 : (3 : Int) ≤ b := by omega
 clear hn
 go_enter Tryz.func76, Tryz.ntmps76
 go_wp2_with (go_at_call 82; refine (hib.out _).mono ?_; rintro e w' ⟨rfl, h9⟩; subst w')
 go_loopw [6, 7, 8] (fun av rv i wr => ∃ (k A R : Nat), i = .int .i64 ((63 : Int) - k) ∧ k ≤ 64 ∧ av = .int .i64 A ∧ rv = .int .i64 R ∧ A ≤ 255 ∧ R ≤ 70 ∧ Hid (k ≤ b → A = n / 2 ^ (64 - k) ∧ R = 1) ∧ Hid (b ≤ k → A = at_ ∧ R = 1 + (k - b) ∧ lowZ b n k) ∧ wr = w) (fun _ _ i _ => (intOf i + 1).toNat)
 case atStart => exact ⟨0, 0, 1, rfl, Nat.zero_le _, rfl, rfl, by omega, by omega, fun _ => ⟨(Nat.div_eq_of_lt HN.out).symm, rfl⟩, fun h => by have := H12.out.1; omega, rfl⟩
 case round =>
  obtain ⟨k, A, R, rfl, hk, rfl, rfl, hA, hR, H1, H2, rfl⟩ := hrel
  by_cases hlt : k < 64
  ·obtain ⟨j, hj⟩ : ∃ j : Nat, 63 - k = j := ⟨_, rfl⟩
   have e1 : (63 : Int) - (k : Int) = (j : Int) := by omega
   have hj63 : j ≤ 63 := by omega
   obtain ⟨d, hd⟩ : ∃ d, n / 2 ^ j % 2 = d := ⟨_, rfl⟩
   have hd2 : d ≤ 1 := by rcases HDg.out j with h | h <;> omega
   have HDd := Lib.hid hd
   have hdi : ((n : Int) / 2 ^ j % 2) = (d : Int) := by rw [← hd]; simp
   have hdt : ((n : Int) / 2 ^ j).tmod 2 = (d : Int) := by rw [Int.tmod_eq_emod_of_nonneg (Int.ediv_nonneg (by omega) (Int.le_of_lt (by exact Int.pow_pos (by decide))))]; exact hdi
   rw [e1]
   have HK := Lib.hid hj
   have j0 : (0 : Int) ≤ (j : Int) := by omega
   clear hd
   by_cases hb : k < b
   ·have g1 : (64 : Int) - (b : Int) ≤ (j : Int) := by omega
    have HB := Lib.hid hb
    have HL := Lib.hid hlt
    clear hb hlt hk
    go_wp2_with fail
    go_roundw
    case rel =>
     obtain ⟨a1, a2⟩ := H1.out (Nat.le_of_lt HB.out)
     have hs := HS.out k HL.out
     rw [HK.out, HDd.out, ← a1] at hs
     have hA2 : 2 * A + d ≤ 255 := by
      rw [← hs]
      have hb8 := H12.out.2
      have hbl := HB.out
      have hp : n < 2 ^ (64 - (k + 1)) * 2 ^ 8 := by
       refine Nat.lt_of_lt_of_le HN.out ?_
       rw [← Nat.pow_add]
       exact Nat.pow_le_pow_right (by omega) (by omega)
      have := Nat.div_lt_of_lt_mul hp
      omega
     refine ⟨k + 1, 2 * A + d, R, by first | go_num | (congr 1; omega), by have := HL.out; omega, by first | go_num | (congr 1; omega), rfl, hA2, hR, fun _ => ⟨hs.symm, a2⟩, fun h => ?_, by first | rfl | trivial⟩
     have hk1 : k + 1 = b := by have := HB.out; omega
     subst hk1
     exact ⟨by rw [← hs, HAt.out], by omega, HS0.out⟩
    case measure => simp [intOf]; try omega
   ·have g1 : ¬ (64 : Int) - (b : Int) ≤ (j : Int) := by omega
    have HB : Hid (b ≤ k) := by rw [Hid]; omega
    have HL := Lib.hid hlt
    obtain ⟨a1, a2, a3⟩ := H2.out (by omega)
    have HZ := Lib.hid a3
    rcases (by omega : d = 0 ∨ d = 1) with rfl | rfl
    ·have HNx := Lib.hid (HD.out k HB.out HL.out HZ.out (by rw [HK.out]; exact HDd.out))
     have HRk : Hid (A = at_ ∧ R = 1 + (k - b)) := ⟨a1, a2⟩
     have hR2 : R ≤ 69 := by have := H12.out.1; omega
     clear hb hlt hk a1 a2 a3
     go_wp2_with fail
     go_roundw
     case rel =>
      refine ⟨k + 1, A, R + 1, by first | go_num | (congr 1; omega), by have := HL.out; omega, rfl, by first | go_num | (congr 1; omega), hA, by omega, fun h => by have := HB.out; omega, fun _ => ⟨HRk.out.1, by have := HRk.out.2; have := HB.out; omega, HNx.out⟩, by first | rfl | trivial⟩
     case measure => simp [intOf]; try omega
    ·have HF := Lib.hid (HR1.out k HB.out HL.out HZ.out (by rw [HK.out]; exact HDd.out))
     have HRk : Hid (A = at_ ∧ R = 1 + (k - b)) := ⟨a1, a2⟩
     clear hb hlt hk a1 a2 a3
     go_wp2_with fail
     go_ret2
     exact ⟨by rw [HRk.out.1, HRk.out.2, HF.out]; rfl, rfl⟩
  ·obtain rfl : k = 64 := by omega
   obtain ⟨a1, a2, a3⟩ := H2.out (by have := H12.out.2; omega)
   have HF := Lib.hid (HR0.out a3)
   have HRk : Hid (A = at_ ∧ R = 1 + (64 - b)) := ⟨a1, a2⟩
   have e1 : (63 : Int) - ((64 : Nat) : Int) = -1 := rfl
   rw [e1]
   clear a1 a2 a3 hk hlt
   go_wp2_with fail
   go_ret2
   exact ⟨by rw [HRk.out.1, HRk.out.2, HF.out, show 1 + (64 - b) = 65 - b by have := H12.out.2; omega]; rfl, rfl⟩
set_option maxRecDepth 100000 in
set_option maxHeartbeats 2000000 in
theorem ref07_Add_any (b : Nat) (r : List Nat) (n : Nat) (w : World) (h1 : 3 ≤ b) (h2 : b ≤ 8) (hl : r.length = 2 ^ b) (hr : ∀ i, r.getD i 0 ≤ 65 - b) (hn : n < 2 ^ 64) :
  Calls Tryz.prog 49 #[.agg #[.int .i64 b, .string (hlStr r)], .int .u64 n] w (RegsPost b (hlAdd b r n) w) := by
 have hR := Lib.hid (fun w1 => ref07_Right_ok b r w1 h1 h2 hl hr)
 have hPl := Lib.hid (fun w1 => ref07_Place_any b n w1 h1 h2 hn)
 have hp := hlAt_lt b n h2 hn
 have hrk : hlRank b n ≤ 65 := by unfold hlRank; split <;> omega
 have hx := hr (hlAt b n)
 have hnum := hlStr_nums r (fun x hx => by have := le_getD hr x hx; omega)
 have hz := hlStr_size r
 have hp8 : 2 ^ b ≤ 2 ^ 8 := Nat.pow_le_pow_right (by omega) h2
 unfold hlAdd RegsPost
 generalize hlAt b n = p at hPl hp hx ⊢
 generalize hlRank b n = k at hPl hrk ⊢
 obtain ⟨x, hxe⟩ : ∃ x, r.getD p 0 = x := ⟨_, rfl⟩
 have hxs : r[p]? = some x := by rw [← hxe, List.getD_eq_getElem?_getD, List.getElem?_eq_getElem (by omega)]; rfl
 have hx65 : x ≤ 65 := by omega
 unfold hlTell
 rw [hxe]
 obtain ⟨m, hm⟩ : ∃ m, max x k = m := ⟨_, rfl⟩
 have hmi : max (x : Int) (k : Int) = (m : Int) := by omega
 have hm8 : IntKind.u8.wrap (m : Int) = (m : Int) := by
  have : m < 256 := by omega
  simp [IntKind.wrap, IntKind.bits, IntKind.signed]
  omega
 rw [hm]
 obtain ⟨out, hout⟩ : ∃ out, hlStr (r.set p m) = out := ⟨_, rfl⟩
 rw [hout]
 have HOUT := Lib.hid hout
 have HXS := Lib.hid hxs
 have HL := Lib.hid hl
 generalize hlStr r = s at hR hnum hz ⊢
 have HN := Lib.hid hnum
 have hsz : s.size = 2 ^ b := by omega
 obtain ⟨W0, hW0, hX0, hXr, hB0, hs0⟩ := boxes2 w #[.int .i64 b, .string s] 26 #[.int .i64 0, .string ⟨#[]⟩] 26
 have HX0 := Lib.hid hX0
 have HXr := Lib.hid hXr
 have HB0 := Lib.hid hB0
 obtain ⟨c0, c1⟩ := cl2 hX0
 have HSZ := Lib.hid hsz
 have pi : (p : Int) < ((2 ^ b : Nat) : Int) := by omega
 clear hX0 hXr hB0 hnum hz hsz hout hxs hl hr hx hxe h1 h2 hn hm
 go_enter Tryz.func49, Tryz.ntmps49
 go_wp2_with fail
 refine (hR.out _).mono ?_
 rintro e w1 ⟨rfl, hb1⟩
 have hX1 := known hb1 (Nat.le_refl _) HX0.out
 have hXr1 := known hb1 (Nat.le_refl _) HXr.out
 obtain ⟨d0, d1⟩ := cl2 hX1
 have HB1 := Lib.hid hb1
 obtain ⟨W2, cap, hcv, hr2, hB2, hs2⟩ := run_bytes_of w1 s
 rw [HN.out] at hr2
 rw [HSZ.out] at hcv
 generalize hg : w1.heap.size = g at hcv hr2 hB2 hs2
 have hgw : w.heap.size + 1 < g := by rw [← hg]; have := hb1.size; omega
 have q0 := hr2.cell HXS.out
 have q1 := hr2.frozen HXS.out
 obtain ⟨W3, hW3⟩ : ∃ W3, W2.setCell ⟨g, p, none⟩ (.int .u8 (m : Int)) = W3 := ⟨_, rfl⟩
 have hr3 : RegsAt W3 g (r.set p m) := by rw [← hW3]; exact hr2.set p m
 have hX3 : W3.heap[w.heap.size]? = some (.cells #[.int .i64 b, .string s] 26 (0, 0)) := by
  rw [← hW3]
  exact (heap_set_other (p := ⟨g, p, none⟩) (by show g ≠ _; omega) _).trans ((hB2.block _ (by omega)).trans hX1)
 have hXr3 : W3.heap[w.heap.size + 1]? = some (.cells #[.int .i64 0, .string ⟨#[]⟩] 26 (0, 0)) := by
  rw [← hW3]
  exact (heap_set_other (p := ⟨g, p, none⟩) (by show g ≠ _; omega) _).trans ((hB2.block _ (by omega)).trans hXr1)
 have hB3 : Below w.heap.size w W3 := by
  rw [← hW3]
  exact ((HB0.out.trans (HB1.out.mono HB0.out.size)).trans (hB2.mono (by omega))).setCell (p := ⟨g, p, none⟩) (by show w.heap.size ≤ g; omega) _
 have hcs := str_cells (cap := cap) hr3 (List.length_set.trans HL.out)
 rw [HOUT.out] at hcs
 obtain ⟨u0, u1⟩ := cl2 hX3
 obtain ⟨y0, y1⟩ := cl2 hXr3
 obtain ⟨f0, f1⟩ := cz2 hXr3
 obtain ⟨V, hV, hXV, hBV⟩ := store2 (.int .i64 b) (.string out) hXr3
 obtain ⟨k0, k1⟩ := cl2 hXV
 have HBV : Hid (Below w.heap.size w V) := hBV _ _ hB3 (by omega)
 clear hX1 hXr1 hg hr2 hB2 hs2 hr3 hX3 hXr3 hB3 hXV hBV hb1
 go_wp2_with (go_at_call 76; refine (hPl.out _).mono ?_; rintro e w' ⟨rfl, h9⟩; subst w')
 exact bodyPost_ret (v := .tuple #[.agg #[.int .i64 b, .string out], .int .i64 0]) (by simp [results, Tryz.f49, go_sem, k0, k1]) rfl ⟨rfl, HBV.out⟩
def mxK (r r2 : List Nat) (k : Nat) : List Nat := (List.range r.length).map fun i => if i < k then max (r.getD i 0) (r2.getD i 0) else r.getD i 0
theorem mxK_len (r r2 : List Nat) (k : Nat) : (mxK r r2 k).length = r.length := by simp [mxK]
theorem mxK_at (r r2 : List Nat) (k i : Nat) (hi : i < r.length) : (mxK r r2 k)[i]? = some (if i < k then max (r.getD i 0) (r2.getD i 0) else r.getD i 0) := by simp [mxK, hi]
theorem mxK_0 (r r2 : List Nat) : mxK r r2 0 = r := by
 apply List.ext_getElem?
 intro i
 by_cases hi : i < r.length
 ·rw [mxK_at r r2 0 i hi, if_neg (by omega), List.getD_eq_getElem?_getD, List.getElem?_eq_getElem hi]; rfl
 ·rw [List.getElem?_eq_none (by rw [mxK_len]; omega), List.getElem?_eq_none (by omega)]
theorem mxK_step (r r2 : List Nat) (k : Nat) : (mxK r r2 k).set k (max (r.getD k 0) (r2.getD k 0)) = mxK r r2 (k + 1) := by
 apply List.ext_getElem?
 intro i
 rw [List.getElem?_set]
 by_cases hi : i < r.length
 ·by_cases hk : k = i
  ·subst hk
   rw [if_pos rfl, if_pos (by rw [mxK_len]; exact hi), mxK_at r r2 (k + 1) k hi, if_pos (by omega)]
  ·rw [if_neg hk, mxK_at r r2 k i hi, mxK_at r r2 (k + 1) i hi]
   by_cases h1 : i < k
   ·rw [if_pos h1, if_pos (by omega)]
   ·rw [if_neg h1, if_neg (by omega)]
 ·rw [List.getElem?_eq_none (by rw [mxK_len]; omega)]
  by_cases hk : k = i
  ·rw [if_pos hk, if_neg (by rw [mxK_len]; omega), List.getElem?_eq_none (by rw [mxK_len]; omega)]
  ·rw [if_neg hk, List.getElem?_eq_none (by rw [mxK_len]; omega)]
set_option maxRecDepth 100000 in
set_option maxHeartbeats 2000000 in
theorem ref07_Merge_any (b : Nat) (r r2 : List Nat) (w : World) (h1 : 3 ≤ b) (h2 : b ≤ 8) (hl : r.length = 2 ^ b) (hr : ∀ i, r.getD i 0 ≤ 65 - b) (hl2 : r2.length = 2 ^ b) (hr2 : ∀ i, r2.getD i 0 ≤ 65 - b) :
  Calls Tryz.prog 36 #[.agg #[.int .i64 b, .string (hlStr r)], .agg #[.int .i64 b, .string (hlStr r2)]] w (RegsPost b (mxK r r2 (2 ^ b)) w) := by
 have hR := Lib.hid (fun w1 => ref07_Right_ok b r w1 h1 h2 hl hr)
 have hR2 := Lib.hid (fun w1 => ref07_Right_ok b r2 w1 h1 h2 hl2 hr2)
 have hnum := hlStr_nums r (fun x hx => by have := le_getD hr x hx; omega)
 have hz := hlStr_size r
 have hby : Hid (∀ (i : Nat) (hi : i < (hlStr r2).size), ((hlStr r2)[i]'hi).toNat = r2.getD i 0) := fun i hi => str_byte r2 (fun x hx => by have := le_getD hr2 x hx; omega) i hi
 have hz2 := hlStr_size r2
 have hp8 : 2 ^ b ≤ 2 ^ 8 := Nat.pow_le_pow_right (by omega) h2
 unfold RegsPost
 obtain ⟨out, hout⟩ : ∃ out, hlStr (mxK r r2 (2 ^ b)) = out := ⟨_, rfl⟩
 rw [hout]
 have HOUT := Lib.hid hout
 have HLen := Lib.hid (fun k => (mxK_len r r2 k).trans hl)
 have HSt := Lib.hid (fun k => mxK_step r r2 k)
 have HAt := Lib.hid (fun k (hk : k < 2 ^ b) => mxK_at r r2 k k (by omega))
 have HL := Lib.hid hl
 have HRb := Lib.hid hr
 have HRb2 := Lib.hid hr2
 generalize hlStr r = s at hR hnum hz ⊢
 generalize hlStr r2 = s2 at hR2 hby hz2 ⊢
 rw [hl] at hz
 rw [hl2] at hz2
 have HN := Lib.hid hnum
 obtain ⟨W0, hW0, hX0, hY0, hXr, hB0, hs0⟩ := boxes3 w #[.int .i64 b, .string s] 26 #[.int .i64 b, .string s2] 26 #[.int .i64 0, .string ⟨#[]⟩] 26
 have HX : Hid (∀ W, Below W0.heap.size W0 W → W.heap[w.heap.size]? = some (.cells #[.int .i64 b, .string s] 26 (0, 0)) ∧ W.heap[w.heap.size + 1]? = some (.cells #[.int .i64 b, .string s2] 26 (0, 0)) ∧ W.heap[w.heap.size + 2]? = some (.cells #[.int .i64 0, .string ⟨#[]⟩] 26 (0, 0))) := fun W hb => ⟨known hb (Nat.le_refl _) hX0, known hb (Nat.le_refl _) hY0, known hb (Nat.le_refl _) hXr⟩
 have HB0 := Lib.hid hB0
 obtain ⟨c0, c1⟩ := cl2 hX0
 have HSZ := Lib.hid hz
 have HSZ2 := Lib.hid hz2
 have h256 : 2 ^ b ≤ 256 := hp8
 clear hX0 hY0 hXr hB0 hnum hz hz2 hout hl hr hl2 hr2 h1 h2 hp8
 go_enter Tryz.func36, Tryz.ntmps36
 go_wp2_with fail
 refine (hR.out _).mono ?_
 rintro e w1 ⟨rfl, hb1⟩
 obtain ⟨-, hY1, -⟩ := HX.out w1 hb1
 obtain ⟨d0, d1⟩ := cl2 hY1
 have HB1 := Lib.hid hb1
 clear hY1 hb1
 go_wp2_with fail
 refine (hR2.out _).mono ?_
 rintro e w2 ⟨rfl, hb2⟩
 have hb02 := HB1.out.trans (hb2.mono HB1.out.size)
 obtain ⟨hX2, hY2, hXr2⟩ := HX.out w2 hb02
 obtain ⟨x0, x1⟩ := cl2 hX2
 obtain ⟨y0, y1⟩ := cl2 hY2
 obtain ⟨W3, cap, hcv, hr3, hB3, hs3⟩ := run_bytes_of w2 s
 rw [HN.out] at hr3
 rw [HSZ.out] at hcv
 generalize hg : w2.heap.size = g at hcv hr3 hB3 hs3
 have hz02 := hb02.size
 have hgw : w.heap.size + 2 < g := by omega
 have HK : Hid (∀ W, OnlyAt g W3 W → W.heap[w.heap.size]? = some (.cells #[.int .i64 b, .string s] 26 (0, 0)) ∧ W.heap[w.heap.size + 1]? = some (.cells #[.int .i64 b, .string s2] 26 (0, 0)) ∧ W.heap[w.heap.size + 2]? = some (.cells #[.int .i64 0, .string ⟨#[]⟩] 26 (0, 0))) := fun W ho =>
  ⟨(ho.2 _ (by omega)).trans ((hB3.block _ (by omega)).trans hX2), (ho.2 _ (by omega)).trans ((hB3.block _ (by omega)).trans hY2), (ho.2 _ (by omega)).trans ((hB3.block _ (by omega)).trans hXr2)⟩
 have HB3 : Hid (Below w.heap.size w W3) := (HB0.out.trans (hb02.mono HB0.out.size)).trans (hB3.mono (by omega))
 have HR3 : Hid (RegsAt W3 g (mxK r r2 0)) := by rw [mxK_0]; exact hr3
 clear hX2 hY2 hXr2 hr3 hB3 hs3 hb2 hb02 hg hz02
 generalize 2 ^ b = N at hcv h256 HSZ2 HLen HAt HOUT
 go_wp2_with fail
 go_loopw [7] (fun i wr => ∃ k : Nat, i = .int .i64 k ∧ k ≤ N ∧ Hid (OnlyAt g W3 wr) ∧ Hid (RegsAt wr g (mxK r r2 k)) ∧ Hid (Below w.heap.size w wr)) (fun i _ => N - (intOf i).toNat)
 case atStart => exact ⟨0, rfl, Nat.zero_le _, OnlyAt.refl _ _, HR3, HB3⟩
 case round =>
  obtain ⟨k, rfl, hk, HO, HRk, HBk⟩ := hrel
  by_cases hlt : k < N
  ·have hx := HAt.out k hlt
   rw [if_neg (by omega)] at hx
   have q0 := HRk.out.cell hx
   have q1 := HRk.out.frozen hx
   have hs1 : k < s2.size := by rw [HSZ2.out]; exact hlt
   have ey := hby.out k hs1
   have hxb := HRb.out k
   have hyb := HRb2.out k
   have HS := Lib.hid (HSt.out k)
   obtain ⟨hX4, hY4, hXr4⟩ := HK.out wr HO.out
   obtain ⟨u0, u1⟩ := cl2 hY4
   generalize r.getD k 0 = x at q0 HS hxb
   generalize r2.getD k 0 = y at ey HS hyb
   obtain ⟨m, hm⟩ : ∃ m, max x y = m := ⟨_, rfl⟩
   have hmi : max (x : Int) (y : Int) = (m : Int) := by omega
   rw [hm] at HS
   have i0 : (0 : Int) ≤ (k : Int) := Int.natCast_nonneg _
   have i1 : (k : Int) < (N : Int) := by omega
   clear hX4 hY4 hXr4 hx hm hxb hyb
   go_wp2_with fail
   go_region
   go_wp2_with fail
   all_goals go_roundw
   case rel =>
    refine ⟨k + 1, by go_num, by omega, ⟨(HO.out.set k _).1, (HO.out.set k _).2⟩, ?_, (HBk.out.setCell (p := ⟨g, k, none⟩) (by show w.heap.size ≤ g; omega) _).drew⟩
    rw [Hid, ← HS.out]
    exact (HRk.out.set k m).block rfl
   case measure => simp [intOf]; try omega
  ·obtain rfl : k = N := by omega
   have hcs := str_cells (cap := cap) HRk.out (HLen.out k)
   rw [HOUT.out] at hcs
   obtain ⟨hX4, -, hXr4⟩ := HK.out wr HO.out
   obtain ⟨u0, u1⟩ := cl2 hX4
   obtain ⟨t0, t1⟩ := cl2 hXr4
   obtain ⟨f0, f1⟩ := cz2 hXr4
   obtain ⟨V, hV, hXV, hBV⟩ := store2 (.int .i64 b) (.string out) hXr4
   obtain ⟨k0, k1⟩ := cl2 hXV
   have HBV : Hid (Below w.heap.size w V) := hBV _ _ HBk.out (by omega)
   clear hX4 hXr4 hXV hBV
   go_wp2_with fail
   exact bodyPost_ret (v := .tuple #[.agg #[.int .i64 b, .string out], .int .i64 0]) (by simp [results, Tryz.f36, go_sem, k0, k1]) rfl ⟨rfl, HBV.out⟩
theorem sum_snoc (b : Nat) (r : List Nat) (l : List Nat) (n : Nat) : hlSum b r (l ++ [n]) = hlAdd b (hlSum b r l) n := by unfold hlSum; rw [List.foldl_append]; rfl
set_option maxRecDepth 100000 in
set_option maxHeartbeats 2000000 in
theorem ref07_Of_any (b : Nat) (l : List Int) (a : Option Addr) (len cap : Nat) (w : World) (h1 : 3 ≤ b) (h2 : b ≤ 8) (hL : SlE encU 1 w.heap.size w a len l) (hu : U64s l) (hlen : len ≤ 1000) :
  Calls Tryz.prog 68 #[.int .i64 b, .slice a len cap] w (RegsPost b (hlSum b (hlNone b) (l.map Int.toNat)) w) := by
 have hll := hL.1
 obtain ⟨W0, hW0, hXr, hB0, hs0⟩ := boxes1 w #[.int .i64 0, .string ⟨#[]⟩] 26
 have HL := Lib.hid (hL.go hB0)
 have HN : Hid (∀ W, Calls Tryz.prog 91 #[.int .i64 b] W (RegsPost b (hlNone b) W)) := fun W => ref07_New_any b W h1 h2
 have HA : Hid (∀ (r : List Nat) (n : Nat) W, r.length = 2 ^ b → (∀ i, r.getD i 0 ≤ 65 - b) → n < 2 ^ 64 → Calls Tryz.prog 49 #[.agg #[.int .i64 b, .string (hlStr r)], .int .u64 n] W (RegsPost b (hlAdd b r n) W)) := fun r n W hl hr hn => ref07_Add_any b r n W h1 h2 hl hr hn
 have HLn : Hid (∀ m : List Nat, (hlSum b (hlNone b) m).length = 2 ^ b) := fun m => by rw [hlSum_len]; exact List.length_replicate ..
 have HLe : Hid (∀ (m : List Nat) i, (hlSum b (hlNone b) m).getD i 0 ≤ 65 - b) := fun m => hlSum_le b h2 m _ (hlNone_le b _)
 have HS0 : Hid (hlSum b (hlNone b) ((l.take 0).map Int.toNat) = hlNone b) := rfl
 have HSn : Hid (∀ (k : Nat) (x : Int), l[k]? = some x → hlSum b (hlNone b) ((l.take (k + 1)).map Int.toNat) = hlAdd b (hlSum b (hlNone b) ((l.take k).map Int.toNat)) x.toNat) := fun k x hx => by rw [take_snoc' hx, List.map_append]; exact sum_snoc ..
 obtain ⟨S, hS⟩ : ∃ S : Nat → List Nat, ∀ k, S k = hlSum b (hlNone b) ((l.take k).map Int.toNat) := ⟨_, fun _ => rfl⟩
 have HS := Lib.hid hS
 have HEn : Hid (S len = hlSum b (hlNone b) (l.map Int.toNat)) := by rw [Hid, hS, List.take_of_length_le (by omega)]
 have HU := Lib.hid hu
 have HLL := Lib.hid hll
 have HXr := Lib.hid hXr
 have HB0 := Lib.hid hB0
 unfold RegsPost
 rw [← HEn.out]
 obtain ⟨out, hout⟩ : ∃ out, hlStr (S len) = out := ⟨_, rfl⟩
 rw [hout]
 have HOUT := Lib.hid hout
 clear hXr hB0 hL hll hu h1 h2 hS hout
 go_enter Tryz.func68, Tryz.ntmps68
 go_wp2_with fail
 refine (HN.out _).mono ?_
 rintro e w1 ⟨rfl, hb1⟩
 obtain ⟨W2, hW2, hX2, hB2, hs2⟩ := boxes1 w1 #[.int .i64 b, .string (hlStr (hlNone b))] 26
 have hz1 := hb1.size
 have hb02 := hb1.trans (hB2.mono hb1.size)
 have HX2 : Hid (W2.heap[w1.heap.size]? = some (.cells #[.int .i64 b, .string (hlStr (S 0))] 26 (0, 0))) := by rw [Hid, HS.out, HS0.out]; exact hX2
 have HB2 := Lib.hid hb02
 clear hX2 hB2 hs2 hb1 hb02
 go_wp2_with fail
 go_loopw [7, 8] (fun ev i wr => ∃ k : Nat, ev = .int .i64 0 ∧ i = .int .i64 k ∧ k ≤ len ∧ Hid (wr.heap[w1.heap.size]? = some (.cells #[.int .i64 b, .string (hlStr (S k))] 26 (0, 0))) ∧ Hid (Below W0.heap.size W0 wr)) (fun _ i _ => len - (intOf i).toNat)
 case atStart => exact ⟨0, rfl, rfl, Nat.zero_le _, HX2, HB2⟩
 case round =>
  obtain ⟨k, rfl, rfl, hk, HX, HB⟩ := hrel
  have i0 : (0 : Int) ≤ (k : Int) := Int.natCast_nonneg _
  have hXk := HX.out
  obtain ⟨c0, c1⟩ := cl2 hXk
  by_cases hlt : k < len
  ·obtain ⟨x, hx⟩ : ∃ x, l[k]? = some x := ⟨_, List.getElem?_eq_getElem (by rw [← HLL.out]; exact hlt)⟩
   obtain ⟨bb, off, rfl, hbb, hc⟩ := HL.out.2 k x hx
   have hc0 : wr.cell? ⟨bb, off + k, none⟩ = some (.int .u64 x) := by
    have h1 := hc 0 (by omega)
    simp only [Nat.mul_one, Nat.add_zero] at h1
    exact (HB.out.cell (p := ⟨bb, off + k, none⟩) hbb).trans h1
   obtain ⟨x0, x1⟩ := HU.out x (List.mem_of_getElem? hx)
   obtain ⟨n, rfl⟩ := Int.eq_ofNat_of_zero_le x0
   have HSk : Hid (S (k + 1) = hlAdd b (S k) n) := by rw [Hid, HS.out, HS.out, HSn.out k _ hx, Int.toNat_natCast]
   have HAd := Lib.hid (HA.out (S k) n wr.drew (by rw [HS.out]; exact HLn.out _) (by rw [HS.out]; exact HLe.out _) (by omega))
   have i1 : (k : Int) < (len : Int) := by omega
   obtain ⟨f0, f1⟩ := cz2 hXk
   generalize hlStr (S k) = sk at hXk c1 HAd HX
   have HXk : Hid (wr.drew.heap[w1.heap.size]? = some (.cells #[.int .i64 b, .string sk] 26 (0, 0))) := hXk
   have hBd : Below W0.heap.size W0 wr.drew := HB.out.drew
   have HB := Lib.hid hBd
   clear hc hx hXk HX x0 x1 hBd
   have HZ : Hid (W0.heap.size ≤ w1.heap.size) := hz1
   go_wp2_with fail
   -- region Of
   refine wp_region_any (by kernel_rfl) ?_
   change wpAny _ _ _ _ _ _ _ (World.drew _)
   refine tk 1 (v := ?_) rfl ?_ ?_
   rotate_left
   ·intro w; go_simp; with_reducible rfl
   refine tk 2 (v := ?_) rfl ?_ ?_
   rotate_left
   ·intro w; go_simp; with_reducible rfl
   refine tk 3 (v := ?_) rfl ?_ ?_
   rotate_left
   ·intro w; go_simp; with_reducible rfl
   refine wpAny_ready (rs := [0, 4]) (by kernel_rfl) (by simp) ?_
   refine AllReady.cons rfl (fun K hK => ?_) ?_
   ·go_simp
    refine hK _ _ ?_
    clear hK K
    refine wpAny_ready (rs := [4]) (by kernel_rfl) (by simp) ?_
    refine AllReady.cons rfl (fun K hK => ?_) ?_
    ·go_simp
     refine hK _ _ ?_
     clear hK K
     refine wpAny_ready (rs := [5]) (by kernel_rfl) (by simp) ?_
     refine AllReady.cons rfl (fun K hK => ?_) ?_
     ·go_simp
      refine HAd.out.mono ?_
      rintro e w3 ⟨rfl, hb3⟩
      have hX3 := known hb3 (Nat.le_refl _) HXk.out
      obtain ⟨g0, g1⟩ := cz2 hX3
      obtain ⟨d0, d1⟩ := cl2 hX3
      obtain ⟨V, hV, hXV, hBV⟩ := store2 (.int .i64 b) (.string (hlStr (hlAdd b (S k) n))) hX3
      refine hK _ _ ?_
      clear hK K
      refine tk 6 (v := ?_) rfl ?_ ?_
      rotate_left
      ·intro w; go_simp; with_reducible rfl
      refine tk 7 (v := ?_) rfl ?_ ?_
      rotate_left
      ·intro w; go_simp; with_reducible rfl
      refine tk 8 (v := ?_) rfl ?_ ?_
      rotate_left
      ·intro w; go_simp; with_reducible rfl
      refine wpAny_ready (rs := [9]) (by kernel_rfl) (by simp) ?_
      refine AllReady.cons rfl (fun K hK => ?_) ?_
      ·go_simp
       refine hK _ _ ?_
       clear hK K
       refine wpAny_ready (rs := [10]) (by kernel_rfl) (by simp) ?_
       refine AllReady.cons rfl (fun K hK => ?_) ?_
       ·go_simp
        refine hK _ _ ?_
        clear hK K
        refine wpAny_done (by kernel_rfl) ?_ _
        go_wp2_with fail
        all_goals go_roundw
        case rel => exact ⟨k + 1, rfl, by go_num, by omega, by rw [Hid, HSk.out]; exact hXV, hBV _ _ (HB.out.trans (hb3.mono HB.out.size)) HZ.out⟩
        case measure => simp [intOf]; try omega
       exact AllReady.nil
      exact AllReady.nil
     exact AllReady.nil
    exact AllReady.nil
   refine AllReady.cons rfl (fun K hK => ?_) ?_
   ·go_simp
    refine hK _ _ ?_
    clear hK K
    refine wpAny_ready (rs := [0]) (by kernel_rfl) (by simp) ?_
    refine AllReady.cons rfl (fun K hK => ?_) ?_
    ·go_simp
     refine hK _ _ ?_
     clear hK K
     refine wpAny_ready (rs := [5]) (by kernel_rfl) (by simp) ?_
     refine AllReady.cons rfl (fun K hK => ?_) ?_
     ·go_simp
      refine HAd.out.mono ?_
      rintro e w3 ⟨rfl, hb3⟩
      have hX3 := known hb3 (Nat.le_refl _) HXk.out
      obtain ⟨g0, g1⟩ := cz2 hX3
      obtain ⟨d0, d1⟩ := cl2 hX3
      obtain ⟨V, hV, hXV, hBV⟩ := store2 (.int .i64 b) (.string (hlStr (hlAdd b (S k) n))) hX3
      refine hK _ _ ?_
      clear hK K
      refine tk 6 (v := ?_) rfl ?_ ?_
      rotate_left
      ·intro w; go_simp; with_reducible rfl
      refine tk 7 (v := ?_) rfl ?_ ?_
      rotate_left
      ·intro w; go_simp; with_reducible rfl
      refine tk 8 (v := ?_) rfl ?_ ?_
      rotate_left
      ·intro w; go_simp; with_reducible rfl
      refine wpAny_ready (rs := [9]) (by kernel_rfl) (by simp) ?_
      refine AllReady.cons rfl (fun K hK => ?_) ?_
      ·go_simp
       refine hK _ _ ?_
       clear hK K
       refine wpAny_ready (rs := [10]) (by kernel_rfl) (by simp) ?_
       refine AllReady.cons rfl (fun K hK => ?_) ?_
       ·go_simp
        refine hK _ _ ?_
        clear hK K
        refine wpAny_done (by kernel_rfl) ?_ _
        go_wp2_with fail
        all_goals go_roundw
        case rel => exact ⟨k + 1, rfl, by go_num, by omega, by rw [Hid, HSk.out]; exact hXV, hBV _ _ (HB.out.trans (hb3.mono HB.out.size)) HZ.out⟩
        case measure => simp [intOf]; try omega
       exact AllReady.nil
      exact AllReady.nil
     exact AllReady.nil
    exact AllReady.nil
   exact AllReady.nil
   -- end
  ·obtain rfl : k = len := by omega
   rw [HOUT.out] at hXk c1
   have hXr : wr.heap[w.heap.size]? = some (.cells #[.int .i64 0, .string ⟨#[]⟩] 26 (0, 0)) := known HB.out (Nat.le_refl _) HXr.out
   obtain ⟨t0, t1⟩ := cl2 hXr
   obtain ⟨f0, f1⟩ := cz2 hXr
   obtain ⟨V, hV, hXV, hBV⟩ := store2 (.int .i64 b) (.string out) hXr
   obtain ⟨v0, v1⟩ := cl2 hXV
   have HBV : Hid (Below w.heap.size w V) := hBV _ _ (HB0.out.trans (HB.out.mono HB0.out.size)) (Nat.le_refl _)
   clear hXr hXV hBV hXk HX
   go_wp2_with fail
   exact bodyPost_ret (v := .tuple #[.agg #[.int .i64 b, .string out], .int .i64 0]) (by simp [results, Tryz.f68, go_sem, v0, v1]) rfl ⟨rfl, HBV.out⟩
set_option maxRecDepth 100000 in
set_option maxHeartbeats 4000000 in
theorem ref07_Lower_any (b : Nat) (r : List Nat) (w : World) (h1 : 4 ≤ b) (h2 : b ≤ 8) (hl : r.length = 2 ^ b) (hr : ∀ i, r.getD i 0 ≤ 65 - b) :
  Calls Tryz.prog 69 #[.agg #[.int .i64 b, .string (hlStr r)]] w (RegsPost (b - 1) (hlLow b r) w) := by
 have hR := Lib.hid (fun w1 => ref07_Right_ok b r w1 (by omega) h2 hl hr)
 have hby : Hid (∀ (i : Nat) (hi : i < (hlStr r).size), ((hlStr r)[i]'hi).toNat = r.getD i 0) := fun i hi => str_byte r (fun x hx => by have := le_getD hr x hx; omega) i hi
 have hz := hlStr_size r
 rw [hl] at hz
 unfold RegsPost
 rw [show (((b - 1 : Nat)) : Int) = (b : Int) - 1 by omega]
 obtain ⟨out, hout⟩ : ∃ out, hlStr (hlLow b r) = out := ⟨_, rfl⟩
 rw [hout]
 have HOUT := Lib.hid hout
 have HRb := Lib.hid hr
 have HK0 := Lib.hid (lowK_0 b r)
 have HKA := Lib.hid (lowK_all b r)
 have HKL := Lib.hid (fun k => lowK_len b r k)
 have HKS := Lib.hid (fun k => lowK_step b r k)
 have HKT := Lib.hid (fun k i (hi : i < 2 ^ (b - 1)) => lowK_at b r k i hi)
 have hN8 : 2 ^ (b - 1) ≤ 2 ^ 7 := Nat.pow_le_pow_right (by omega) (by omega)
 have hzN : (hlStr r).size = 2 * 2 ^ (b - 1) := by rw [hz, ← Nat.pow_succ', show (b - 1).succ = b by omega]
 have HN0 : Hid (hlNone (b - 1) = List.replicate (2 ^ (b - 1)) 0) := rfl
 generalize hlStr r = s at hR hby hzN ⊢
 generalize 2 ^ (b - 1) = N at hN8 hzN HKA HKL HKT HN0
 have hN128 : N ≤ 128 := hN8
 obtain ⟨W0, hW0, hX0, hXr, hB0, hs0⟩ := boxes2 w #[.int .i64 b, .string s] 26 #[.int .i64 0, .string ⟨#[]⟩] 26
 have HX : Hid (∀ W, Below W0.heap.size W0 W → W.heap[w.heap.size]? = some (.cells #[.int .i64 b, .string s] 26 (0, 0)) ∧ W.heap[w.heap.size + 1]? = some (.cells #[.int .i64 0, .string ⟨#[]⟩] 26 (0, 0))) := fun W hb => ⟨known hb (Nat.le_refl _) hX0, known hb (Nat.le_refl _) hXr⟩
 have HB0 := Lib.hid hB0
 obtain ⟨c0, c1⟩ := cl2 hX0
 have HZN := Lib.hid hzN
 have hb3 : ((b : Int) == 3) = false := by rw [beq_eq_false_iff_ne]; omega
 have hq1 : (s.size : Int) / 2 = (N : Int) := by omega
 have hq2 : (s.size : Int).tdiv 2 = (N : Int) := by rw [Int.tdiv_eq_ediv_of_nonneg (Int.natCast_nonneg _)]; exact hq1
 have hb8 : (b : Int) ≤ 8 := by omega
 have hb4 : (4 : Int) ≤ b := by omega
 clear hX0 hXr hB0 hz hout hl hr hzN hN8
 go_enter Tryz.func69, Tryz.ntmps69
 go_wp2_with fail
 refine (hR.out _).mono ?_
 rintro e w1 ⟨rfl, hb1⟩
 obtain ⟨hX1, hXr1⟩ := HX.out w1 hb1
 obtain ⟨x0, x1⟩ := cl2 hX1
 obtain ⟨W3, hmk, hr3, hB3, hs3⟩ := make_u8 w1 N (by omega)
 generalize hg : w1.heap.size = g at hmk hr3 hB3 hs3
 have hz01 := hb1.size
 have hgw : w.heap.size + 1 < g := by omega
 have HK : Hid (∀ W, OnlyAt g W3 W → W.heap[w.heap.size]? = some (.cells #[.int .i64 b, .string s] 26 (0, 0)) ∧ W.heap[w.heap.size + 1]? = some (.cells #[.int .i64 0, .string ⟨#[]⟩] 26 (0, 0))) := fun W ho =>
  ⟨(ho.2 _ (by omega)).trans ((hB3.block _ (by omega)).trans hX1), (ho.2 _ (by omega)).trans ((hB3.block _ (by omega)).trans hXr1)⟩
 have HB3 : Hid (Below w.heap.size w W3) := (HB0.out.trans (hb1.mono HB0.out.size)).trans (hB3.mono (by omega))
 have HR3 : Hid (RegsAt W3 g (lowK b r 0)) := by rw [HK0.out, HN0.out]; exact hr3
 clear hX1 hXr1 hr3 hB3 hs3 hb1 hg hz01
 go_wp2_with fail
 go_loopw [5] (fun i wr => ∃ k : Nat, i = .int .i64 k ∧ k ≤ N ∧ Hid (OnlyAt g W3 wr) ∧ Hid (RegsAt wr g (lowK b r k)) ∧ Hid (Below w.heap.size w wr)) (fun i _ => N - (intOf i).toNat)
 case atStart => exact ⟨0, rfl, Nat.zero_le _, OnlyAt.refl _ _, HR3, HB3⟩
 case round =>
  obtain ⟨k, rfl, hk, HO, HRk, HBk⟩ := hrel
  obtain ⟨hX4, hXr4⟩ := HK.out wr HO.out
  obtain ⟨u0, u1⟩ := cl2 hX4
  have i0 : (0 : Int) ≤ (k : Int) := Int.natCast_nonneg _
  by_cases hlt : k < N
  ·have hs1 : 2 * k < s.size := by rw [HZN.out]; omega
   have hs2 : 2 * k + 1 < s.size := by rw [HZN.out]; omega
   have ex := hby.out (2 * k) hs1
   have ey := hby.out (2 * k + 1) hs2
   have HS := Lib.hid (HKS.out k)
   have hxb := HRb.out (2 * k)
   have hkt := HKT.out k k hlt
   rw [if_neg (by omega)] at hkt
   have hkl := HKL.out k
   generalize r.getD (2 * k) 0 = x at ex HS hxb
   generalize r.getD (2 * k + 1) 0 = y at ey HS
   generalize lowK b r k = r0 at HRk HS hkt hkl
   have hxs : r0[k]? = some 0 := by
    rw [List.getD_eq_getElem?_getD] at hkt
    rw [List.getElem?_eq_getElem (by omega)] at hkt ⊢
    exact congrArg some hkt
   have q0 := HRk.out.cell hxs
   have q1 := HRk.out.frozen hxs
   have i1 : (k : Int) < (N : Int) := by omega
   have HG : Hid (w.heap.size ≤ g) := by show w.heap.size ≤ g; omega
   have ht : ∀ m, hlTell r0 k m = r0.set k m := fun m => by unfold hlTell; rw [hkt, Nat.zero_max]
   have HT := Lib.hid ht
   have hlen0 : r0.length = N := hkl
   clear hX4 hXr4 hkt hkl hxs ht
   by_cases hx : x = 0
   ·subst hx
    by_cases hy : y = 0
    ·subst hy
     go_wp2_with fail
     all_goals go_roundw
     case rel => exact ⟨k + 1, by go_num, by omega, HO.out, by rw [Hid, ← HS.out]; show RegsAt _ g (hlTell (hlTell r0 k 0) k 0); rw [tell_zero, tell_zero]; exact HRk.out, HBk.out⟩
     case measure => simp [intOf]; try omega
    ·have hy0 : (0 : Int) < (y : Int) := by omega
     have h1y : Hid (oneR y = 1) := if_neg hy
     have hmx : max (0 : Int) 1 = 1 := rfl
     clear hy
     go_wp2_with fail
     all_goals go_roundw
     case rel => exact ⟨k + 1, by go_num, by omega, HO.out.set k _, by rw [Hid, ← HS.out, show upR 0 = 0 from rfl, tell_zero, h1y.out, HT.out]; exact HRk.out.set k 1, HBk.out.setCell (p := ⟨g, k, none⟩) HG.out _⟩
     case measure => simp [intOf]; try omega
   ·have hx0 : (0 : Int) < (x : Int) := by omega
    have hup : Hid (upR x = x + 1) := if_neg hx
    have hm : ((x : Int) + 1) % 256 = (x : Int) + 1 := by omega
    have hm2 : IntKind.u8.wrap ((x : Int) + 1) = (x : Int) + 1 := by simp [IntKind.wrap, IntKind.bits, IntKind.signed]; omega
    have hmx : max ((x : Int) + 1) 1 = (x : Int) + 1 := by omega
    have hx1 : Hid (∀ (l : List Nat), (l.set k (x + 1)).length = N → (hlTell (l.set k (x + 1)) k 1) = (l.set k (x + 1)).set k (x + 1)) := fun l hl => by
     unfold hlTell
     rw [List.length_set] at hl
     rw [List.getD_eq_getElem?_getD, List.getElem?_set, if_pos rfl, if_pos (by omega)]
     simp
    have HLr : Hid ((r0.set k (x + 1)).length = N) := by rw [Hid, List.length_set, hlen0]
    clear hx
    obtain ⟨W4, hW4⟩ : ∃ W4, wr.setCell ⟨g, k, none⟩ (.int .u8 ((x : Int) + 1)) = W4 := ⟨_, rfl⟩
    have hO4 : OnlyAt g W3 W4 := by rw [← hW4]; exact HO.out.set k _
    have hR4 : RegsAt W4 g (r0.set k (x + 1)) := by rw [← hW4]; exact HRk.out.set k (x + 1)
    have hB4 : Below w.heap.size w W4 := by rw [← hW4]; exact HBk.out.setCell (p := ⟨g, k, none⟩) HG.out _
    obtain ⟨hX5, -⟩ := HK.out W4 hO4
    obtain ⟨z0, z1⟩ := cl2 hX5
    have hx5 : (r0.set k (x + 1))[k]? = some (x + 1) := by
     have := HLr.out
     rw [List.length_set] at this
     rw [List.getElem?_set, if_pos rfl, if_pos (by omega)]
    have q2 : W4.cell? ⟨g, k, none⟩ = some (.int .u8 ((x : Int) + 1)) := hR4.cell hx5
    have q3 := hR4.frozen hx5
    have HO4 := Lib.hid hO4
    have HR4 := Lib.hid hR4
    have HB4 := Lib.hid hB4
    clear hX5 hx5 hO4 hR4 hB4
    by_cases hy : y = 0
    ·subst hy
     go_wp2_with fail
     all_goals go_roundw
     case rel => exact ⟨k + 1, by go_num, by omega, HO4.out, by rw [Hid, ← HS.out, hup.out, HT.out]; show RegsAt _ g (hlTell (r0.set k (x + 1)) k 0); rw [tell_zero]; exact HR4.out, HB4.out⟩
     case measure => simp [intOf]; try omega
    ·have hy0 : (0 : Int) < (y : Int) := by omega
     have h1y : Hid (oneR y = 1) := if_neg hy
     clear hy
     go_wp2_with fail
     all_goals go_roundw
     case rel => exact ⟨k + 1, by go_num, by omega, HO4.out.set k _, by rw [Hid, ← HS.out, hup.out, HT.out, h1y.out, hx1.out _ HLr.out]; exact HR4.out.set k (x + 1), HB4.out.setCell (p := ⟨g, k, none⟩) HG.out _⟩
     case measure => simp [intOf]; try omega
  ·obtain rfl : k = N := by omega
   have hcs := str_cells (cap := k) HRk.out (HKL.out k)
   rw [HKA.out, HOUT.out] at hcs
   obtain ⟨t0, t1⟩ := cl2 hXr4
   obtain ⟨f0, f1⟩ := cz2 hXr4
   obtain ⟨V, hV, hXV, hBV⟩ := store2 (.int .i64 ((b : Int) - 1)) (.string out) hXr4
   obtain ⟨v0, v1⟩ := cl2 hXV
   have HBV : Hid (Below w.heap.size w V) := hBV _ _ HBk.out (by omega)
   clear hX4 hXr4 hXV hBV
   go_wp2_with fail
   exact bodyPost_ret (v := .tuple #[.agg #[.int .i64 ((b : Int) - 1), .string out], .int .i64 0]) (by simp [results, Tryz.f69, go_sem, v0, v1]) rfl ⟨rfl, HBV.out⟩
end Go.Proofs.YtcbbenncdainfaaGreatDoor
namespace Go.Proofs.YtcbbenncdainfaaGreatDoor
open Go Go.RowKit Go.Shelf Go.Maps
theorem hist_out2 {w w6 w7 : World} {b rb : Nat} {a : Option Addr} {len cap : Nat} {l : List (Int × Int)} (f : Int) (hrb : w.heap.size ≤ rb) (hbn : rb < b) (hR6 : w6.heap[rb]? = some (.cells #[.int .i64 0, .slice none 0 0] 31 (0, 0))) (hB6 : Below w.heap.size w w6) (hS7 : SlC encB 2 w7.heap.size w7 a len cap l) (ha7 : ∀ x, a = some x → w6.heap.size ≤ x.block) (hg7 : w6.grownBy w7 (some b)) :
  w7.heap[rb]? = some (.cells #[.int .i64 0, .slice none 0 0] 31 (0, 0)) ∧ ∃ V, (w7.setCell ⟨rb, 0, none⟩ (.int .i64 f)).setCell ⟨rb, 1, none⟩ (.slice a len cap) = V ∧ V.heap[rb]? = some (.cells #[.int .i64 f, .slice a len cap] 31 (0, 0)) ∧ SlC encB 2 V.heap.size V a len cap l ∧ Below w.heap.size w V := by
 have hl := (Array.getElem?_eq_some_iff.1 hR6).1
 have hR7 := (hg7.block _ hl (fun e => by cases e; omega)).trans hR6
 refine ⟨hR7, _, rfl, set_cells2 hR7, ?_, ?_⟩
 ·have hsz : ((w7.setCell ⟨rb, 0, none⟩ (.int .i64 f)).setCell ⟨rb, 1, none⟩ (.slice a len cap)).heap.size = w7.heap.size := by simp
  rw [hsz]
  refine slC_block hS7 fun x hx => ?_
  have := ha7 x hx
  exact (Below.heap_setCell _ _ _ _ (fun e => by simp at e; omega)).trans (Below.heap_setCell _ _ _ _ (fun e => by simp at e; omega))
 ·have hB7 : Below w.heap.size w w7 := hB6.grown hg7 hB6.size (fun k e => by cases e; omega)
  exact (hB7.setCell (p := ⟨rb, 0, none⟩) hrb _).setCell (p := ⟨rb, 1, none⟩) hrb _
theorem puts_last (l m : List (Int × Int)) (x : Int × Int) : hiPuts l (m ++ [x]) = binPut (hiPuts l m) x.1 x.2 := by
 unfold hiPuts
 rw [List.foldl_append]
 rfl
set_option maxRecDepth 100000 in
set_option maxHeartbeats 2000000 in
theorem hiMerge_any (f : Nat) (l m : List (Int × Int)) (a : Option Addr) (len cap : Nat) (a2 : Option Addr) (len2 cap2 : Nat) (w : World) (hf : f ≤ 3) (hL : SlE encB 2 w.heap.size w a len l) (hr : hiRight f l = true) (hu : BinUp l) (hbu : BinsU l) (hlen : len ≤ 1000) (hp : ∀ b ∈ l, I64 b.1)
  (hM : SlE encB 2 w.heap.size w a2 len2 m) (hr2 : hiRight f m = true) (hmu : BinsU m) (hlen2 : len2 ≤ 1000) (hp2 : ∀ b ∈ m, I64 b.1) :
  Calls Tryz.prog 197 #[.agg #[.int .i64 f, .slice a len cap], .agg #[.int .i64 f, .slice a2 len2 cap2]] w fun e w' => ∃ a' len' cap', e = .returned (.tuple #[.agg #[.int .i64 f, .slice a' len' cap'], .int .i64 0]) ∧ SlC encB 2 w'.heap.size w' a' len' cap' (hiDone (hiPuts l m)) ∧ Below w.heap.size w w' := by
 obtain ⟨W0, hW0, hXp, hXy, hX0, hB0, hs0⟩ := boxes3 w #[.int .i64 f, .slice a len cap] 31 #[.int .i64 f, .slice a2 len2 cap2] 31 #[.int .i64 0, .slice none 0 0] 31
 obtain ⟨z0, z1⟩ := cl2 hXp
 have hBg := hbegin9_any f l a len cap W0 hf ((hL.below hB0).mono hB0.size) hr hu hbu hlen hp (by unfold maxLen; omega)
 have HR : Hid (∀ W, Below W0.heap.size W0 W → Calls Tryz.prog 98 #[.agg #[.int .i64 f, .slice a2 len2 cap2]] W fun e w' => e = .returned (.bool true) ∧ Below W.heap.size W w') := fun W hB => (hist_Right_any f m a2 len2 cap2 W (((hM.below hB0).mono hB0.size).go hB) (by unfold maxLen; omega) (fun b hb => (hp2 b hb).2)).mono fun e w' h => ⟨by rw [h.1, hr2], h.2⟩
 have HX0 := Lib.hid hX0
 have HXY := Lib.hid hXy
 have HXP := Lib.hid hXp
 have HB0 := Lib.hid hB0
 have HM := Lib.hid hM
 have HC : Hid (BinUp l ∧ BinsU l ∧ (∀ b ∈ l, I64 b.1) ∧ BinsU m ∧ (∀ b ∈ m, I64 b.1) ∧ l.length ≤ 1000 ∧ len2 ≤ 1000 ∧ len2 = m.length) := ⟨hu, hbu, hp, hmu, hp2, by have := hL.1; omega, hlen2, hM.1⟩
 have hlen9 := hlen2
 clear hL hr hu hbu hp hX0 hXy hXp hB0 hM hr2 hmu hp2 hlen hf
 go_enter Tryz.func197, Tryz.ntmps197
 go_wp2_with fail
 refine hBg.mono ?_
 rintro e w1 ⟨b, rfl, hm1, hb1, hB1⟩
 obtain ⟨W2, hW2, hX2, hB2, hs2⟩ := boxes1 w1 #[.map (some b), .int .i64 f] 241
 have hm2 : MapIs W2 b l.length l := hm1.kept (below_gb hB2 none) (by simp)
 have hb1l := hm1.lt
 have hb12 : Below W0.heap.size W0 W2 := hB1.trans (hB2.mono hB1.size)
 have hY2 := known hb12 (Nat.le_refl _) HXY.out
 have HRt := Lib.hid (HR.out W2 hb12)
 obtain ⟨y0, y1⟩ := cl2 hY2
 have hs1 : W0.heap.size ≤ w1.heap.size := hB1.size
 have HB12 := Lib.hid hb12
 have HX2 := Lib.hid hX2
 have HM2 := Lib.hid hm2
 clear hY2 hB1 hB2 hm1 hm2 hX2 hb12
 go_wp2_with fail
 refine HRt.out.mono ?_
 rintro e w3 ⟨rfl, hb3⟩
 have hb13 : Below W0.heap.size W0 w3 := HB12.out.trans (hb3.mono HB12.out.size)
 have hP3 := known hb13 (Nat.le_refl _) HXP.out
 have hY3 := known hb13 (Nat.le_refl _) HXY.out
 have hR3 := known hb13 (Nat.le_refl _) HX0.out
 have hX3 := known hb3 (Nat.le_refl _) HX2.out
 have hm3 : MapIs w3 b l.length l := HM2.out.kept (below_gb hb3 none) (by simp)
 have hb3s := hb3.size
 have hB03 : Below w.heap.size w w3 := HB0.out.trans (hb13.mono HB0.out.size)
 obtain ⟨p0, p1⟩ := cl2 hP3
 obtain ⟨q0, q1⟩ := cl2 hY3
 have HR3 := Lib.hid hR3
 have HX3 := Lib.hid hX3
 have HB03 := Lib.hid hB03
 clear hb13 hP3 hY3 hR3 hX3 hb3 hB03
 go_wp2_with fail
 go_loopw [9, 39] (fun _ i wr => ∃ k : Nat, k ≤ len2 ∧ i = .int .i64 k ∧ MapIs wr b (l.length + k) (hiPuts l (m.take k)) ∧ w3.grownBy wr (some b)) (fun _ i _ => len2 - (intOf i).toNat)
 case atStart => exact ⟨0, Nat.zero_le _, rfl, hm3, World.grownBy.refl _ _⟩
 case round =>
  obtain ⟨k, hk, rfl, hMp, hG⟩ := hrel
  have hXw := (hG.block _ (Array.getElem?_eq_some_iff.1 HX3.out).1 (fun e => by cases e; omega)).trans HX3.out
  have hXr := (hG.block _ (Array.getElem?_eq_some_iff.1 HR3.out).1 (fun e => by cases e; omega)).trans HR3.out
  have hBw : Below w.heap.size w wr := HB03.out.grown hG HB03.out.size (fun j e => by cases e; omega)
  by_cases hlt : k < len2
  ·obtain ⟨x, b1, o1, hx, ea, hb1, p0, p1⟩ := bin_cells (HM.out.below hBw) hlt
   subst ea
   have HX := Lib.hid hx
   have hxi : I64 x.1 := HC.out.2.2.2.2.1 x (List.mem_of_getElem? hx)
   have hxu : U64 x.2 := HC.out.2.2.2.1 x (List.mem_of_getElem? hx)
   obtain ⟨x1, x2⟩ := x
   dsimp only at p0 p1 hxi hxu
   obtain ⟨W4, hW4, hX4, hB4, hs4⟩ := boxes1 wr #[.int .i64 x1, .int .u64 x2] 123
   have hM4 : MapIs W4 b (l.length + k) (hiPuts l (m.take k)) := hMp.kept (below_gb hB4 none) (by simp)
   have hXw4 := known hB4 (Nat.le_refl _) hXw
   have hP := put_any b (l.length + k) f x1 x2 (hiPuts l (m.take k)) W4 hM4 hxi hxu (by have := HC.out.2.2.2.2.2.1; omega) (hiPuts_up _ _ HC.out.1) (hiPuts_u64 _ _ HC.out.2.1 (fun c hc => HC.out.2.2.2.1 c (List.mem_of_mem_take hc)))
   obtain ⟨u0, u1⟩ := cl2 hX4
   obtain ⟨v0, v1⟩ := cl2 hXw4
   have HG := Lib.hid (hG.trans (below_gb hB4 (some b)))
   have HP := Lib.hid hP
   clear hx hXw hXr hX4 hXw4 hM4 hMp hB4 hG hP
   go_wp2_with fail
   refine HP.out.mono ?_
   rintro e w6 ⟨rfl, hM6, hG6⟩
   go_wp2_with fail
   go_roundw
   case rel => exact ⟨k + 1, by omega, by simp, by rw [take_snoc' HX.out, puts_last]; exact hM6, HG.out.trans hG6⟩
   case measure => simp [intOf]; omega
  ·obtain rfl : k = len2 := by omega
   rw [List.take_of_length_le (by rw [HC.out.2.2.2.2.2.2.2]; exact Nat.le_refl _)] at hMp
   have hD := hdone9_any b (l.length + k) f (hiPuts l m) wr hMp (hiPuts_up _ _ HC.out.1) (hiPuts_u64 _ _ HC.out.2.1 HC.out.2.2.2.1) (fun c hc => by
     rcases hiPuts_mem m l c hc with h | ⟨y, hy, e⟩ | ⟨y, hy, e⟩
     ·exact HC.out.2.2.1 c h
     ·rw [e]; exact HC.out.2.2.1 y hy
     ·rw [e]; exact HC.out.2.2.2.2.1 y hy) (by have := hiPuts_len m l; have := HC.out.2.2.2.2.2.1; have := HC.out.2.2.2.2.2.2.2; omega) (by have := HC.out.2.2.2.2.2.1; omega)
   obtain ⟨u0, u1⟩ := cl2 hXw
   have HD := Lib.hid hD
   have HXr := Lib.hid hXr
   have HBw := Lib.hid hBw
   clear hXw hXr hMp hG hBw hD
   go_wp2_with fail
   refine HD.out.mono ?_
   rintro e w7 ⟨a', len', cap', rfl, hS7, ha7, hg7⟩
   obtain ⟨hR7, V, hV, hXV, hSV, hBV⟩ := hist_out2 (rb := w.heap.size + 1 + 1) f (by omega) (by omega) HXr.out HBw.out hS7 ha7 hg7
   obtain ⟨o0, o1⟩ := cl2 hR7
   obtain ⟨g0, g1⟩ := cz2 hR7
   obtain ⟨j0, j1⟩ := cl2 hXV
   have HE : Hid (SlC encB 2 V.heap.size V a' len' cap' (hiDone (hiPuts l m)) ∧ Below w.heap.size w V) := ⟨hSV, hBV⟩
   clear hR7 hXV hSV hBV hS7 ha7 hg7
   go_wp2_with fail
   exact bodyPost_ret (v := .tuple #[.agg #[.int .i64 f, .slice a' len' cap'], .int .i64 0]) (by simp [results, Tryz.f197, go_sem, j0, j1]) rfl ⟨a', len', cap', rfl, HE.out.1, HE.out.2⟩
end Go.Proofs.YtcbbenncdainfaaGreatDoor
namespace Go.Proofs.YtcbbenncdainfaaGreatDoor
open Go Go.RowKit Go.Shelf
theorem mxK_max (r r2 : List Nat) (n : Nat) (h : r.length = n) : mxK r r2 n = hlMax r r2 := by
 subst h
 exact List.map_congr_left (fun i hi => if_pos (List.mem_range.1 hi))
theorem cmMrg_get (l m : List Int) (k : Nat) (h : k < l.length) : (cmMrg l m)[k]? = some (satI (l.getD k 0) (m.getD k 0)) := by simp [cmMrg, h]
theorem cmLow_get (c : Nat) (l : List Int) (r j : Nat) (hr : r = 0 ∨ r = 1) (hj : j < c / 2) : (cmLow c l)[r * (c / 2) + j]? = some (satI (l.getD (r * c + j) 0) (l.getD (r * c + c / 2 + j) 0)) := by
 have h1 : r * (c / 2) + j < c / 2 + c / 2 := by rcases hr with rfl | rfl <;> omega
 have h2 : (r * (c / 2) + j) / (c / 2) = r := by rw [Nat.mul_comm, Nat.mul_add_div (by omega), Nat.div_eq_of_lt hj, Nat.add_zero]
 have h3 : (r * (c / 2) + j) % (c / 2) = j := by rw [Nat.mul_comm, Nat.mul_add_mod, Nat.mod_eq_of_lt hj]
 unfold cmLow
 rw [List.getElem?_map, List.getElem?_range h1, Option.map_some, h2, h3, show r * c + j + c / 2 = r * c + c / 2 + j by omega]
end Go.Proofs.YtcbbenncdainfaaGreatDoor
namespace Go.Proofs.YtcbbenncdainfaaGreatDoor
open Go Go.RowKit Go.Shelf
theorem ownsN_form {w : World} {base e size n : Nat} {v : Value} {xs : List Value} (h : w.ownsRow base e size v n xs) : ∃ a cap, v = .slice a n cap := by
 rcases h.2 with ⟨rfl, rfl⟩ | ⟨g, cap, cur, rfl, _⟩
 ·exact ⟨none, 0, rfl⟩
 ·exact ⟨_, cap, rfl⟩
theorem ownsN_go {A B : World} {base e size n : Nat} {v : Value} {xs : List Value} (h : A.ownsRow base e size v n xs) (hb : Below A.heap.size A B) : B.ownsRow base e size v n xs := by
 refine ⟨h.1, ?_⟩
 rcases h.2 with h2 | ⟨g, cap, cur, rfl, h3, h4, h5⟩
 ·exact .inl h2
 ·exact .inr ⟨g, cap, cur, rfl, h3, known hb (Nat.le_refl _) h4, h5⟩
def GrowN (W : World) (base : Nat) (v : Value) (l : List Int) : Prop := W.ownsRow base 43 1 v l.length (l.map (Value.int .u64))
theorem GrowN.push {W w0 : World} {B base : Nat} {v : Value} {l : List Int} (h : GrowN W base v l) (hB : Below B w0 W) (hBb : B ≤ base) (hbase : base ≤ W.heap.size) (hn : l.length < 4294967281) (x : Int) :
  ∃ g cap w1, (Builtin.append_ #[22, 22] 22 #[v, .slice (some ⟨W.heap.size, 0, none⟩) 1 1]).run Tryz.prog (W.alloc (.cells #[.int .u64 x] 43)) = .ok (.slice (some ⟨g, 0, none⟩) (l.length + 1) cap) w1 ∧
   GrowN w1 base (.slice (some ⟨g, 0, none⟩) (l.length + 1) cap) (l ++ [x]) ∧ Below B w0 w1 ∧ W.heap.size < w1.heap.size ∧ (∀ k, k < base → w1.heap[k]? = W.heap[k]?) := by
 obtain ⟨g, cap, w1, h1, h2, h3, h4, h5, -⟩ := append_one Tryz.prog 22 und_u64 info_u64 rfl (by decide) (W := W) h hB hBb hbase [.int .u64 x] rfl (by simp [Value.oneCell']) hn (by decide)
 refine ⟨g, cap, w1, h1, ?_, h3, h4, h5⟩
 unfold GrowN
 rw [List.length_append, List.map_append]
 exact h2
theorem GrowN.slC {W : World} {base : Nat} {v : Value} {l : List Int} (h : GrowN W base v l) : ∃ a cap, v = .slice a l.length cap ∧ SlC encU 1 W.heap.size W a l.length cap l := by
 have h1 : W.ownsRow base 43 1 v l.length (l.flatMap encU) := by rw [flat_map]; exact h
 obtain ⟨a, cap, hv, hS, -⟩ := slC_of_owns (enc := encU) (fun _ => rfl) h1
 exact ⟨a, cap, hv, hS⟩
theorem GrowN.form {W : World} {base : Nat} {v : Value} {l : List Int} (h : GrowN W base v l) : ∃ a cap, v = .slice a l.length cap := ownsN_form h
theorem GrowN.go {A B : World} {base : Nat} {v : Value} {l : List Int} (h : GrowN A base v l) (hb : Below A.heap.size A B) : GrowN B base v l := ownsN_go h hb
attribute [-go_sem] Builtin.append_
end Go.Proofs.YtcbbenncdainfaaGreatDoor

/- The reference of layer 7: New, Place, Add, Of, Merge, Lower, Count, at registers that are right. The references' answers in plain data: ranks, greater registers, sums of counters, counters lowered. No program in sight. The reference of layer 8: Add, Merge, Lower, at counters that are right. Printed by gen_de.py. The reference of layer 7: Count, at registers that are right. -/
import Derived.Test.YtcbbenncdainfaaGreatDoorYNC
namespace Go.Proofs.YtcbbenncdainfaaGreatDoor
open Go Go.RowKit Go.Shelf
theorem ref07_isBits_ok (b : Nat) (h1 : 3 ≤ b) (h2 : b ≤ 8) (w : World) : Calls Tryz.prog 82 #[.int .i64 b] w fun e w' => e = .returned (.bool true) ∧ w' = w :=
 (ref07_isBits_any b w).mono fun e w' ⟨h3, h4⟩ => ⟨by rw [h3]; simp [isBitsB]; omega, h4⟩
theorem ref07_Right_ok (b : Nat) (r : List Nat) (w : World) (h1 : 3 ≤ b) (h2 : b ≤ 8) (hl : r.length = 2 ^ b) (hr : ∀ i, r.getD i 0 ≤ 65 - b) :
  Calls Tryz.prog 55 #[.agg #[.int .i64 b, .string (hlStr r)]] w fun e w' => e = .returned (.bool true) ∧ Below w.heap.size w w' :=
 (ref07_Right_any b (hlStr r) w).mono fun e w' h => ⟨by rw [h.1, hlRight_str b r h1 h2 hl hr], h.2⟩
def RegsPost (b : Nat) (r : List Nat) (w : World) (e : Ending) (w' : World) : Prop := e = .returned (.tuple #[.agg #[.int .i64 b, .string (hlStr r)], .int .i64 0]) ∧ Below w.heap.size w w'
theorem store2 {W : World} {b : Nat} {x y : Value} {t : TypeId} (u v : Value) (h : W.heap[b]? = some (.cells #[x, y] t (0, 0))) :
  ∃ V, (W.setCell ⟨b, 0, none⟩ u).setCell ⟨b, 1, none⟩ v = V ∧ V.heap[b]? = some (.cells #[u, v] t (0, 0)) ∧ (∀ n w0, Below n w0 W → n ≤ b → Below n w0 V) :=
 ⟨_, rfl, hSk (hSk h _) _, fun _ _ hb hn => (hb.setCell (p := ⟨b, 0, none⟩) hn _).setCell (p := ⟨b, 1, none⟩) hn _⟩
set_option maxRecDepth 100000 in
set_option maxHeartbeats 1000000 in
theorem ref07_New_any (b : Nat) (w : World) (h1 : 3 ≤ b) (h2 : b ≤ 8) : Calls Tryz.prog 91 #[.int .i64 b] w (RegsPost b (hlNone b) w) := by
 have hib := Lib.hid (fun w => ref07_isBits_ok b h1 h2 w)
 have hp : 2 ^ b ≤ 2 ^ 8 := Nat.pow_le_pow_right (by omega) h2
 have hw : IntKind.i64.wrap (2 ^ b) = ((2 ^ b : Nat) : Int) := by
  have h9 : ∀ n : Nat, n ≤ 256 → IntKind.i64.wrap (n : Int) = n := fun n h => IntWalk.i64_in _ (by omega)
  simpa using h9 (2 ^ b) hp
 unfold hlNone RegsPost
 generalize 2 ^ b = len at hp hw ⊢
 obtain ⟨W0, hW0, hX0, hB0, hs0⟩ := boxes1 w #[.int .i64 0, .string ⟨#[]⟩] 26
 obtain ⟨W1, hmk, hr1, hB1, hs1⟩ := make_u8 W0 len (by omega)
 have hX1 := (hB1.block _ (by omega)).trans hX0
 have hcv := str_cells (cap := len) hr1 (List.length_replicate ..)
 rw [hs0] at hmk hcv
 generalize hlStr (List.replicate len 0) = out at hcv ⊢
 obtain ⟨d0, d1⟩ := cl2 hX1
 obtain ⟨f0, f1⟩ := cz2 hX1
 obtain ⟨V, hV, hXV, hBV⟩ := store2 (.int .i64 b) (.string out) hX1
 obtain ⟨k0, k1⟩ := cl2 hXV
 have HB : Hid (Below w.heap.size w V) := hBV _ _ (hB0.trans (hB1.mono hB0.size)) (Nat.le_refl _)
 clear hp hX0 hX1 hr1 hB0 hB1 hs1 hXV hBV
 go_enter Tryz.func91, Tryz.ntmps91
 go_wp2_with (go_at_call 82; refine (hib.out _).mono ?_; rintro e w' ⟨rfl, rfl⟩)
 exact bodyPost_ret (v := .tuple #[.agg #[.int .i64 b, .string out], .int .i64 0]) (by simp [results, Tryz.f91, go_sem, k0, k1]) rfl ⟨rfl, HB.out⟩
set_option maxRecDepth 100000 in
set_option maxHeartbeats 1000000 in
theorem ref07_Place_any (b n : Nat) (w : World) (h1 : 3 ≤ b) (h2 : b ≤ 8) (hn : n < 2 ^ 64) : Calls Tryz.prog 76 #[.int .i64 b, .int .u64 n] w fun e w' => e = .returned (.tuple #[.int .i64 (hlAt b n : Nat), .int .i64 (hlRank b n : Nat)]) ∧ w' = w := by
 have hib := Lib.hid (fun w => ref07_isBits_ok b h1 h2 w)
 have H12 : Hid (3 ≤ b ∧ b ≤ 8) := ⟨h1, h2⟩
 have HN : Hid (n < 2 ^ 64) := hn
 have HA := Lib.hid (hlAt_lt b n h2 hn)
 have HAt : Hid (hlAt b n = n / 2 ^ (64 - b)) := rfl
 have HS := Lib.hid (fun k => at_step n k)
 have HD := Lib.hid (fun k => low_next b n k)
 have HS0 := Lib.hid (low_start b n (by omega))
 have HR1 := Lib.hid (fun k => rank_one b n k)
 have HR0 := Lib.hid (rank_none b n (by omega))
 have HDg : Hid (∀ j, n / 2 ^ j % 2 = 0 ∨ n / 2 ^ j % 2 = 1) := fun j => by have := Nat.mod_lt (n / 2 ^ j) (show 0 < 2 by omega); omega
 generalize hlAt b n = at_ at HA HAt ⊢
 generalize hlRank b n = rk at HR1 HR0 ⊢
 have ib : (b : Int) ≤ 8 := by omega
 have ib3 : (3 : Int) ≤ b := by omega
 clear hn
 go_enter Tryz.func76, Tryz.ntmps76
 go_wp2_with (go_at_call 82; refine (hib.out _).mono ?_; rintro e w' ⟨rfl, h9⟩; subst w')
 go_loopw [6, 7, 8] (fun av rv i wr => ∃ (k A R : Nat), i = .int .i64 ((63 : Int) - k) ∧ k ≤ 64 ∧ av = .int .i64 A ∧ rv = .int .i64 R ∧ A ≤ 255 ∧ R ≤ 70 ∧ Hid (k ≤ b → A = n / 2 ^ (64 - k) ∧ R = 1) ∧ Hid (b ≤ k → A = at_ ∧ R = 1 + (k - b) ∧ lowZ b n k) ∧ wr = w) (fun _ _ i _ => (intOf i + 1).toNat)
 case atStart => exact ⟨0, 0, 1, rfl, Nat.zero_le _, rfl, rfl, by omega, by omega, fun _ => ⟨(Nat.div_eq_of_lt HN.out).symm, rfl⟩, fun h => by have := H12.out.1; omega, rfl⟩
 case round =>
  obtain ⟨k, A, R, rfl, hk, rfl, rfl, hA, hR, H1, H2, rfl⟩ := hrel
  by_cases hlt : k < 64
  ·obtain ⟨j, hj⟩ : ∃ j : Nat, 63 - k = j := ⟨_, rfl⟩
   have e1 : (63 : Int) - (k : Int) = (j : Int) := by omega
   have hj63 : j ≤ 63 := by omega
   obtain ⟨d, hd⟩ : ∃ d, n / 2 ^ j % 2 = d := ⟨_, rfl⟩
   have hd2 : d ≤ 1 := by rcases HDg.out j with h | h <;> omega
   have HDd := Lib.hid hd
   have hdi : ((n : Int) / 2 ^ j % 2) = (d : Int) := by rw [← hd]; simp
   have hdt : ((n : Int) / 2 ^ j).tmod 2 = (d : Int) := by rw [Int.tmod_eq_emod_of_nonneg (Int.ediv_nonneg (by omega) (Int.le_of_lt (by exact Int.pow_pos (by decide))))]; exact hdi
   rw [e1]
   have HK := Lib.hid hj
   have j0 : (0 : Int) ≤ (j : Int) := by omega
   clear hd
   by_cases hb : k < b
   ·have g1 : (64 : Int) - (b : Int) ≤ (j : Int) := by omega
    have HB := Lib.hid hb
    have HL := Lib.hid hlt
    clear hb hlt hk
    go_wp2_with fail
    go_roundw
    case rel =>
     obtain ⟨a1, a2⟩ := H1.out (Nat.le_of_lt HB.out)
     have hs := HS.out k HL.out
     rw [HK.out, HDd.out, ← a1] at hs
     have hA2 : 2 * A + d ≤ 255 := by
      rw [← hs]
      have hb8 := H12.out.2
      have hbl := HB.out
      have hp : n < 2 ^ (64 - (k + 1)) * 2 ^ 8 := by
       refine Nat.lt_of_lt_of_le HN.out ?_
       rw [← Nat.pow_add]
       exact Nat.pow_le_pow_right (by omega) (by omega)
      have := Nat.div_lt_of_lt_mul hp
      omega
     refine ⟨k + 1, 2 * A + d, R, by first | go_num | (congr 1; omega), by have := HL.out; omega, by first | go_num | (congr 1; omega), rfl, hA2, hR, fun _ => ⟨hs.symm, a2⟩, fun h => ?_, by first | rfl | trivial⟩
     have hk1 : k + 1 = b := by have := HB.out; omega
     subst hk1
     exact ⟨by rw [← hs, HAt.out], by omega, HS0.out⟩
    case measure => simp [intOf]; try omega
   ·have g1 : ¬ (64 : Int) - (b : Int) ≤ (j : Int) := by omega
    have HB : Hid (b ≤ k) := by rw [Hid]; omega
    have HL := Lib.hid hlt
    obtain ⟨a1, a2, a3⟩ := H2.out (by omega)
    have HZ := Lib.hid a3
    rcases (by omega : d = 0 ∨ d = 1) with rfl | rfl
    ·have HNx := Lib.hid (HD.out k HB.out HL.out HZ.out (by rw [HK.out]; exact HDd.out))
     have HRk : Hid (A = at_ ∧ R = 1 + (k - b)) := ⟨a1, a2⟩
     have hR2 : R ≤ 69 := by have := H12.out.1; omega
     clear hb hlt hk a1 a2 a3
     go_wp2_with fail
     go_roundw
     case rel =>
      refine ⟨k + 1, A, R + 1, by first | go_num | (congr 1; omega), by have := HL.out; omega, rfl, by first | go_num | (congr 1; omega), hA, by omega, fun h => by have := HB.out; omega, fun _ => ⟨HRk.out.1, by have := HRk.out.2; have := HB.out; omega, HNx.out⟩, by first | rfl | trivial⟩
     case measure => simp [intOf]; try omega
    ·have HF := Lib.hid (HR1.out k HB.out HL.out HZ.out (by rw [HK.out]; exact HDd.out))
     have HRk : Hid (A = at_ ∧ R = 1 + (k - b)) := ⟨a1, a2⟩
     clear hb hlt hk a1 a2 a3
     go_wp2_with fail
     go_ret2
     exact ⟨by rw [HRk.out.1, HRk.out.2, HF.out]; rfl, rfl⟩
  ·obtain rfl : k = 64 := by omega
   obtain ⟨a1, a2, a3⟩ := H2.out (by have := H12.out.2; omega)
   have HF := Lib.hid (HR0.out a3)
   have HRk : Hid (A = at_ ∧ R = 1 + (64 - b)) := ⟨a1, a2⟩
   have e1 : (63 : Int) - ((64 : Nat) : Int) = -1 := rfl
   rw [e1]
   clear a1 a2 a3 hk hlt
   go_wp2_with fail
   go_ret2
   exact ⟨by rw [HRk.out.1, HRk.out.2, HF.out, show 1 + (64 - b) = 65 - b by have := H12.out.2; omega]; rfl, rfl⟩
set_option maxRecDepth 100000 in
set_option maxHeartbeats 2000000 in
theorem ref07_Add_any (b : Nat) (r : List Nat) (n : Nat) (w : World) (h1 : 3 ≤ b) (h2 : b ≤ 8) (hl : r.length = 2 ^ b) (hr : ∀ i, r.getD i 0 ≤ 65 - b) (hn : n < 2 ^ 64) :
  Calls Tryz.prog 49 #[.agg #[.int .i64 b, .string (hlStr r)], .int .u64 n] w (RegsPost b (hlAdd b r n) w) := by
 have hR := Lib.hid (fun w1 => ref07_Right_ok b r w1 h1 h2 hl hr)
 have hPl := Lib.hid (fun w1 => ref07_Place_any b n w1 h1 h2 hn)
 have hp := hlAt_lt b n h2 hn
 have hrk : hlRank b n ≤ 65 := by unfold hlRank; split <;> omega
 have hx := hr (hlAt b n)
 have hnum := hlStr_nums r (fun x hx => by have := le_getD hr x hx; omega)
 have hz := hlStr_size r
 have hp8 : 2 ^ b ≤ 2 ^ 8 := Nat.pow_le_pow_right (by omega) h2
 unfold hlAdd RegsPost
 generalize hlAt b n = p at hPl hp hx ⊢
 generalize hlRank b n = k at hPl hrk ⊢
 obtain ⟨x, hxe⟩ : ∃ x, r.getD p 0 = x := ⟨_, rfl⟩
 have hxs : r[p]? = some x := by rw [← hxe, List.getD_eq_getElem?_getD, List.getElem?_eq_getElem (by omega)]; rfl
 have hx65 : x ≤ 65 := by omega
 unfold hlTell
 rw [hxe]
 obtain ⟨m, hm⟩ : ∃ m, max x k = m := ⟨_, rfl⟩
 have hmi : max (x : Int) (k : Int) = (m : Int) := by omega
 have hm8 : IntKind.u8.wrap (m : Int) = (m : Int) := by
  have : m < 256 := by omega
  simp [IntKind.wrap, IntKind.bits, IntKind.signed]
  omega
 rw [hm]
 obtain ⟨out, hout⟩ : ∃ out, hlStr (r.set p m) = out := ⟨_, rfl⟩
 rw [hout]
 have HOUT := Lib.hid hout
 have HXS := Lib.hid hxs
 have HL := Lib.hid hl
 generalize hlStr r = s at hR hnum hz ⊢
 have HN := Lib.hid hnum
 have hsz : s.size = 2 ^ b := by omega
 obtain ⟨W0, hW0, hX0, hXr, hB0, hs0⟩ := boxes2 w #[.int .i64 b, .string s] 26 #[.int .i64 0, .string ⟨#[]⟩] 26
 have HX0 := Lib.hid hX0
 have HXr := Lib.hid hXr
 have HB0 := Lib.hid hB0
 obtain ⟨c0, c1⟩ := cl2 hX0
 have HSZ := Lib.hid hsz
 have pi : (p : Int) < ((2 ^ b : Nat) : Int) := by omega
 clear hX0 hXr hB0 hnum hz hsz hout hxs hl hr hx hxe h1 h2 hn hm
 go_enter Tryz.func49, Tryz.ntmps49
 go_wp2_with fail
 refine (hR.out _).mono ?_
 rintro e w1 ⟨rfl, hb1⟩
 have hX1 := known hb1 (Nat.le_refl _) HX0.out
 have hXr1 := known hb1 (Nat.le_refl _) HXr.out
 obtain ⟨d0, d1⟩ := cl2 hX1
 have HB1 := Lib.hid hb1
 obtain ⟨W2, cap, hcv, hr2, hB2, hs2⟩ := run_bytes_of w1 s
 rw [HN.out] at hr2
 rw [HSZ.out] at hcv
 generalize hg : w1.heap.size = g at hcv hr2 hB2 hs2
 have hgw : w.heap.size + 1 < g := by rw [← hg]; have := hb1.size; omega
 have q0 := hr2.cell HXS.out
 have q1 := hr2.frozen HXS.out
 obtain ⟨W3, hW3⟩ : ∃ W3, W2.setCell ⟨g, p, none⟩ (.int .u8 (m : Int)) = W3 := ⟨_, rfl⟩
 have hr3 : RegsAt W3 g (r.set p m) := by rw [← hW3]; exact hr2.set p m
 have hX3 : W3.heap[w.heap.size]? = some (.cells #[.int .i64 b, .string s] 26 (0, 0)) := by
  rw [← hW3]
  exact (heap_set_other (p := ⟨g, p, none⟩) (by show g ≠ _; omega) _).trans ((hB2.block _ (by omega)).trans hX1)
 have hXr3 : W3.heap[w.heap.size + 1]? = some (.cells #[.int .i64 0, .string ⟨#[]⟩] 26 (0, 0)) := by
  rw [← hW3]
  exact (heap_set_other (p := ⟨g, p, none⟩) (by show g ≠ _; omega) _).trans ((hB2.block _ (by omega)).trans hXr1)
 have hB3 : Below w.heap.size w W3 := by
  rw [← hW3]
  exact ((HB0.out.trans (HB1.out.mono HB0.out.size)).trans (hB2.mono (by omega))).setCell (p := ⟨g, p, none⟩) (by show w.heap.size ≤ g; omega) _
 have hcs := str_cells (cap := cap) hr3 (List.length_set.trans HL.out)
 rw [HOUT.out] at hcs
 obtain ⟨u0, u1⟩ := cl2 hX3
 obtain ⟨y0, y1⟩ := cl2 hXr3
 obtain ⟨f0, f1⟩ := cz2 hXr3
 obtain ⟨V, hV, hXV, hBV⟩ := store2 (.int .i64 b) (.string out) hXr3
 obtain ⟨k0, k1⟩ := cl2 hXV
 have HBV : Hid (Below w.heap.size w V) := hBV _ _ hB3 (by omega)
 clear hX1 hXr1 hg hr2 hB2 hs2 hr3 hX3 hXr3 hB3 hXV hBV hb1
 go_wp2_with (go_at_call 76; refine (hPl.out _).mono ?_; rintro e w' ⟨rfl, h9⟩; subst w')
 exact bodyPost_ret (v := .tuple #[.agg #[.int .i64 b, .string out], .int .i64 0]) (by simp [results, Tryz.f49, go_sem, k0, k1]) rfl ⟨rfl, HBV.out⟩
theorem sum_snoc (b : Nat) (r : List Nat) (l : List Nat) (n : Nat) : hlSum b r (l ++ [n]) = hlAdd b (hlSum b r l) n := by unfold hlSum; rw [List.foldl_append]; rfl
set_option maxRecDepth 100000 in
set_option maxHeartbeats 2000000 in
theorem ref07_Of_any (b : Nat) (l : List Int) (a : Option Addr) (len cap : Nat) (w : World) (h1 : 3 ≤ b) (h2 : b ≤ 8) (hL : SlE encU 1 w.heap.size w a len l) (hu : U64s l) (hlen : len ≤ 1000) :
  Calls Tryz.prog 68 #[.int .i64 b, .slice a len cap] w (RegsPost b (hlSum b (hlNone b) (l.map Int.toNat)) w) := by
 have hll := hL.1
 obtain ⟨W0, hW0, hXr, hB0, hs0⟩ := boxes1 w #[.int .i64 0, .string ⟨#[]⟩] 26
 have HL := Lib.hid (hL.go hB0)
 have HN : Hid (∀ W, Calls Tryz.prog 91 #[.int .i64 b] W (RegsPost b (hlNone b) W)) := fun W => ref07_New_any b W h1 h2
 have HA : Hid (∀ (r : List Nat) (n : Nat) W, r.length = 2 ^ b → (∀ i, r.getD i 0 ≤ 65 - b) → n < 2 ^ 64 → Calls Tryz.prog 49 #[.agg #[.int .i64 b, .string (hlStr r)], .int .u64 n] W (RegsPost b (hlAdd b r n) W)) := fun r n W hl hr hn => ref07_Add_any b r n W h1 h2 hl hr hn
 have HLn : Hid (∀ m : List Nat, (hlSum b (hlNone b) m).length = 2 ^ b) := fun m => by rw [hlSum_len]; exact List.length_replicate ..
 have HLe : Hid (∀ (m : List Nat) i, (hlSum b (hlNone b) m).getD i 0 ≤ 65 - b) := fun m => hlSum_le b h2 m _ (hlNone_le b _)
 have HS0 : Hid (hlSum b (hlNone b) ((l.take 0).map Int.toNat) = hlNone b) := rfl
 have HSn : Hid (∀ (k : Nat) (x : Int), l[k]? = some x → hlSum b (hlNone b) ((l.take (k + 1)).map Int.toNat) = hlAdd b (hlSum b (hlNone b) ((l.take k).map Int.toNat)) x.toNat) := fun k x hx => by rw [take_snoc' hx, List.map_append]; exact sum_snoc ..
 obtain ⟨S, hS⟩ : ∃ S : Nat → List Nat, ∀ k, S k = hlSum b (hlNone b) ((l.take k).map Int.toNat) := ⟨_, fun _ => rfl⟩
 have HS := Lib.hid hS
 have HEn : Hid (S len = hlSum b (hlNone b) (l.map Int.toNat)) := by rw [Hid, hS, List.take_of_length_le (by omega)]
 have HU := Lib.hid hu
 have HLL := Lib.hid hll
 have HXr := Lib.hid hXr
 have HB0 := Lib.hid hB0
 unfold RegsPost
 rw [← HEn.out]
 obtain ⟨out, hout⟩ : ∃ out, hlStr (S len) = out := ⟨_, rfl⟩
 rw [hout]
 have HOUT := Lib.hid hout
 clear hXr hB0 hL hll hu h1 h2 hS hout
 go_enter Tryz.func68, Tryz.ntmps68
 go_wp2_with fail
 refine (HN.out _).mono ?_
 rintro e w1 ⟨rfl, hb1⟩
 obtain ⟨W2, hW2, hX2, hB2, hs2⟩ := boxes1 w1 #[.int .i64 b, .string (hlStr (hlNone b))] 26
 have hz1 := hb1.size
 have hb02 := hb1.trans (hB2.mono hb1.size)
 have HX2 : Hid (W2.heap[w1.heap.size]? = some (.cells #[.int .i64 b, .string (hlStr (S 0))] 26 (0, 0))) := by rw [Hid, HS.out, HS0.out]; exact hX2
 have HB2 := Lib.hid hb02
 clear hX2 hB2 hs2 hb1 hb02
 go_wp2_with fail
 go_loopw [7, 8] (fun ev i wr => ∃ k : Nat, ev = .int .i64 0 ∧ i = .int .i64 k ∧ k ≤ len ∧ Hid (wr.heap[w1.heap.size]? = some (.cells #[.int .i64 b, .string (hlStr (S k))] 26 (0, 0))) ∧ Hid (Below W0.heap.size W0 wr)) (fun _ i _ => len - (intOf i).toNat)
 case atStart => exact ⟨0, rfl, rfl, Nat.zero_le _, HX2, HB2⟩
 case round =>
  obtain ⟨k, rfl, rfl, hk, HX, HB⟩ := hrel
  have i0 : (0 : Int) ≤ (k : Int) := Int.natCast_nonneg _
  have hXk := HX.out
  obtain ⟨c0, c1⟩ := cl2 hXk
  by_cases hlt : k < len
  ·obtain ⟨x, hx⟩ : ∃ x, l[k]? = some x := ⟨_, List.getElem?_eq_getElem (by rw [← HLL.out]; exact hlt)⟩
   obtain ⟨bb, off, rfl, hbb, hc⟩ := HL.out.2 k x hx
   have hc0 : wr.cell? ⟨bb, off + k, none⟩ = some (.int .u64 x) := by
    have h1 := hc 0 (by omega)
    simp only [Nat.mul_one, Nat.add_zero] at h1
    exact (HB.out.cell (p := ⟨bb, off + k, none⟩) hbb).trans h1
   obtain ⟨x0, x1⟩ := HU.out x (List.mem_of_getElem? hx)
   obtain ⟨n, rfl⟩ := Int.eq_ofNat_of_zero_le x0
   have HSk : Hid (S (k + 1) = hlAdd b (S k) n) := by rw [Hid, HS.out, HS.out, HSn.out k _ hx, Int.toNat_natCast]
   have HAd := Lib.hid (HA.out (S k) n wr.drew (by rw [HS.out]; exact HLn.out _) (by rw [HS.out]; exact HLe.out _) (by omega))
   have i1 : (k : Int) < (len : Int) := by omega
   obtain ⟨f0, f1⟩ := cz2 hXk
   generalize hlStr (S k) = sk at hXk c1 HAd HX
   have HXk : Hid (wr.drew.heap[w1.heap.size]? = some (.cells #[.int .i64 b, .string sk] 26 (0, 0))) := hXk
   have hBd : Below W0.heap.size W0 wr.drew := HB.out.drew
   have HB := Lib.hid hBd
   clear hc hx hXk HX x0 x1 hBd
   have HZ : Hid (W0.heap.size ≤ w1.heap.size) := hz1
   go_wp2_with fail
   -- region Of
   refine wp_region_any (by kernel_rfl) ?_
   change wpAny _ _ _ _ _ _ _ (World.drew _)
   refine tk 1 (v := ?_) rfl ?_ ?_
   rotate_left
   ·intro w; go_simp; with_reducible rfl
   refine tk 2 (v := ?_) rfl ?_ ?_
   rotate_left
   ·intro w; go_simp; with_reducible rfl
   refine tk 3 (v := ?_) rfl ?_ ?_
   rotate_left
   ·intro w; go_simp; with_reducible rfl
   refine wpAny_ready (rs := [0, 4]) (by kernel_rfl) (by simp) ?_
   refine AllReady.cons rfl (fun K hK => ?_) ?_
   ·go_simp
    refine hK _ _ ?_
    clear hK K
    refine wpAny_ready (rs := [4]) (by kernel_rfl) (by simp) ?_
    refine AllReady.cons rfl (fun K hK => ?_) ?_
    ·go_simp
     refine hK _ _ ?_
     clear hK K
     refine wpAny_ready (rs := [5]) (by kernel_rfl) (by simp) ?_
     refine AllReady.cons rfl (fun K hK => ?_) ?_
     ·go_simp
      refine HAd.out.mono ?_
      rintro e w3 ⟨rfl, hb3⟩
      have hX3 := known hb3 (Nat.le_refl _) HXk.out
      obtain ⟨g0, g1⟩ := cz2 hX3
      obtain ⟨d0, d1⟩ := cl2 hX3
      obtain ⟨V, hV, hXV, hBV⟩ := store2 (.int .i64 b) (.string (hlStr (hlAdd b (S k) n))) hX3
      refine hK _ _ ?_
      clear hK K
      refine tk 6 (v := ?_) rfl ?_ ?_
      rotate_left
      ·intro w; go_simp; with_reducible rfl
      refine tk 7 (v := ?_) rfl ?_ ?_
      rotate_left
      ·intro w; go_simp; with_reducible rfl
      refine tk 8 (v := ?_) rfl ?_ ?_
      rotate_left
      ·intro w; go_simp; with_reducible rfl
      refine wpAny_ready (rs := [9]) (by kernel_rfl) (by simp) ?_
      refine AllReady.cons rfl (fun K hK => ?_) ?_
      ·go_simp
       refine hK _ _ ?_
       clear hK K
       refine wpAny_ready (rs := [10]) (by kernel_rfl) (by simp) ?_
       refine AllReady.cons rfl (fun K hK => ?_) ?_
       ·go_simp
        refine hK _ _ ?_
        clear hK K
        refine wpAny_done (by kernel_rfl) ?_ _
        go_wp2_with fail
        all_goals go_roundw
        case rel => exact ⟨k + 1, rfl, by go_num, by omega, by rw [Hid, HSk.out]; exact hXV, hBV _ _ (HB.out.trans (hb3.mono HB.out.size)) HZ.out⟩
        case measure => simp [intOf]; try omega
       exact AllReady.nil
      exact AllReady.nil
     exact AllReady.nil
    exact AllReady.nil
   refine AllReady.cons rfl (fun K hK => ?_) ?_
   ·go_simp
    refine hK _ _ ?_
    clear hK K
    refine wpAny_ready (rs := [0]) (by kernel_rfl) (by simp) ?_
    refine AllReady.cons rfl (fun K hK => ?_) ?_
    ·go_simp
     refine hK _ _ ?_
     clear hK K
     refine wpAny_ready (rs := [5]) (by kernel_rfl) (by simp) ?_
     refine AllReady.cons rfl (fun K hK => ?_) ?_
     ·go_simp
      refine HAd.out.mono ?_
      rintro e w3 ⟨rfl, hb3⟩
      have hX3 := known hb3 (Nat.le_refl _) HXk.out
      obtain ⟨g0, g1⟩ := cz2 hX3
      obtain ⟨d0, d1⟩ := cl2 hX3
      obtain ⟨V, hV, hXV, hBV⟩ := store2 (.int .i64 b) (.string (hlStr (hlAdd b (S k) n))) hX3
      refine hK _ _ ?_
      clear hK K
      refine tk 6 (v := ?_) rfl ?_ ?_
      rotate_left
      ·intro w; go_simp; with_reducible rfl
      refine tk 7 (v := ?_) rfl ?_ ?_
      rotate_left
      ·intro w; go_simp; with_reducible rfl
      refine tk 8 (v := ?_) rfl ?_ ?_
      rotate_left
      ·intro w; go_simp; with_reducible rfl
      refine wpAny_ready (rs := [9]) (by kernel_rfl) (by simp) ?_
      refine AllReady.cons rfl (fun K hK => ?_) ?_
      ·go_simp
       refine hK _ _ ?_
       clear hK K
       refine wpAny_ready (rs := [10]) (by kernel_rfl) (by simp) ?_
       refine AllReady.cons rfl (fun K hK => ?_) ?_
       ·go_simp
        refine hK _ _ ?_
        clear hK K
        refine wpAny_done (by kernel_rfl) ?_ _
        go_wp2_with fail
        all_goals go_roundw
        case rel => exact ⟨k + 1, rfl, by go_num, by omega, by rw [Hid, HSk.out]; exact hXV, hBV _ _ (HB.out.trans (hb3.mono HB.out.size)) HZ.out⟩
        case measure => simp [intOf]; try omega
       exact AllReady.nil
      exact AllReady.nil
     exact AllReady.nil
    exact AllReady.nil
   exact AllReady.nil
   -- end
  ·obtain rfl : k = len := by omega
   rw [HOUT.out] at hXk c1
   have hXr : wr.heap[w.heap.size]? = some (.cells #[.int .i64 0, .string ⟨#[]⟩] 26 (0, 0)) := known HB.out (Nat.le_refl _) HXr.out
   obtain ⟨t0, t1⟩ := cl2 hXr
   obtain ⟨f0, f1⟩ := cz2 hXr
   obtain ⟨V, hV, hXV, hBV⟩ := store2 (.int .i64 b) (.string out) hXr
   obtain ⟨v0, v1⟩ := cl2 hXV
   have HBV : Hid (Below w.heap.size w V) := hBV _ _ (HB0.out.trans (HB.out.mono HB0.out.size)) (Nat.le_refl _)
   clear hXr hXV hBV hXk HX
   go_wp2_with fail
   exact bodyPost_ret (v := .tuple #[.agg #[.int .i64 b, .string out], .int .i64 0]) (by simp [results, Tryz.f68, go_sem, v0, v1]) rfl ⟨rfl, HBV.out⟩
set_option maxRecDepth 100000 in
set_option maxHeartbeats 4000000 in
theorem ref07_Lower_any (b : Nat) (r : List Nat) (w : World) (h1 : 4 ≤ b) (h2 : b ≤ 8) (hl : r.length = 2 ^ b) (hr : ∀ i, r.getD i 0 ≤ 65 - b) :
  Calls Tryz.prog 69 #[.agg #[.int .i64 b, .string (hlStr r)]] w (RegsPost (b - 1) (hlLow b r) w) := by
 have hR := Lib.hid (fun w1 => ref07_Right_ok b r w1 (by omega) h2 hl hr)
 have hby : Hid (∀ (i : Nat) (hi : i < (hlStr r).size), ((hlStr r)[i]'hi).toNat = r.getD i 0) := fun i hi => str_byte r (fun x hx => by have := le_getD hr x hx; omega) i hi
 have hz := hlStr_size r
 rw [hl] at hz
 unfold RegsPost
 rw [show (((b - 1 : Nat)) : Int) = (b : Int) - 1 by omega]
 obtain ⟨out, hout⟩ : ∃ out, hlStr (hlLow b r) = out := ⟨_, rfl⟩
 rw [hout]
 have HOUT := Lib.hid hout
 have HRb := Lib.hid hr
 have HK0 := Lib.hid (lowK_0 b r)
 have HKA := Lib.hid (lowK_all b r)
 have HKL := Lib.hid (fun k => lowK_len b r k)
 have HKS := Lib.hid (fun k => lowK_step b r k)
 have HKT := Lib.hid (fun k i (hi : i < 2 ^ (b - 1)) => lowK_at b r k i hi)
 have hN8 : 2 ^ (b - 1) ≤ 2 ^ 7 := Nat.pow_le_pow_right (by omega) (by omega)
 have hzN : (hlStr r).size = 2 * 2 ^ (b - 1) := by rw [hz, ← Nat.pow_succ', show (b - 1).succ = b by omega]
 have HN0 : Hid (hlNone (b - 1) = List.replicate (2 ^ (b - 1)) 0) := rfl
 generalize hlStr r = s at hR hby hzN ⊢
 generalize 2 ^ (b - 1) = N at hN8 hzN HKA HKL HKT HN0
 have hN128 : N ≤ 128 := hN8
 obtain ⟨W0, hW0, hX0, hXr, hB0, hs0⟩ := boxes2 w #[.int .i64 b, .string s] 26 #[.int .i64 0, .string ⟨#[]⟩] 26
 have HX : Hid (∀ W, Below W0.heap.size W0 W → W.heap[w.heap.size]? = some (.cells #[.int .i64 b, .string s] 26 (0, 0)) ∧ W.heap[w.heap.size + 1]? = some (.cells #[.int .i64 0, .string ⟨#[]⟩] 26 (0, 0))) := fun W hb => ⟨known hb (Nat.le_refl _) hX0, known hb (Nat.le_refl _) hXr⟩
 have HB0 := Lib.hid hB0
 obtain ⟨c0, c1⟩ := cl2 hX0
 have HZN := Lib.hid hzN
 have hb3 : ((b : Int) == 3) = false := by rw [beq_eq_false_iff_ne]; omega
 have hq1 : (s.size : Int) / 2 = (N : Int) := by omega
 have hq2 : (s.size : Int).tdiv 2 = (N : Int) := by rw [Int.tdiv_eq_ediv_of_nonneg (Int.natCast_nonneg _)]; exact hq1
 have hb8 : (b : Int) ≤ 8 := by omega
 have hb4 : (4 : Int) ≤ b := by omega
 clear hX0 hXr hB0 hz hout hl hr hzN hN8
 go_enter Tryz.func69, Tryz.ntmps69
 go_wp2_with fail
 refine (hR.out _).mono ?_
 rintro e w1 ⟨rfl, hb1⟩
 obtain ⟨hX1, hXr1⟩ := HX.out w1 hb1
 obtain ⟨x0, x1⟩ := cl2 hX1
 obtain ⟨W3, hmk, hr3, hB3, hs3⟩ := make_u8 w1 N (by omega)
 generalize hg : w1.heap.size = g at hmk hr3 hB3 hs3
 have hz01 := hb1.size
 have hgw : w.heap.size + 1 < g := by omega
 have HK : Hid (∀ W, OnlyAt g W3 W → W.heap[w.heap.size]? = some (.cells #[.int .i64 b, .string s] 26 (0, 0)) ∧ W.heap[w.heap.size + 1]? = some (.cells #[.int .i64 0, .string ⟨#[]⟩] 26 (0, 0))) := fun W ho =>
  ⟨(ho.2 _ (by omega)).trans ((hB3.block _ (by omega)).trans hX1), (ho.2 _ (by omega)).trans ((hB3.block _ (by omega)).trans hXr1)⟩
 have HB3 : Hid (Below w.heap.size w W3) := (HB0.out.trans (hb1.mono HB0.out.size)).trans (hB3.mono (by omega))
 have HR3 : Hid (RegsAt W3 g (lowK b r 0)) := by rw [HK0.out, HN0.out]; exact hr3
 clear hX1 hXr1 hr3 hB3 hs3 hb1 hg hz01
 go_wp2_with fail
 go_loopw [5] (fun i wr => ∃ k : Nat, i = .int .i64 k ∧ k ≤ N ∧ Hid (OnlyAt g W3 wr) ∧ Hid (RegsAt wr g (lowK b r k)) ∧ Hid (Below w.heap.size w wr)) (fun i _ => N - (intOf i).toNat)
 case atStart => exact ⟨0, rfl, Nat.zero_le _, OnlyAt.refl _ _, HR3, HB3⟩
 case round =>
  obtain ⟨k, rfl, hk, HO, HRk, HBk⟩ := hrel
  obtain ⟨hX4, hXr4⟩ := HK.out wr HO.out
  obtain ⟨u0, u1⟩ := cl2 hX4
  have i0 : (0 : Int) ≤ (k : Int) := Int.natCast_nonneg _
  by_cases hlt : k < N
  ·have hs1 : 2 * k < s.size := by rw [HZN.out]; omega
   have hs2 : 2 * k + 1 < s.size := by rw [HZN.out]; omega
   have ex := hby.out (2 * k) hs1
   have ey := hby.out (2 * k + 1) hs2
   have HS := Lib.hid (HKS.out k)
   have hxb := HRb.out (2 * k)
   have hkt := HKT.out k k hlt
   rw [if_neg (by omega)] at hkt
   have hkl := HKL.out k
   generalize r.getD (2 * k) 0 = x at ex HS hxb
   generalize r.getD (2 * k + 1) 0 = y at ey HS
   generalize lowK b r k = r0 at HRk HS hkt hkl
   have hxs : r0[k]? = some 0 := by
    rw [List.getD_eq_getElem?_getD] at hkt
    rw [List.getElem?_eq_getElem (by omega)] at hkt ⊢
    exact congrArg some hkt
   have q0 := HRk.out.cell hxs
   have q1 := HRk.out.frozen hxs
   have i1 : (k : Int) < (N : Int) := by omega
   have HG : Hid (w.heap.size ≤ g) := by show w.heap.size ≤ g; omega
   have ht : ∀ m, hlTell r0 k m = r0.set k m := fun m => by unfold hlTell; rw [hkt, Nat.zero_max]
   have HT := Lib.hid ht
   have hlen0 : r0.length = N := hkl
   clear hX4 hXr4 hkt hkl hxs ht
   by_cases hx : x = 0
   ·subst hx
    by_cases hy : y = 0
    ·subst hy
     go_wp2_with fail
     all_goals go_roundw
     case rel => exact ⟨k + 1, by go_num, by omega, HO.out, by rw [Hid, ← HS.out]; show RegsAt _ g (hlTell (hlTell r0 k 0) k 0); rw [tell_zero, tell_zero]; exact HRk.out, HBk.out⟩
     case measure => simp [intOf]; try omega
    ·have hy0 : (0 : Int) < (y : Int) := by omega
     have h1y : Hid (oneR y = 1) := if_neg hy
     have hmx : max (0 : Int) 1 = 1 := rfl
     clear hy
     go_wp2_with fail
     all_goals go_roundw
     case rel => exact ⟨k + 1, by go_num, by omega, HO.out.set k _, by rw [Hid, ← HS.out, show upR 0 = 0 from rfl, tell_zero, h1y.out, HT.out]; exact HRk.out.set k 1, HBk.out.setCell (p := ⟨g, k, none⟩) HG.out _⟩
     case measure => simp [intOf]; try omega
   ·have hx0 : (0 : Int) < (x : Int) := by omega
    have hup : Hid (upR x = x + 1) := if_neg hx
    have hm : ((x : Int) + 1) % 256 = (x : Int) + 1 := by omega
    have hm2 : IntKind.u8.wrap ((x : Int) + 1) = (x : Int) + 1 := by simp [IntKind.wrap, IntKind.bits, IntKind.signed]; omega
    have hmx : max ((x : Int) + 1) 1 = (x : Int) + 1 := by omega
    have hx1 : Hid (∀ (l : List Nat), (l.set k (x + 1)).length = N → (hlTell (l.set k (x + 1)) k 1) = (l.set k (x + 1)).set k (x + 1)) := fun l hl => by
     unfold hlTell
     rw [List.length_set] at hl
     rw [List.getD_eq_getElem?_getD, List.getElem?_set, if_pos rfl, if_pos (by omega)]
     simp
    have HLr : Hid ((r0.set k (x + 1)).length = N) := by rw [Hid, List.length_set, hlen0]
    clear hx
    obtain ⟨W4, hW4⟩ : ∃ W4, wr.setCell ⟨g, k, none⟩ (.int .u8 ((x : Int) + 1)) = W4 := ⟨_, rfl⟩
    have hO4 : OnlyAt g W3 W4 := by rw [← hW4]; exact HO.out.set k _
    have hR4 : RegsAt W4 g (r0.set k (x + 1)) := by rw [← hW4]; exact HRk.out.set k (x + 1)
    have hB4 : Below w.heap.size w W4 := by rw [← hW4]; exact HBk.out.setCell (p := ⟨g, k, none⟩) HG.out _
    obtain ⟨hX5, -⟩ := HK.out W4 hO4
    obtain ⟨z0, z1⟩ := cl2 hX5
    have hx5 : (r0.set k (x + 1))[k]? = some (x + 1) := by
     have := HLr.out
     rw [List.length_set] at this
     rw [List.getElem?_set, if_pos rfl, if_pos (by omega)]
    have q2 : W4.cell? ⟨g, k, none⟩ = some (.int .u8 ((x : Int) + 1)) := hR4.cell hx5
    have q3 := hR4.frozen hx5
    have HO4 := Lib.hid hO4
    have HR4 := Lib.hid hR4
    have HB4 := Lib.hid hB4
    clear hX5 hx5 hO4 hR4 hB4
    by_cases hy : y = 0
    ·subst hy
     go_wp2_with fail
     all_goals go_roundw
     case rel => exact ⟨k + 1, by go_num, by omega, HO4.out, by rw [Hid, ← HS.out, hup.out, HT.out]; show RegsAt _ g (hlTell (r0.set k (x + 1)) k 0); rw [tell_zero]; exact HR4.out, HB4.out⟩
     case measure => simp [intOf]; try omega
    ·have hy0 : (0 : Int) < (y : Int) := by omega
     have h1y : Hid (oneR y = 1) := if_neg hy
     clear hy
     go_wp2_with fail
     all_goals go_roundw
     case rel => exact ⟨k + 1, by go_num, by omega, HO4.out.set k _, by rw [Hid, ← HS.out, hup.out, HT.out, h1y.out, hx1.out _ HLr.out]; exact HR4.out.set k (x + 1), HB4.out.setCell (p := ⟨g, k, none⟩) HG.out _⟩
     case measure => simp [intOf]; try omega
  ·obtain rfl : k = N := by omega
   have hcs := str_cells (cap := k) HRk.out (HKL.out k)
   rw [HKA.out, HOUT.out] at hcs
   obtain ⟨t0, t1⟩ := cl2 hXr4
   obtain ⟨f0, f1⟩ := cz2 hXr4
   obtain ⟨V, hV, hXV, hBV⟩ := store2 (.int .i64 ((b : Int) - 1)) (.string out) hXr4
   obtain ⟨v0, v1⟩ := cl2 hXV
   have HBV : Hid (Below w.heap.size w V) := hBV _ _ HBk.out (by omega)
   clear hX4 hXr4 hXV hBV
   go_wp2_with fail
   exact bodyPost_ret (v := .tuple #[.agg #[.int .i64 ((b : Int) - 1), .string out], .int .i64 0]) (by simp [results, Tryz.f69, go_sem, v0, v1]) rfl ⟨rfl, HBV.out⟩
end Go.Proofs.YtcbbenncdainfaaGreatDoor
namespace Go.Proofs.YtcbbenncdainfaaGreatDoor
open Go Go.RowKit Go.Shelf
def refRank (p n : Int) (l : List (Int × Int)) : Int := l.foldl (fun n b => if b.1 ≤ p then satI n b.2 else n) n
theorem refRank_snoc (p n : Int) (l : List (Int × Int)) (b : Int × Int) : refRank p n (l ++ [b]) = if b.1 ≤ p then satI (refRank p n l) b.2 else refRank p n l := by unfold refRank; rw [List.foldl_append]; rfl
theorem refRank_far (p : Int) : ∀ (l : List (Int × Int)) (n : Int), (∀ b ∈ l, p < b.1) → refRank p n l = n
 | [], _, _ => rfl
 | b :: l, n, h => by
  show refRank p (if b.1 ≤ p then satI n b.2 else n) l = n
  rw [if_neg (by have := h b List.mem_cons_self; omega)]
  exact refRank_far p l n (fun c hc => h c (List.mem_cons_of_mem _ hc))
theorem rank_ref (p : Int) : ∀ (l : List (Int × Int)) (n : Int), BinUp l → rkGo p n (hsSums n l) = refRank p n l
 | [], _, _ => rfl
 | b :: l, n, h => by
  obtain ⟨h1, h2⟩ := binUp_tail h
  show (if p < b.1 then n else rkGo p (satI n b.2) (hsSums (satI n b.2) l)) = refRank p (if b.1 ≤ p then satI n b.2 else n) l
  by_cases hp : p < b.1
  ·rw [if_pos hp, if_neg (by omega), refRank_far p l n (fun c hc => by have := h2 c hc; omega)]
  ·rw [if_neg hp, if_pos (by omega)]
   exact rank_ref p l _ h1
theorem refRank_u64 (p : Int) : ∀ (l : List (Int × Int)) (n : Int), BinsU l → U64 n → U64 (refRank p n l)
 | [], _, _, h => h
 | b :: l, n, hu, h => by
  show U64 (refRank p (if b.1 ≤ p then satI n b.2 else n) l)
  refine refRank_u64 p l _ (fun c hc => hu c (List.mem_cons_of_mem _ hc)) ?_
  split
  ·exact satI_u64 _ _ h (hu b List.mem_cons_self)
  ·exact h
theorem cmLow_get (c : Nat) (l : List Int) (r j : Nat) (hr : r = 0 ∨ r = 1) (hj : j < c / 2) : (cmLow c l)[r * (c / 2) + j]? = some (satI (l.getD (r * c + j) 0) (l.getD (r * c + c / 2 + j) 0)) := by
 have h1 : r * (c / 2) + j < c / 2 + c / 2 := by rcases hr with rfl | rfl <;> omega
 have h2 : (r * (c / 2) + j) / (c / 2) = r := by rw [Nat.mul_comm, Nat.mul_add_div (by omega), Nat.div_eq_of_lt hj, Nat.add_zero]
 have h3 : (r * (c / 2) + j) % (c / 2) = j := by rw [Nat.mul_comm, Nat.mul_add_mod, Nat.mod_eq_of_lt hj]
 unfold cmLow
 rw [List.getElem?_map, List.getElem?_range h1, Option.map_some, h2, h3, show r * c + j + c / 2 = r * c + c / 2 + j by omega]
end Go.Proofs.YtcbbenncdainfaaGreatDoor
namespace Go.Proofs.YtcbbenncdainfaaGreatDoor
open Go Go.RowKit Go.Shelf
theorem ownsN_form {w : World} {base e size n : Nat} {v : Value} {xs : List Value} (h : w.ownsRow base e size v n xs) : ∃ a cap, v = .slice a n cap := by
 rcases h.2 with ⟨rfl, rfl⟩ | ⟨g, cap, cur, rfl, _⟩
 ·exact ⟨none, 0, rfl⟩
 ·exact ⟨_, cap, rfl⟩
theorem ownsN_go {A B : World} {base e size n : Nat} {v : Value} {xs : List Value} (h : A.ownsRow base e size v n xs) (hb : Below A.heap.size A B) : B.ownsRow base e size v n xs := by
 refine ⟨h.1, ?_⟩
 rcases h.2 with h2 | ⟨g, cap, cur, rfl, h3, h4, h5⟩
 ·exact .inl h2
 ·exact .inr ⟨g, cap, cur, rfl, h3, known hb (Nat.le_refl _) h4, h5⟩
def OwnN (W : World) (base g len c : Nat) (l : List Int) : Prop := W.ownsRow base 43 1 (.slice (some ⟨g, 0, none⟩) len c) len (l.map (Value.int .u64))
theorem OwnN.blk {W : World} {base g len c : Nat} {l : List Int} (h : OwnN W base g len c l) : base ≤ g ∧ g < W.heap.size := ⟨(own_blk h).1, own_lt h⟩
theorem OwnN.cell {W : World} {base g len c : Nat} {l : List Int} (h : OwnN W base g len c l) {j : Nat} (hj : j < l.length) : W.cell? ⟨g, j, none⟩ = some (.int .u64 (l.getD j 0)) :=
 own_cell h (by rw [List.getElem?_map, List.getD_eq_getElem?_getD, List.getElem?_eq_getElem hj]; rfl)
theorem OwnN.frozen {W : World} {base g len c : Nat} {l : List Int} (h : OwnN W base g len c l) (j : Nat) : W.frozen? ⟨g, j, none⟩ = false := own_frozen h j
theorem OwnN.set {W : World} {base g len c : Nat} {l : List Int} (h : OwnN W base g len c l) (p : Nat) (x : Int) : OwnN (W.setCell ⟨g, p, none⟩ (.int .u64 x)) base g len c (l.set p x) := by
 have := own_set h p (.int .u64 x)
 rw [← List.map_set] at this
 exact this
theorem OwnN.block {A B : World} {base g len c : Nat} {l : List Int} (h : OwnN A base g len c l) (hb : B.heap[g]? = A.heap[g]?) : OwnN B base g len c l := by
 obtain ⟨h0, cur, h1, h2, h3, h4, h5⟩ := own_blk h
 exact ⟨h.1, .inr ⟨g, c, cur, rfl, h0, hb.trans h1, h2, h3, h4, h5⟩⟩
theorem OwnN.go {A B : World} {base g len c : Nat} {l : List Int} (h : OwnN A base g len c l) (hb : Below A.heap.size A B) : OwnN B base g len c l := h.block (hb.block _ h.blk.2)
theorem OwnN.slC {W : World} {base g len c : Nat} {l : List Int} (h : OwnN W base g len c l) (hl : l.length = len) : SlC encU 1 W.heap.size W (some ⟨g, 0, none⟩) len c l := by
 subst hl
 have h1 : W.ownsRow base 43 1 (.slice (some ⟨g, 0, none⟩) l.length c) l.length (l.flatMap encU) := by rw [flat_map]; exact h
 obtain ⟨a, cap, hv, hS, -⟩ := slC_of_owns (enc := encU) (fun _ => rfl) h1
 cases hv
 exact hS
theorem ownN_of {W : World} {base len : Nat} {v : Value} {l : List Int} (h : W.ownsRow base 43 1 v len (l.flatMap encU)) (hp : 0 < len) : ∃ g c, v = .slice (some ⟨g, 0, none⟩) len c ∧ OwnN W base g len c l := by
 rcases h.2 with ⟨e1, e2⟩ | ⟨g, c, cur, rfl, h3⟩
 ·omega
 ·exact ⟨g, c, rfl, by unfold OwnN; rw [← flat_map]; exact h⟩
def GrowN (W : World) (base : Nat) (v : Value) (l : List Int) : Prop := W.ownsRow base 43 1 v l.length (l.map (Value.int .u64))
theorem GrowN.push {W w0 : World} {B base : Nat} {v : Value} {l : List Int} (h : GrowN W base v l) (hB : Below B w0 W) (hBb : B ≤ base) (hbase : base ≤ W.heap.size) (hn : l.length < 4294967281) (x : Int) :
  ∃ g cap w1, (Builtin.append_ #[22, 22] 22 #[v, .slice (some ⟨W.heap.size, 0, none⟩) 1 1]).run Tryz.prog (W.alloc (.cells #[.int .u64 x] 43)) = .ok (.slice (some ⟨g, 0, none⟩) (l.length + 1) cap) w1 ∧
   GrowN w1 base (.slice (some ⟨g, 0, none⟩) (l.length + 1) cap) (l ++ [x]) ∧ Below B w0 w1 ∧ W.heap.size < w1.heap.size ∧ (∀ k, k < base → w1.heap[k]? = W.heap[k]?) := by
 obtain ⟨g, cap, w1, h1, h2, h3, h4, h5, -⟩ := append_one Tryz.prog 22 und_u64 info_u64 rfl (by decide) (W := W) h hB hBb hbase [.int .u64 x] rfl (by simp [Value.oneCell']) hn (by decide)
 refine ⟨g, cap, w1, h1, ?_, h3, h4, h5⟩
 unfold GrowN
 rw [List.length_append, List.map_append]
 exact h2
theorem GrowN.slC {W : World} {base : Nat} {v : Value} {l : List Int} (h : GrowN W base v l) : ∃ a cap, v = .slice a l.length cap ∧ SlC encU 1 W.heap.size W a l.length cap l := by
 have h1 : W.ownsRow base 43 1 v l.length (l.flatMap encU) := by rw [flat_map]; exact h
 obtain ⟨a, cap, hv, hS, -⟩ := slC_of_owns (enc := encU) (fun _ => rfl) h1
 exact ⟨a, cap, hv, hS⟩
theorem GrowN.form {W : World} {base : Nat} {v : Value} {l : List Int} (h : GrowN W base v l) : ∃ a cap, v = .slice a l.length cap := ownsN_form h
theorem GrowN.go {A B : World} {base : Nat} {v : Value} {l : List Int} (h : GrowN A base v l) (hb : Below A.heap.size A B) : GrowN B base v l := ownsN_go h hb
theorem cmPut_set {l : List Int} {p : Nat} {n v r : Int} (hv : l.getD p 0 = v) (hr : satI v n = r) : cmPut l p n = l.set p r := by unfold cmPut; rw [hv, hr]
attribute [-go_sem] Builtin.append_
set_option maxRecDepth 100000 in
set_option maxHeartbeats 4000000 in
theorem ref08_Add_any (c h : Nat) (n : Int) (l : List Int) (a : Option Addr) (len cap : Nat) (w : World) (hc : c = 4 ∨ c = 8 ∨ c = 16 ∨ c = 32) (hS : SlC encU 1 w.heap.size w a len cap l) (hn : l.length = c + c) (hlu : U64s l) (hh : h < 2 ^ 64) (hu : U64 n) :
  Calls Tryz.prog 50 #[.agg #[.int .i64 2, .int .i64 c, .slice a len cap], .int .u64 h, .int .u64 n] w (CmsPost c (cmAdd c l h n) w) := by
 have hll := hS.1.1
 obtain ⟨W0, hW0, hX0, hXr, hB0, hs0⟩ := boxes2 w #[.int .i64 2, .int .i64 c, .slice a len cap] 28 #[.int .i64 0, .int .i64 0, .slice none 0 0] 28
 have hRt := ref08_Right_ok c l a len cap W0 hc hll hn
 have HC0 : Hid (∀ W, Calls Tryz.prog 77 #[.agg #[.int .i64 2, .int .i64 c, .slice a len cap], .int .i64 0, .int .u64 h] W fun e w' => e = .returned (.int .i64 (((h / 4294967296 + 0 * (h % 4294967296)) % c : Nat) : Int)) ∧ Below W.heap.size W w') := fun W => ref08_Col_any c 0 h l a len cap W hc hll hn (by omega) hh
 have HC1 : Hid (∀ W, Calls Tryz.prog 77 #[.agg #[.int .i64 2, .int .i64 c, .slice a len cap], .int .i64 1, .int .u64 h] W fun e w' => e = .returned (.int .i64 (((h / 4294967296 + 1 * (h % 4294967296)) % c : Nat) : Int)) ∧ Below W.heap.size W w') := fun W => ref08_Col_any c 1 h l a len cap W hc hll hn (by omega) hh
 have HS := Lib.hid (hS.go hB0)
 have p0b : cmPl c 0 h < 1000 := by have := cmPl_lt c 0 h (by omega) (by omega); omega
 have p1b : cmPl c 1 h < 1000 := by have := cmPl_lt c 1 h (by omega) (by omega); omega
 have l0 : Hid (cmPl c 0 h < l.length) := by have := cmPl_lt c 0 h (by omega) (by omega); rw [Hid]; omega
 have l1' : cmPl c 1 h < l.length := by have := cmPl_lt c 1 h (by omega) (by omega); omega
 have HCo : Hid (cmAdd c l h n = cmPut (cmPut l (cmPl c 0 h) n) (cmPl c 1 h) n) := rfl
 have hq0 : 0 * c + (h / 4294967296 + 0 * (h % 4294967296)) % c = cmPl c 0 h := rfl
 have hq1 : 1 * c + (h / 4294967296 + 1 * (h % 4294967296)) % c = cmPl c 1 h := rfl
 generalize (h / 4294967296 + 0 * (h % 4294967296)) % c = q0 at HC0 hq0
 generalize (h / 4294967296 + 1 * (h % 4294967296)) % c = q1 at HC1 hq1
 generalize cmPl c 0 h = p0 at l0 HCo hq0 p0b
 generalize cmPl c 1 h = p1 at l1' HCo hq1 p1b
 generalize cmAdd c l h n = res at HCo ⊢
 obtain ⟨e0v, e0⟩ : ∃ v, l.getD p0 0 = v := ⟨_, rfl⟩
 have u0 : U64 e0v := by rw [← e0]; exact getD_u64 l hlu p0
 obtain ⟨s0, es0⟩ : ∃ v, satI e0v n = v := ⟨_, rfl⟩
 have us0 : U64 s0 := by rw [← es0]; exact satI_u64 _ _ u0 hu
 have E0 : Hid (cmPut l p0 n = l.set p0 s0) := cmPut_set e0 es0
 have HU1 : U64s (cmPut l p0 n) := cmPut_u64 l p0 n hlu hu
 have HL1 : (cmPut l p0 n).length = l.length := cmPut_len ..
 generalize cmPut l p0 n = L1 at E0 HCo HU1 HL1
 have l1 : Hid (p1 < L1.length) := by rw [Hid, HL1]; exact l1'
 obtain ⟨e1v, e1⟩ : ∃ v, L1.getD p1 0 = v := ⟨_, rfl⟩
 have u1 : U64 e1v := by rw [← e1]; exact getD_u64 L1 HU1 p1
 obtain ⟨s1, es1⟩ : ∃ v, satI e1v n = v := ⟨_, rfl⟩
 have E1 : Hid (cmPut L1 p1 n = L1.set p1 s1) := cmPut_set e1 es1
 have HL2 : (cmPut L1 p1 n).length = l.length := by rw [cmPut_len, HL1]
 generalize cmPut L1 p1 n = L2 at E1 HCo HL2
 subst es0 es1
 have HP0 : Hid (∀ W, Calls Tryz.prog 72 #[.int .u64 e0v, .int .u64 n] W fun e w' => e = .returned (.int .u64 (satI e0v n)) ∧ w' = W) := fun W => ref08_Plus_any e0v n W u0 hu
 have HP1 : Hid (∀ W, Calls Tryz.prog 72 #[.int .u64 e1v, .int .u64 n] W fun e w' => e = .returned (.int .u64 (satI e1v n)) ∧ w' = W) := fun W => ref08_Plus_any e1v n W u1 hu
 generalize satI e0v n = s0 at HP0 E0 us0
 generalize satI e1v n = s1 at HP1 E1
 have HX0' := Lib.hid hX0
 have HXr' := Lib.hid hXr
 have HB0' := Lib.hid hB0
 obtain ⟨d0, d1, d2⟩ := cl3 hX0
 have i0 : (p0 : Int) < (len : Int) := by have := l0.out; omega
 have i1 : (p1 : Int) < (len : Int) := by omega
 have eq0 : (q0 : Int) = (p0 : Int) := by omega
 have eq1 : (c : Int) + (q1 : Int) = (p1 : Int) := by omega
 have hc32 : (c : Int) ≤ 32 := by omega
 have hc0 : (0 : Int) < (c : Int) := by omega
 have hlp : 0 < len := by omega
 have hl64 : len ≤ 64 := by omega
 obtain ⟨bb, off, rfl, hbb, -⟩ := slC_cell HS.out l0.out
 have j0 : wrap64 (q0 : Int) = (p0 : Int) := by rw [eq0]; exact wrap_small p0b
 have j1 : wrap64 ((c : Int) + (q1 : Int)) = (p1 : Int) := by rw [eq1]; exact wrap_small p1b
 have k0 : (0 : Int) ≤ (p0 : Int) := Int.natCast_nonneg _
 have k1 : (0 : Int) ≤ (p1 : Int) := Int.natCast_nonneg _
 have HLL := Lib.hid hll
 have HL2' := Lib.hid HL2
 clear hX0 hXr hB0 hS hll hn hc l1' hq0 hq1 eq0 eq1 HU1 HL1 HL2 hlu
 go_enter Tryz.func50, Tryz.ntmps50
 go_wp2_with fail
 refine hRt.mono ?_
 rintro e w1 ⟨rfl, hb1⟩
 have hX1 := known hb1 (Nat.le_refl _) HX0'.out
 have hS1 := HS.out.go hb1
 have hz1 := hb1.size
 obtain ⟨y0, y1, y2⟩ := cl3 hX1
 obtain ⟨v2, w2, hap2, hO2, hB2, hz2, -, -⟩ := append_elems Tryz.prog (cap := cap) 22 und_u64 info_u64 rfl (by decide) (World.ownsRow_nil w1 w1.heap.size 43 1) (Below.refl w1.heap.size w1) (Nat.le_refl _) (Nat.le_refl _) (fun _ => rfl) hS1.1 one_u64 (by omega) (by omega) (by decide)
 rw [List.nil_append, Nat.zero_add] at hO2
 obtain ⟨g, c2, rfl, hO3⟩ := ownN_of hO2 hlp
 have HO0 := Lib.hid hO3
 have HGB : Hid (w.heap.size + 1 < g) := by have := hO3.blk.1; rw [Hid]; omega
 have hb02 := hb1.trans (hB2.mono hb1.size)
 have HX0 := Lib.hid (known hb02 (Nat.le_refl _) HX0'.out)
 have HR0 := Lib.hid (known hb02 (Nat.le_refl _) HXr'.out)
 have HB0 : Hid (Below w.heap.size w w2) := HB0'.out.trans (hb02.mono HB0'.out.size)
 have HI0 : Hid (Below w2.heap.size w2 w2) := Below.refl _ _
 have hX2 := HX0.out
 obtain ⟨x0, x1, x2⟩ := cl3 hX2
 clear hX1 hS1 hz1 hO2 hO3 hB2 hz2 hb02 hb1 hRt hX2
 go_wp2_with fail
 refine wp_loop_rounds 3 ?_
 rw [rounds_succ]
 go_wp2_with fail
 let Inv0 : World → Prop := fun W => Below w2.heap.size w2 W
 have hgo : ∀ W W', Inv0 W → Below W.heap.size W W' → Inv0 W' := fun W W' h hb => Below.trans h (hb.mono (Below.size h))
 have q0' : ∀ X : WIn Inv0, X.world.cell? ⟨w.heap.size, 1, none⟩ = some (.int .i64 c) := fun X => cCc (known X.ok (Nat.le_refl _) HX0.out) 1
 have q1' : ∀ X : WIn Inv0, X.world.cell? ⟨w.heap.size, 2, none⟩ = some (.slice (some ⟨bb, off, none⟩) len cap) := fun X => cCc (known X.ok (Nat.le_refl _) HX0.out) 2
 have q2' : ∀ X : WIn Inv0, X.world.cell? ⟨w.heap.size, 0, none⟩ = some (.int .i64 2) := fun X => cCc (known X.ok (Nat.le_refl _) HX0.out) 0
 have K1 : Hid (∀ X : WIn Inv0, Calls Tryz.prog 77 #[.agg #[.int .i64 2, .int .i64 c, .slice (some ⟨bb, off, none⟩) len cap], .int .i64 0, .int .u64 h] X.world fun e w' => e = .returned (.int .i64 (q0 : Nat)) ∧ ∃ Y : WIn Inv0, w' = Y.world) := fun X => calls_class_below hgo (HC0.out X.world)
 have HQ : Hid (∀ X : WIn Inv0, Below w2.heap.size w2 X.world) := fun X => X.ok
 have hI0 : Hid (Inv0 (World.drew w2)) := (HI0.out).drew
 have hne : Nonempty (WIn Inv0) := ⟨⟨_, hI0.out⟩⟩
 clear hgo
 clear_value Inv0
 refine wp_region_class Inv0 (by kernel_rfl) (by kernel_rfl) hI0.out ?_
 repeat (first | go_big_quiet_step ((go_at_call 77; with_reducible exact K1.out _)) | quiet_step ((go_at_call 77; with_reducible exact K1.out _)))
 refine wpQuiet_nil ?_
 rintro _ ⟨X, rfl⟩
 have HBa0 := HQ.out X
 obtain ⟨wa0, hwa⟩ : ∃ wa, X.world = wa := ⟨_, rfl⟩
 rw [hwa] at HBa0 ⊢
 clear q0' q1' q2' HQ K1 hI0 hne hwa X
 have hXa0 := known HBa0 (Nat.le_refl _) HX0.out
 have hOa0 := HO0.out.go HBa0
 obtain ⟨za0_0, za0_1, za0_2⟩ := cl3 hXa0
 have ga0 := hOa0.cell (j := p0) l0.out
 have fa0 := hOa0.frozen p0
 rw [e0] at ga0
 have hg0 := hOa0.blk
 obtain ⟨V0, hV0⟩ : ∃ V, wa0.setCell ⟨g, p0, none⟩ (.int .u64 s0) = V := ⟨_, rfl⟩
 have HO1 : Hid (OwnN V0 w1.heap.size g len c2 L1) := by rw [← hV0, E0.out]; exact hOa0.set p0 s0
 have HX1 : Hid (V0.heap[w.heap.size]? = some (.cells #[.int .i64 2, .int .i64 c, .slice (some ⟨bb, off, none⟩) len cap] 28 (0, 0))) := by rw [Hid, ← hV0]; exact (heap_set_other (p := ⟨g, p0, none⟩) (by show g ≠ _; have := HGB.out; omega) _).trans hXa0
 have HR1 : Hid (V0.heap[w.heap.size + 1]? = some (.cells #[.int .i64 0, .int .i64 0, .slice none 0 0] 28 (0, 0))) := by rw [Hid, ← hV0]; exact (heap_set_other (p := ⟨g, p0, none⟩) (by show g ≠ _; have := HGB.out; omega) _).trans (known HBa0 (Nat.le_refl _) HR0.out)
 have HB1 : Hid (Below w.heap.size w V0) := by rw [Hid, ← hV0]; exact (HB0.out.trans (HBa0.mono HB0.out.size)).setCell (p := ⟨g, p0, none⟩) (by show w.heap.size ≤ g; have := HGB.out; omega) _
 have HI1 : Hid (Below V0.heap.size V0 V0) := Below.refl _ _
 clear hXa0 hOa0 hg0 HBa0
 go_wp2_with ((go_at_call 72; refine (HP0.out _).mono ?_; rintro e w' ⟨rfl, h9⟩; subst w'))
 have hXb := HX1.out
 obtain ⟨xb0, xb1, xb2⟩ := cl3 hXb
 clear hXb
 rw [rounds_succ]
 go_wp2_with fail
 let Inv1 : World → Prop := fun W => Below V0.heap.size V0 W
 have hgo : ∀ W W', Inv1 W → Below W.heap.size W W' → Inv1 W' := fun W W' h hb => Below.trans h (hb.mono (Below.size h))
 have q0' : ∀ X : WIn Inv1, X.world.cell? ⟨w.heap.size, 1, none⟩ = some (.int .i64 c) := fun X => cCc (known X.ok (Nat.le_refl _) HX1.out) 1
 have q1' : ∀ X : WIn Inv1, X.world.cell? ⟨w.heap.size, 2, none⟩ = some (.slice (some ⟨bb, off, none⟩) len cap) := fun X => cCc (known X.ok (Nat.le_refl _) HX1.out) 2
 have q2' : ∀ X : WIn Inv1, X.world.cell? ⟨w.heap.size, 0, none⟩ = some (.int .i64 2) := fun X => cCc (known X.ok (Nat.le_refl _) HX1.out) 0
 have K1 : Hid (∀ X : WIn Inv1, Calls Tryz.prog 77 #[.agg #[.int .i64 2, .int .i64 c, .slice (some ⟨bb, off, none⟩) len cap], .int .i64 1, .int .u64 h] X.world fun e w' => e = .returned (.int .i64 (q1 : Nat)) ∧ ∃ Y : WIn Inv1, w' = Y.world) := fun X => calls_class_below hgo (HC1.out X.world)
 have HQ : Hid (∀ X : WIn Inv1, Below V0.heap.size V0 X.world) := fun X => X.ok
 have hI0 : Hid (Inv1 (World.drew V0)) := (HI1.out).drew
 have hne : Nonempty (WIn Inv1) := ⟨⟨_, hI0.out⟩⟩
 clear hgo
 clear_value Inv1
 refine wp_region_class Inv1 (by kernel_rfl) (by kernel_rfl) hI0.out ?_
 repeat (first | go_big_quiet_step ((go_at_call 77; with_reducible exact K1.out _)) | quiet_step ((go_at_call 77; with_reducible exact K1.out _)))
 refine wpQuiet_nil ?_
 rintro _ ⟨X, rfl⟩
 have HBa1 := HQ.out X
 obtain ⟨wa1, hwa⟩ : ∃ wa, X.world = wa := ⟨_, rfl⟩
 rw [hwa] at HBa1 ⊢
 clear q0' q1' q2' HQ K1 hI0 hne hwa X
 have hXa1 := known HBa1 (Nat.le_refl _) HX1.out
 have hOa1 := HO1.out.go HBa1
 obtain ⟨za1_0, za1_1, za1_2⟩ := cl3 hXa1
 have ga1 := hOa1.cell (j := p1) l1.out
 have fa1 := hOa1.frozen p1
 rw [e1] at ga1
 have hg1 := hOa1.blk
 obtain ⟨V1, hV1⟩ : ∃ V, wa1.setCell ⟨g, p1, none⟩ (.int .u64 s1) = V := ⟨_, rfl⟩
 have HO2 : Hid (OwnN V1 w1.heap.size g len c2 L2) := by rw [← hV1, E1.out]; exact hOa1.set p1 s1
 have HX2 : Hid (V1.heap[w.heap.size]? = some (.cells #[.int .i64 2, .int .i64 c, .slice (some ⟨bb, off, none⟩) len cap] 28 (0, 0))) := by rw [Hid, ← hV1]; exact (heap_set_other (p := ⟨g, p1, none⟩) (by show g ≠ _; have := HGB.out; omega) _).trans hXa1
 have HR2 : Hid (V1.heap[w.heap.size + 1]? = some (.cells #[.int .i64 0, .int .i64 0, .slice none 0 0] 28 (0, 0))) := by rw [Hid, ← hV1]; exact (heap_set_other (p := ⟨g, p1, none⟩) (by show g ≠ _; have := HGB.out; omega) _).trans (known HBa1 (Nat.le_refl _) HR1.out)
 have HB2 : Hid (Below w.heap.size w V1) := by rw [Hid, ← hV1]; exact (HB1.out.trans (HBa1.mono HB1.out.size)).setCell (p := ⟨g, p1, none⟩) (by show w.heap.size ≤ g; have := HGB.out; omega) _
 have HI2 : Hid (Below V1.heap.size V1 V1) := Below.refl _ _
 clear hXa1 hOa1 hg1 HBa1
 go_wp2_with ((go_at_call 72; refine (HP1.out _).mono ?_; rintro e w' ⟨rfl, h9⟩; subst w'))
 have hXb := HX2.out
 obtain ⟨xc0, xc1, xc2⟩ := cl3 hXb
 have hXr := HR2.out
 obtain ⟨t0, t1, t2⟩ := cl3 hXr
 obtain ⟨f0, f1, f2⟩ := cz3 hXr
 obtain ⟨V, hV, hXV, hOV, hBV⟩ := store3c (.int .i64 2) (.int .i64 c) (.slice (some ⟨g, 0, none⟩) len c2) hXr
 obtain ⟨k0, k1, k2⟩ := cl3 hXV
 have HBV : Hid (Below w.heap.size w V) := hBV _ _ HB2.out (by omega)
 have HOV : Hid (OwnN V w1.heap.size g len c2 L2) := HO2.out.block (hOV.2 _ (by have := HGB.out; omega))
 clear hXb hXr hXV hOV hBV
 rw [rounds_succ]
 go_wp2_with fail
 refine bodyPost_ret (v := .tuple #[.agg #[.int .i64 2, .int .i64 c, .slice (some ⟨g, 0, none⟩) len c2], .int .i64 0]) (by simp [results, Tryz.f50, go_sem, k0, k1, k2]) rfl ?_
 have hln : L2.length = len := by have := HL2'.out; have := HLL.out; omega
 rw [HCo.out]
 unfold CmsPost
 rw [hln]
 exact ⟨_, c2, rfl, HOV.out.slC hln, HBV.out⟩
end Go.Proofs.YtcbbenncdainfaaGreatDoor
namespace Go.Proofs.YtcbbenncdainfaaGreatDoor
open Go Go.RowKit Go.Shelf
theorem hc_next (S x : Nat) (hS : S ≤ 2000000000000) : IntKind.u64.wrap ((S : Int) + IntKind.u64.wrap (2 ^ (32 - min (32 : Int) (x : Int)).toNat)) = ((S + hcTerm x : Nat) : Int) := by
 have h2 := hcTerm_le x
 have h3 : (32 - min (32 : Int) (x : Int)).toNat = 32 - min x 32 := by omega
 rw [h3, show (2 : Int) ^ (32 - min x 32) = ((hcTerm x : Nat) : Int) from by unfold hcTerm; rw [Int.natCast_pow]; rfl]
 rw [show IntKind.u64.wrap ((hcTerm x : Nat) : Int) = ((hcTerm x : Nat) : Int) from u64_small _ (by omega) (by omega)]
 rw [show (S : Int) + ((hcTerm x : Nat) : Int) = ((S + hcTerm x : Nat) : Int) from (Int.natCast_add _ _).symm]
 exact u64_small _ (by omega) (by omega)
set_option maxRecDepth 100000 in
set_option maxHeartbeats 4000000 in
theorem ref07_Count_any (b : Nat) (r : List Nat) (w : World) (h1 : 3 ≤ b) (h2 : b ≤ 8) (hl : r.length = 2 ^ b) (hr : ∀ i, r.getD i 0 ≤ 65 - b) :
  Calls Tryz.prog 59 #[.agg #[.int .i64 b, .string (hlStr r)]] w fun e w' => e = .returned (.int .u64 (hlCount b (hlStr r) : Nat)) ∧ Below w.heap.size w w' := by
 have hR := Lib.hid (fun w1 => ref07_Right_ok b r w1 h1 h2 hl hr)
 have hsz : (hlStr r).size = 2 ^ b := by rw [hlStr_size, hl]
 generalize hlStr r = s at hR hsz ⊢
 have h256 : 2 ^ b ≤ 256 := Nat.pow_le_pow_right (by omega) h2
 have h8 : 8 ≤ 2 ^ b := show 2 ^ 3 ≤ 2 ^ b from Nat.pow_le_pow_right (by omega) h1
 have HCo : Hid (hlCount b s = if hcSome (octs s) then 7 * 2 ^ b * 2 ^ b * 4294967296 / (10 * hcSum (octs s)) else 0) := rfl
 have HO := Lib.hid (octs_len s)
 have HG := Lib.hid (fun k h => octs_at s k h)
 generalize hlCount b s = res at HCo ⊢
 obtain ⟨S, hS⟩ : ∃ S : Nat → Nat, ∀ k, S k = hcSum ((octs s).take k) := ⟨_, fun _ => rfl⟩
 obtain ⟨B, hB⟩ : ∃ B : Nat → Bool, ∀ k, B k = hcSome ((octs s).take k) := ⟨_, fun _ => rfl⟩
 have HS0 : Hid (S 0 = 0) := hS 0
 have HB0' : Hid (B 0 = false) := hB 0
 have HSn : Hid (∀ (k : Nat) (h : k < s.size), S (k + 1) = S k + hcTerm (s[k]'h).toNat) := fun k h => by rw [hS, hS, take_snoc' (HG.out k h), hcSum_snoc]
 have HBn : Hid (∀ (k : Nat) (h : k < s.size), B (k + 1) = (B k || (s[k]'h).toNat != 0)) := fun k h => by rw [hB, hB, take_snoc' (HG.out k h), hcSome_snoc]
 have HSl : Hid (∀ k, k ≤ 256 → S k ≤ 1100000000000) := fun k hk => by
  have h := (hcSum_le ((octs s).take k)).2
  have h3 : ((octs s).take k).length ≤ k := by rw [List.length_take]; omega
  rw [hS]
  have : ((octs s).take k).length * 4294967296 ≤ 256 * 4294967296 := Nat.mul_le_mul (by omega) (Nat.le_refl _)
  omega
 have HEnd : Hid (res = if B s.size then 7 * 2 ^ b * 2 ^ b * 4294967296 / (10 * S s.size) else 0) := by
  rw [Hid, hS, hB, List.take_of_length_le (by rw [HO.out]; exact Nat.le_refl _)]
  exact HCo.out
 have HSp : Hid (1 ≤ S s.size) := by
  have h := (hcSum_le ((octs s).take s.size)).1
  rw [Hid, hS]
  rw [List.take_of_length_le (by rw [HO.out]; exact Nat.le_refl _), HO.out] at h
  rw [List.take_of_length_le (by rw [HO.out]; exact Nat.le_refl _)]
  omega
 have hs256 : s.size ≤ 256 := by omega
 have HQ : Hid (∀ S, IntKind.u64.wrap ((IntKind.u64.wrap (IntKind.u64.wrap (IntKind.u64.wrap (7 * IntKind.u64.wrap (s.size : Int)) * IntKind.u64.wrap (s.size : Int)) * 4294967296)).tdiv (10 * (S : Nat))) = ((7 * 2 ^ b * 2 ^ b * 4294967296 / (10 * S) : Nat) : Int)) := fun S => by
  have := hc_quo s.size S hs256
  rw [this, hsz]
 obtain ⟨W0, hW0, hX0, hB0, hs0⟩ := boxes1 w #[.int .i64 b, .string s] 26
 have HX : Hid (∀ W, Below W0.heap.size W0 W → W.heap[w.heap.size]? = some (.cells #[.int .i64 b, .string s] 26 (0, 0))) := fun W hb => known hb (Nat.le_refl _) hX0
 have HB0 := Lib.hid hB0
 clear hX0 hB0 hsz h256 h8 hl hr h1 h2 hS hB HCo
 go_enter Tryz.func59, Tryz.ntmps59
 go_wp2_with fail
 go_loopw [3, 4, 5] (fun su so i wr => ∃ k : Nat, i = .int .i64 k ∧ k ≤ s.size ∧ su = .int .u64 (S k : Nat) ∧ so = .bool (B k) ∧ Hid (Below W0.heap.size W0 wr)) (fun _ _ i _ => s.size - (intOf i).toNat)
 case atStart => exact ⟨0, rfl, Nat.zero_le _, by rw [HS0.out]; rfl, by rw [HB0'.out], Below.refl _ _⟩
 case round =>
  obtain ⟨k, rfl, hk, rfl, rfl, HB⟩ := hrel
  have hX1 := HX.out wr HB.out
  obtain ⟨c0, c1⟩ := cl2 hX1
  have i0 : (0 : Int) ≤ (k : Int) := Int.natCast_nonneg _
  have hSk := HSl.out k (by omega)
  by_cases hlt : k < s.size
  ·have i1 : (k : Int) < (s.size : Int) := by omega
   have HNS := Lib.hid (HSn.out k hlt)
   have HNB := Lib.hid (HBn.out k hlt)
   obtain ⟨x, ex⟩ : ∃ x, (s[k]'hlt).toNat = x := ⟨_, rfl⟩
   rw [ex] at HNS HNB
   have hx8 : x < 256 := by rw [← ex]; exact UInt8.toNat_lt _
   have hst := hc_next (S k) x (by omega)
   rw [← HNS.out] at hst
   obtain ⟨S1, hS1⟩ : ∃ y, S (k + 1) = y := ⟨_, rfl⟩
   have HQS := Lib.hid hS1
   rw [hS1] at HNS hst
   generalize S k = S0 at hst hSk HNS
   obtain ⟨b1, hb1'⟩ : ∃ y, B (k + 1) = y := ⟨_, rfl⟩
   have HQB := Lib.hid hb1'
   rw [hb1'] at HNB
   generalize B k = b0 at HNB
   clear hX1 hS1 hb1'
   go_wp2_with fail
   refine (hR.out _).mono ?_
   rintro e w3 ⟨rfl, hb3⟩
   have hB3 := HB.out.trans (hb3.mono HB.out.size)
   have hX3 := HX.out w3 hB3
   obtain ⟨d0, d1⟩ := cl2 hX3
   have HB3 := Lib.hid hB3
   clear hX3 hb3 hB3
   cases b0 with
   | true =>
    have hb1 : b1 = true := HNB.out
    subst hb1
    go_wp2_with fail
    all_goals go_roundw
    case rel => exact ⟨k + 1, by go_num, by omega, by rw [← HQS.out], by rw [← HQB.out], HB3.out⟩
    case measure => simp [intOf]; try omega
   | false =>
    rcases Nat.eq_zero_or_pos x with hx0 | hx0
    ·have hb1 : b1 = false := by rw [HNB.out, hx0]; rfl
     subst hb1
     have x0 : ¬ (0 : Int) < (x : Int) := by omega
     go_wp2_with fail
     all_goals go_roundw
     case rel => exact ⟨k + 1, by go_num, by omega, by rw [HQS.out, ← hst, hx0]; rfl, by rw [← HQB.out], HB3.out⟩
     case measure => simp [intOf]; try omega
    ·have hb1 : b1 = true := by rw [HNB.out]; simp; omega
     subst hb1
     have x0 : (0 : Int) < (x : Int) := by omega
     go_wp2_with fail
     all_goals go_roundw
     case rel => exact ⟨k + 1, by go_num, by omega, by rw [← HQS.out], by rw [← HQB.out], HB3.out⟩
     case measure => simp [intOf]; try omega
  ·obtain rfl : k = s.size := by omega
   have hle := HSp.out
   have hq := HQ.out (S s.size)
   generalize S s.size = S0 at HEnd hle hSk hq
   generalize B s.size = b0 at HEnd
   cases b0 with
   | true =>
    have he : 7 * 2 ^ b * 2 ^ b * 4294967296 / (10 * S0) = res := by rw [HEnd.out]; rfl
    rw [he, show IntKind.u64.wrap (s.size : Int) = (s.size : Int) from u64_small _ (by omega) (by omega), show IntKind.u64.wrap (7 * (s.size : Int)) = 7 * (s.size : Int) from u64_small _ (by omega) (by omega)] at hq
    clear hX1
    have HQ2 := Lib.hid hq
    clear hq
    go_wp2_with fail
    go_ret
    exact ⟨congrArg (fun z => Ending.returned (.int .u64 z)) HQ2.out, HB0.out.trans (HB.out.mono HB0.out.size)⟩
   | false =>
    have he : res = 0 := by rw [HEnd.out]; rfl
    subst he
    clear hX1
    go_wp2_with fail
    go_ret
    exact ⟨rfl, HB0.out.trans (HB.out.mono HB0.out.size)⟩
end Go.Proofs.YtcbbenncdainfaaGreatDoor

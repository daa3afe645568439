/- The reference of layer 8: Merge, Lower, at counters that are right. -/
import Derived.Test.YtieknocphiceoaaGreatDoorZTC
namespace Go.Proofs.YtieknocphiceoaaGreatDoor
open Go Go.RowKit Go.Shelf
theorem GrowN.formk {W : World} {base k : Nat} {v : Value} {l : List Int} (h : GrowN W base v l) (hk : l.length = k) : ∃ a cap, v = .slice a k cap := by
 obtain ⟨a, cap, hv⟩ := h.form
 exact ⟨a, cap, by rw [hv, hk]⟩
theorem GrowN.pushk {W w0 : World} {B base k : Nat} {v : Value} {l : List Int} (h : GrowN W base v l) (hk : l.length = k) (hB : Below B w0 W) (hBb : B ≤ base) (hbase : base ≤ W.heap.size) (hn : k < 4294967281) (x : Int) :
  ∃ g cap w1, (Builtin.append_ #[39, 39] 39 #[v, .slice (some ⟨W.heap.size, 0, none⟩) 1 1]).run Tryz.prog (W.alloc (.cells #[.int .u64 x] 55)) = .ok (.slice (some ⟨g, 0, none⟩) (k + 1) cap) w1 ∧
   GrowN w1 base (.slice (some ⟨g, 0, none⟩) (k + 1) cap) (l ++ [x]) ∧ Below B w0 w1 ∧ W.heap.size < w1.heap.size := by
 subst hk
 obtain ⟨g, cap, w1, h1, h2, h3, h4, -⟩ := h.push hB hBb hbase hn x
 exact ⟨g, cap, w1, h1, h2, h3, h4⟩
theorem GrowN.drew {W : World} {base : Nat} {v : Value} {l : List Int} (h : GrowN W base v l) : GrowN W.drew base v l := h.go (Below.refl _ _).drew
theorem GrowN.block {A B : World} {base : Nat} {v : Value} {l : List Int} (h : GrowN A base v l) (hB : ∀ b, base ≤ b → B.heap[b]? = A.heap[b]?) : GrowN B base v l := by
 refine ⟨h.1, ?_⟩
 rcases h.2 with h2 | ⟨g, c, cur, rfl, h0, h1, h3⟩
 ·exact .inl h2
 ·exact .inr ⟨g, c, cur, rfl, h0, (hB g h0).trans h1, h3⟩
theorem low_idx {c h len RC j P1 P2 P3 : Nat} (h1 : RC ≤ c) (h2 : c ≤ h + h) (h3 : j < h) (h4 : h + h + (h + h) ≤ len) (h5 : len ≤ h + h + (h + h)) (h6 : h ≤ 16) (hP1 : RC + j = P1) (hP3 : RC + h = P3) (hP2 : P3 + j = P2) : P1 < len ∧ P2 < len ∧ P1 < 1000 ∧ P2 < 1000 ∧ P3 < 1000 := by omega
theorem i64_small {n : Nat} (h : n < 1000) : IntKind.i64.wrap (n : Int) = (n : Int) := IntWalk.i64_in _ (by omega)
theorem low_step (j : Nat) : Value.int .i64 ((j : Int) + 1) = Value.int .i64 ((j + 1 : Nat) : Int) := by rw [Int.natCast_add]; rfl
theorem low_meas2 {h j : Nat} (hlt : j < h) : h - (intOf (Value.int .i64 ((j : Int) + 1))).toNat < h - (intOf (Value.int .i64 (j : Int))).toNat := by
 simp only [intOf]
 omega
theorem low_meas {j h : Nat} (h1 : j < h) (h2 : wrap64 ((j : Int) + 1) = ((j + 1 : Nat) : Int)) : h - (intOf (.int .i64 (wrap64 ((j : Int) + 1)))).toNat < h - (intOf (.int .i64 (j : Int))).toNat := by
 rw [h2]
 simp only [intOf, Int.toNat_natCast]
 omega
theorem tk_le {RH j h tk : Nat} (h1 : RH + j = tk) (h2 : RH ≤ h) (h3 : j < h) (h4 : h ≤ 16) : tk ≤ h + h ∧ tk < 4294967281 := by omega
attribute [-go_sem] Builtin.append_
theorem GrowN.slF {W : World} {base : Nat} {v : Value} {l : List Int} (h : GrowN W base v l) : ∃ a cap, v = .slice a l.length cap ∧ SlC jbH 1 W.heap.size W a l.length cap l ∧ ∀ z, a = some z → base ≤ z.block :=
 jaE (enc := jbH) (fun _ => rfl) (by rw [jkV]; exact h)
def CmsF (c : Nat) (l : List Int) (w : World) (e : Ending) (w' : World) : Prop := ∃ a cap, e = .returned (.tuple #[.agg #[.int .i64 2, .int .i64 c, .slice a l.length cap], .int .i64 0]) ∧ SlC jbH 1 w'.heap.size w' a l.length cap l ∧ (∀ z, a = some z → w.heap.size ≤ z.block) ∧ Below w.heap.size w w'
set_option maxRecDepth 100000 in
set_option maxHeartbeats 8000000 in
theorem ref08_LowerF_any (c : Nat) (l : List Int) (a : Option Addr) (len cap : Nat) (w : World) (hc : c = 8 ∨ c = 16 ∨ c = 32) (hS : SlC jbH 1 w.heap.size w a len cap l) (hn : l.length = c + c) (hlu : jdK l) :
  Calls Tryz.prog 147 #[.agg #[.int .i64 2, .int .i64 c, .slice a len cap]] w (CmsF (c / 2) (jdf c l) w) := by
 have hll := hS.1.1
 obtain ⟨W0, hW0, hX0, hXr, hB0, hs0⟩ := jaS w #[.int .i64 2, .int .i64 c, .slice a len cap] 45 #[.int .i64 0, .int .i64 0, .slice none 0 0] 45
 have hRt := jg5 c l a len cap W0 (by omega) hll hn
 have HX : Hid (∀ W, Below W0.heap.size W0 W → W.heap[w.heap.size]? = some (.cells #[.int .i64 2, .int .i64 c, .slice a len cap] 45 (0, 0)) ∧ W.heap[w.heap.size + 1]? = some (.cells #[.int .i64 0, .int .i64 0, .slice none 0 0] 45 (0, 0))) := fun W hb => ⟨jak hb (Nat.le_refl _) hX0, jak hb (Nat.le_refl _) hXr⟩
 have HS := Lib.hid (hS.go hB0)
 have HB0 := Lib.hid hB0
 have HZ0 := Lib.hid hs0
 obtain ⟨h, hh⟩ : ∃ h, c / 2 = h := ⟨_, rfl⟩
 have HG := Lib.hid (jmF c l)
 have hRl := jeF c l
 rw [hh] at HG hRl ⊢
 have HLen : Hid (l.length = len ∧ (jdf c l).length = h + h) := ⟨hll.symm, hRl⟩
 have HU := Lib.hid hlu
 have hch' : c = h + h := by omega
 have hch1 : c ≤ h + h := by omega
 have hch2 : h + h ≤ c := by omega
 have hq : (c : Int) / 2 = (h : Int) := by omega
 have hq2 : (c : Int).tdiv 2 = (h : Int) := by rw [Int.tdiv_eq_ediv_of_nonneg (Int.natCast_nonneg _)]; exact hq
 have hh16 : h ≤ 16 := by omega
 have hh4 : 4 ≤ h := by omega
 have hc4 : ((c : Int) == 4) = false := by rw [beq_eq_false_iff_ne]; omega
 have hlen1 : len ≤ h + h + (h + h) := by omega
 have hlen2 : h + h + (h + h) ≤ len := by omega
 obtain ⟨d0, d1, d2⟩ := cl3 hX0
 generalize jdf c l = R at HLen HG ⊢
 have HCH := Lib.hid hch'
 clear hX0 hXr hB0 hS hn hc hll hlu hs0 hRl hch'
 go_enter Tryz.func147, Tryz.ntmps147
 go_wp2_with fail
 refine hRt.mono ?_
 rintro e w1 ⟨rfl, hb1⟩
 obtain ⟨hX1, -⟩ := HX.out w1 hb1
 obtain ⟨x0, x1, x2⟩ := cl3 hX1
 have HB1 := Lib.hid hb1
 have HZ1 : Hid (W0.heap.size ≤ w1.heap.size) := hb1.size
 clear hX1 hb1 hRt d0 d1 d2
 go_wp2_with fail
 go_loopw [5, 6, 7] (fun ov ri _ wr => ∃ r : Nat, ri = .int .i64 r ∧ r ≤ 2 ∧ Hid (GrowN wr w1.heap.size ov (R.take (r * h))) ∧ Hid (Below w1.heap.size w1 wr)) (fun _ ri _ _ => 2 - (intOf ri).toNat)
 case atStart => exact ⟨0, rfl, Nat.zero_le _, by rw [Nat.zero_mul]; exact World.ownsRow_nil _ _ _ _, Below.refl _ _⟩
 case round =>
  obtain ⟨r, rfl, hr2, HOr, HBr⟩ := hrel
  clear hq hq2 hc4 hW0
  have i9 : (0 : Int) ≤ (r : Int) := Int.natCast_nonneg _
  obtain ⟨hX2, hXr2⟩ := HX.out wr (HB1.out.trans (HBr.out.mono HZ1.out))
  obtain ⟨z0, z1, z2⟩ := cl3 hX2
  by_cases hrt : r < 2
  ·have i8 : (r : Int) < 2 := by omega
   obtain ⟨RH, hRH⟩ : ∃ q, r * h = q := ⟨_, rfl⟩
   have hRHh : RH ≤ h := by rcases (by omega : r = 0 ∨ r = 1) with rfl | rfl <;> omega
   have HRN : Hid ((r + 1) * h = RH + h) := by rw [Hid, Nat.succ_mul, hRH]
   rw [hRH] at HOr
   have HRH := Lib.hid hRH
   obtain ⟨RC, hRC⟩ : ∃ q, r * c = q := ⟨_, rfl⟩
   have hRCc : RC ≤ c := by rcases (by omega : r = 0 ∨ r = 1) with rfl | rfl <;> omega
   have x0 : (r : Int) * (c : Int) = (RC : Int) := by rw [← hRC, Int.natCast_mul]
   have HRC := Lib.hid hRC
   have y0 : wrap64 (RC : Int) = (RC : Int) := jdp (by omega)
   have y9 : IntKind.i64.wrap (RC : Int) = (RC : Int) := i64_small (by omega)
   clear hRH hRC hX2 hXr2
   go_wp2_with fail
   go_loopw [5, 7] (fun ov ci wr => ∃ j : Nat, ci = .int .i64 j ∧ j ≤ h ∧ Hid (GrowN wr w1.heap.size ov (R.take (RH + j))) ∧ Hid (Below w1.heap.size w1 wr)) (fun _ ci _ => h - (intOf ci).toNat)
   case atStart => exact ⟨0, rfl, Nat.zero_le _, HOr.out, HBr.out⟩
   case round =>
    obtain ⟨j, rfl, hj, HO, HB⟩ := hrel
    obtain ⟨tk, htk⟩ : ∃ q, RH + j = q := ⟨_, rfl⟩
    have HTK := Lib.hid htk
    rw [htk] at HO
    obtain ⟨oa, oc, rfl⟩ := HO.out.formk (k := tk) (by rw [List.length_take, HLen.out.2]; omega)
    have hb3 := HB1.out.trans (HB.out.mono HZ1.out)
    have i0 : (0 : Int) ≤ (j : Int) := Int.natCast_nonneg _
    by_cases hlt : j < h
    ·obtain ⟨P1, hP1⟩ : ∃ P, RC + j = P := ⟨_, rfl⟩
     obtain ⟨P3, hP3⟩ : ∃ P, RC + h = P := ⟨_, rfl⟩
     obtain ⟨P2, hP2⟩ : ∃ P, P3 + j = P := ⟨_, rfl⟩
     have hG : R[tk]? = some (jdl (l.getD P1 0) (l.getD P2 0)) := by
      have := HG.out r j (by omega) hlt
      rw [HRH.out, HRC.out, htk, hP1, hP3, hP2] at this
      exact this
     have HT : Hid (R.take (tk + 1) = R.take tk ++ [jdl (l.getD P1 0) (l.getD P2 0)]) := jan hG
     obtain ⟨zz1, zz2, zz3, zz4, zz5⟩ := low_idx hRCc hch1 hlt hlen2 hlen1 hh16 hP1 hP3 hP2
     have q1 : P1 < l.length := by rw [HLen.out.1]; exact zz1
     have q2 : P2 < l.length := by rw [HLen.out.1]; exact zz2
     obtain ⟨b, off, rfl, hbb, hv0⟩ := jlc HS.out q1
     obtain ⟨b2, off2, ee, -, hv1⟩ := jlc HS.out q2
     cases ee
     have hu0 := jc1 l HU.out P1
     have hu1 := jc1 l HU.out P2
     generalize l.getD P1 0 = e0 at hv0 hu0 HT hG
     generalize l.getD P2 0 = e1 at hv1 hu1 HT hG
     have HP : Hid (∀ W, Calls Tryz.prog 164 #[.int .u64 e0, .int .u64 e1] W fun e w' => e = .returned (.int .u64 (jdl e0 e1)) ∧ w' = W) := fun W => jeg e0 e1 W hu0 hu1
     generalize jdl e0 e1 = s at HP HT hG
     have x1 : (RC : Int) + (j : Int) = (P1 : Int) := by rw [← hP1, Int.natCast_add]
     have x3 : (RC : Int) + (h : Int) = (P3 : Int) := by rw [← hP3, Int.natCast_add]
     have x2 : (P3 : Int) + (j : Int) = (P2 : Int) := by rw [← hP2, Int.natCast_add]
     have y1 : wrap64 (P1 : Int) = (P1 : Int) := jdp zz3
     have y2 : wrap64 (P2 : Int) = (P2 : Int) := jdp zz4
     have y3 : wrap64 (P3 : Int) = (P3 : Int) := jdp zz5
     have y7 : wrap64 ((j : Int) + 1) = ((j + 1 : Nat) : Int) := by simpa using jdp (n := j + 1) (Nat.lt_of_le_of_lt (Nat.le_trans (Nat.succ_le_of_lt hlt) hh16) (by decide))
     have y4 : IntKind.i64.wrap (P1 : Int) = (P1 : Int) := i64_small zz3
     have y5 : IntKind.i64.wrap (P2 : Int) = (P2 : Int) := i64_small zz4
     have y6 : IntKind.i64.wrap (P3 : Int) = (P3 : Int) := i64_small zz5
     have i1 : (j : Int) < (h : Int) := Int.ofNat_lt.2 hlt
     have i2 : (P1 : Int) < (len : Int) := Int.ofNat_lt.2 zz1
     have i3 : (P2 : Int) < (len : Int) := Int.ofNat_lt.2 zz2
     have e5 : b < wr.heap.size := Nat.lt_of_lt_of_le hbb (Nat.le_trans HZ1.out HB.out.size)
     have e7 : w.heap.size < wr.heap.size := Nat.lt_of_lt_of_le (show w.heap.size < W0.heap.size by rw [HZ0.out]; exact Nat.lt_succ_of_lt (Nat.lt_succ_self _)) (Nat.le_trans HZ1.out HB.out.size)
     obtain ⟨tkl, tk9⟩ := tk_le HTK.out hRHh hlt hh16
     have hKp : ∀ W, Below w1.heap.size w1 W → W.cell? ⟨w.heap.size, 2, none⟩ = some (.slice (some ⟨b, off, none⟩) len cap) ∧ W.cell? ⟨w.heap.size, 1, none⟩ = some (.int .i64 c) ∧ W.cell? ⟨b, off + P1, none⟩ = some (.int .u64 e0) ∧ W.cell? ⟨b, off + P2, none⟩ = some (.int .u64 e1) := fun W hb => by
      have hb' := HB1.out.trans (hb.mono HZ1.out)
      obtain ⟨h1, -⟩ := HX.out W hb'
      exact ⟨cCc h1 2, cCc h1 1, (hb'.cell (p := ⟨b, off + P1, none⟩) hbb).trans hv0, (hb'.cell (p := ⟨b, off + P2, none⟩) hbb).trans hv1⟩
     obtain ⟨k0, k1, k2, k3⟩ := hKp wr HB.out
     obtain ⟨g, cap5, w5, hap5, hO5, hB5, hz5⟩ := HO.out.drew.pushk (k := tk) (by rw [List.length_take, HLen.out.2]; exact Nat.min_eq_left tkl) HB.out.drew (Nat.le_refl _) HB.out.size tk9 s
     have hap5 : (Builtin.append_ #[39, 39] 39 #[.slice oa tk oc, .slice (some ⟨wr.heap.size, 0, none⟩) 1 1]).run Tryz.prog (wr.alloc (.cells #[.int .u64 s] 55)).drew = .ok (.slice (some ⟨g, 0, none⟩) (tk + 1) cap5) w5 := hap5
     obtain ⟨m0, m1, m2, m3⟩ := hKp w5 hB5
     have HO5 : Hid (GrowN w5 w1.heap.size (.slice (some ⟨g, 0, none⟩) (tk + 1) cap5) (R.take (RH + (j + 1)))) := by rw [show RH + (j + 1) = tk + 1 by rw [← HTK.out]; rfl, HT.out]; exact hO5
     have HB5 := Lib.hid hB5
     have i4 : (0 : Int) ≤ (P1 : Int) := Int.natCast_nonneg _
     have i5 : (0 : Int) ≤ (P2 : Int) := Int.natCast_nonneg _
     have HHJ := Lib.hid hlt
     clear hKp hv0 hv1 hu0 hu1 hO5 hB5 hbb hG hb3 q1 q2 hP1 hP2 hP3 htk zz1 zz2 zz3 zz4 zz5 tk9 tkl hlen1 hlen2 hch1 hch2 hRHh hRCc
     go_wp2_with fail
     go_region_held3 (fun w' => w'.cell? ⟨w.heap.size, 2, none⟩ = some (.slice (some ⟨b, off, none⟩) len cap) ∧ w'.cell? ⟨w.heap.size, 1, none⟩ = some (.int .i64 c) ∧ w'.cell? ⟨b, off + P1, none⟩ = some (.int .u64 e0) ∧ w'.cell? ⟨b, off + P2, none⟩ = some (.int .u64 e1))
      (first
       | go_keep
       | exact ⟨m0, m1, m2, m3⟩)
      (first
       | (refine jel (v := .slice oa tk oc) (xv := .slice (some ⟨wr.heap.size, 0, none⟩) 1 1) (v' := .slice (some ⟨g, 0, none⟩) (tk + 1) cap5) (w' := w5) rfl (.tmp 31) (.tmp 55) 39 rfl rfl rfl hap5 ?_)
       | (go_at_call 164; refine (HP.out _).mono ?_; rintro e w' ⟨rfl, rfl⟩))
     all_goals go_wp2_with fail
     all_goals clear x0 x1 x2 x3 y0 y1 y2 y3 y4 y5 y6 y9 i2 i3 i4 i5 e5 e7 i8 i9
     all_goals exact ⟨⟨j + 1, (by first | rw [y7] | exact low_step j), Nat.succ_le_of_lt HHJ.out, HO5.out, HB5.out⟩, (by first | exact low_meas HHJ.out y7 | exact low_meas2 HHJ.out)⟩
    ·obtain rfl : h = j := by omega
     have HO9 : Hid (GrowN wr w1.heap.size (.slice oa tk oc) (R.take ((r + 1) * h))) := by rw [HRN.out, HTK.out]; exact HO.out
     have HB9 := Lib.hid HB.out
     clear hb3 htk
     go_wp2_with fail
     go_roundw
     case rel => exact ⟨r + 1, by go_num, by omega, HO9.out, HB9.out⟩
     case measure => simp [intOf]; try omega
  ·obtain rfl : r = 2 := by omega
   have hT : R.take (2 * h) = R := List.take_of_length_le (by rw [HLen.out.2]; omega)
   rw [hT] at HOr
   obtain ⟨oa, oc, rfl⟩ := HOr.out.formk (k := h + h) HLen.out.2
   obtain ⟨V, hV, hXV, hOV, hBV⟩ := jrm (.int .i64 2) (.int .i64 h) (.slice oa (h + h) oc) hXr2
   obtain ⟨t0, t1, t2⟩ := cl3 hXr2
   obtain ⟨f0, f1, f2⟩ := cz3 hXr2
   obtain ⟨q0, q1, q2⟩ := cl3 hXV
   have HBV : Hid (Below w.heap.size w V) := hBV _ _ (HB0.out.trans ((HB1.out.trans (HBr.out.mono HZ1.out)).mono HB0.out.size)) (by omega)
   have HOV : Hid (GrowN V w1.heap.size (.slice oa (h + h) oc) R) := HOr.out.block (fun b hb => hOV.2 _ (by have := HZ1.out; have := HZ0.out; omega))
   clear hX2 hXr2 hXV hOV hBV hT
   go_wp2_with fail
   refine bodyPost_ret (v := .tuple #[.agg #[.int .i64 2, .int .i64 h, .slice oa (h + h) oc], .int .i64 0]) (by simp [results, Tryz.f147, go_sem, q0, q1, q2]) rfl ?_
   obtain ⟨a', cap', hv, hS', hF'⟩ := HOV.out.slF
   have hRl : R.length = h + h := HLen.out.2
   rw [hRl] at hv hS'
   cases hv
   unfold CmsF
   rw [hRl]
   exact ⟨_, _, rfl, hS', fun z hz => Nat.le_trans (Nat.le_trans HB0.out.size HZ1.out) (hF' z hz), HBV.out⟩
end Go.Proofs.YtieknocphiceoaaGreatDoor

/- Package aviarylaw20: few. Printed by gen_wbb.py. Package collector: find, Key, New, as far as wires ask: whose numbers there are. Package collector: find where there is none, Key, New of one config. Printed by gen_wt.py. Package collector: New of one config. Printed by gen_wtn.py. -/
import Derived.RegionIn
import Derived.Test.YtpklkhgnjbopnaaGreatDoorVWp
namespace Go.Proofs.YtpklkhgnjbopnaaGreatDoor
open Go Go.RowKit Go.Shelf
def cutEnt (x : Ent) : Ent := ⟨x.seq, x.tm, cutS 410 x.text, x.sum⟩
def fewRy (y : Ry) : Ry := { y with nots := y.nots.take 102, ents := (y.ents.take 102).map cutEnt }
theorem fewRy_e (y : Ry) : (fewRy y).e = y.e := rfl
theorem fewRy_n (y : Ry) : (fewRy y).n = y.n := rfl
theorem und_intsW : Tryz.prog.underlying 57 = some (.slice 3) := by kernel_rfl
theorem take_intsW (a : Option Addr) (len cap m : Nat) (w : World) (h : m ≤ cap) : (Instr.slice 57 (.slice a len cap) none (some (.int .i64 (m : Int))) none).run Tryz.prog w = .ok (.slice a m cap) w := by
 have hz := dropA_zero a cap 1
 unfold dropA at hz
 have hs : (sizeOf 3).run Tryz.prog w = .ok 1 w := by kernel_rfl
 have he : Tryz.prog.elem 57 = 3 := by kernel_rfl
 rw [run_slice_h (t := 57) (a := a) (len := len) (cap := cap) (w := w) (ht := by rw [he]; exact und_intsW) (kh := .i64) (h := (m : Int)) (by omega) (by omega), he, hs]
 simp only [Result.andThen, sliced, Int.toNat_natCast, Nat.sub_zero, hz]
attribute [-go_sem] Builtin.append_
set_option maxRecDepth 100000 in
set_option maxHeartbeats 4000000 in
theorem few20_any (y : Ry) (na : Option Addr) (nc : Nat) (ea : Option Addr) (ec : Nat) (w : World) (hnc : y.nots.length ≤ nc) (hE : SlE Ent.enc 4 w.heap.size w ea y.ents.length y.ents) :
  Calls Tryz.prog 18 #[.agg (ryV y na nc ea ec)] w fun e w' => ∃ ea' ec', e = .returned (.agg (ryV (fewRy y) na nc ea' ec')) ∧ SlE Ent.enc 4 w'.heap.size w' ea' (fewRy y).ents.length (fewRy y).ents ∧ (∀ x, ea' = some x → w.heap.size ≤ x.block) ∧ Below w.heap.size w w' := by
 obtain ⟨m, hm⟩ : ∃ m, min y.nots.length 102 = m := ⟨_, rfl⟩
 have e1 : min (y.nots.length : Int) 102 = (m : Int) := by omega
 have t1 := fun W => take_intsW na y.nots.length nc m W (by omega)
 have HM := Lib.hid hm
 obtain ⟨W, hW, hX0, hX1, hB, hsz⟩ := boxes2 w (ryV y na nc ea ec) 60 #[.int .i64 0, .int .u64 0, .slice none 0 0, .slice none 0 0] 60
 unfold ryV at hX0 hW ⊢
 obtain ⟨D, hD⟩ : ∃ D, W.drew = D := ⟨_, rfl⟩
 have hDs : D.heap.size = w.heap.size + 2 := by rw [← hD]; exact hsz
 have hD0 : D.heap[w.heap.size]? = some (.cells #[.int .i64 y.e, .int .u64 y.n, .slice na y.nots.length nc, .slice ea y.ents.length ec] 60 (0, 0)) := by rw [← hD]; exact hX0
 have hD1 : D.heap[w.heap.size + 1]? = some (.cells #[.int .i64 0, .int .u64 0, .slice none 0 0, .slice none 0 0] 60 (0, 0)) := by rw [← hD]; exact hX1
 have hBD : Below w.heap.size w D := by rw [← hD]; exact hB.drew
 obtain ⟨V, hV, hXV, hBV, hsV⟩ := boxes1 D #[.int .i64 0, .int .u64 0, .slice none 0 0, .slice none 0 0] 60
 rw [hDs] at hXV
 have hV0 := known hBV (Nat.le_refl _) hD0
 have hV1 := known hBV (Nat.le_refl _) hD1
 obtain ⟨vf0, vf1, vf2, vf3⟩ := cz4 hXV
 obtain ⟨vc0, vc1, vc2, vc3⟩ := cl4 hXV
 obtain ⟨U, hU, hXU, hBU, hKU⟩ := stor4 (.int .i64 y.e) (.int .u64 y.n) (.slice na m nc) (.slice none 0 0) hXV (hBD.trans (hBV.mono hBD.size)) (Nat.le_add_right _ 2)
 have hU0 := hKU.known (show w.heap.size ≠ w.heap.size + 2 by omega) hV0
 have hU1 := hKU.known (show w.heap.size + 1 ≠ w.heap.size + 2 by omega) hV1
 have hSD : D.cell? ⟨w.heap.size, 0, none⟩ = some (.int .i64 y.e) ∧ D.cell? ⟨w.heap.size, 1, none⟩ = some (.int .u64 y.n) ∧ D.cell? ⟨w.heap.size, 2, none⟩ = some (.slice na y.nots.length nc) := ⟨cCc hD0 0, cCc hD0 1, cCc hD0 2⟩
 have hSV : V.cell? ⟨w.heap.size, 0, none⟩ = some (.int .i64 y.e) ∧ V.cell? ⟨w.heap.size, 1, none⟩ = some (.int .u64 y.n) ∧ V.cell? ⟨w.heap.size, 2, none⟩ = some (.slice na y.nots.length nc) := ⟨cCc hV0 0, cCc hV0 1, cCc hV0 2⟩
 have hSU : U.cell? ⟨w.heap.size, 0, none⟩ = some (.int .i64 y.e) ∧ U.cell? ⟨w.heap.size, 1, none⟩ = some (.int .u64 y.n) ∧ U.cell? ⟨w.heap.size, 2, none⟩ = some (.slice na y.nots.length nc) := ⟨cCc hU0 0, cCc hU0 1, cCc hU0 2⟩
 have H0 : Hid (Below w.heap.size w U ∧ U.heap[w.heap.size]? = some (.cells #[.int .i64 y.e, .int .u64 y.n, .slice na y.nots.length nc, .slice ea y.ents.length ec] 60 (0, 0)) ∧ U.heap[w.heap.size + 1]? = some (.cells #[.int .i64 0, .int .u64 0, .slice none 0 0, .slice none 0 0] 60 (0, 0)) ∧ U.heap[w.heap.size + 2]? = some (.cells #[.int .i64 y.e, .int .u64 y.n, .slice na m nc, .slice none 0 0] 60 (0, 0)) ∧ GrowE Ent.enc U (w.heap.size + 3) 116 4 (.slice none 0 0) ((y.ents.take 0).map cutEnt)) := ⟨hBU, hU0, hU1, hXU, GrowE.nil _ _ _ _ _⟩
 have HE := Lib.hid hE
 have HD := Lib.hid hD
 have HDS := Lib.hid hDs
 clear hX0 hX1 hB hsz hD0 hD1 hBD hXV hBV hsV hV0 hV1 hXU hBU hKU hU0 hU1 hE hm hnc hD
 go_enter Tryz.func18, Tryz.ntmps18
 go_wp2_with fail
 refine wp_region_held_drew (S := fun w' => w'.cell? ⟨w.heap.size, 0, none⟩ = some (.int .i64 y.e) ∧ w'.cell? ⟨w.heap.size, 1, none⟩ = some (.int .u64 y.n) ∧ w'.cell? ⟨w.heap.size, 2, none⟩ = some (.slice na y.nots.length nc)) (by kernel_rfl) (by rw [HD.out]; exact hSD) (fun hS => ?_)
 rw [HD.out] at hS ⊢
 refine wpAnyH_take (i := 0) (v := ?_) rfl (by kernel_rfl) (by kernel_rfl) (by kernel_rfl) (fun _ _ _ h => h) (Or.inl ⟨by rfl, ?_⟩) (by assumption) ?_
 rotate_left
 ·intro w hSw; go_simp; with_reducible rfl
 refine wpAnyH_take (i := 1) (v := ?_) rfl (by kernel_rfl) (by kernel_rfl) (by kernel_rfl) (fun _ _ _ h => h) (Or.inl ⟨by rfl, ?_⟩) (by assumption) ?_
 rotate_left
 ·intro w hSw; go_split_ands; go_simp; with_reducible rfl
 refine wpAnyH_take (i := 2) (v := ?_) rfl (by kernel_rfl) (by kernel_rfl) (by kernel_rfl) (fun _ _ _ h => h) (Or.inl ⟨by rfl, ?_⟩) (by assumption) ?_
 rotate_left
 ·intro w hSw; go_simp; with_reducible rfl
 refine wpAnyH_take (i := 3) (v := ?_) rfl (by kernel_rfl) (by kernel_rfl) (by kernel_rfl) (fun _ _ _ h => h) (Or.inl ⟨by rfl, ?_⟩) (by assumption) ?_
 rotate_left
 ·intro w hSw; go_split_ands; go_simp; with_reducible rfl
 refine wpAnyH_take (i := 4) (v := ?_) rfl (by kernel_rfl) (by kernel_rfl) (by kernel_rfl) (fun _ _ _ h => h) (Or.inl ⟨by rfl, ?_⟩) (by assumption) ?_
 rotate_left
 ·intro w hSw; go_simp; with_reducible rfl
 refine wpAnyH_take (i := 5) (v := ?_) rfl (by kernel_rfl) (by kernel_rfl) (by kernel_rfl) (fun _ _ _ h => h) (Or.inl ⟨by rfl, ?_⟩) (by assumption) ?_
 rotate_left
 ·intro w hSw; go_split_ands; go_simp; with_reducible rfl
 refine wpAnyH_take (i := 6) (v := ?_) rfl (by kernel_rfl) (by kernel_rfl) (by kernel_rfl) (fun _ _ _ h => h) (Or.inl ⟨by rfl, ?_⟩) (by assumption) ?_
 rotate_left
 ·intro w hSw; go_simp; with_reducible rfl
 refine wpAnyH_take (i := 7) (v := ?_) rfl (by kernel_rfl) (by kernel_rfl) (by kernel_rfl) (fun _ _ _ h => h) (Or.inl ⟨by rfl, ?_⟩) (by assumption) ?_
 rotate_left
 ·intro w hSw; go_split_ands; go_simp; with_reducible rfl
 refine wpAnyH_take (i := 8) (v := ?_) rfl (by kernel_rfl) (by kernel_rfl) (by kernel_rfl) (fun _ _ _ h => h) (Or.inl ⟨by rfl, ?_⟩) (by assumption) ?_
 rotate_left
 ·intro w hSw; go_simp; with_reducible rfl
 refine wpAnyH_take (i := 9) (v := ?_) rfl (by kernel_rfl) (by kernel_rfl) (by kernel_rfl) (fun _ _ _ h => h) (Or.inl ⟨by rfl, ?_⟩) (by assumption) ?_
 rotate_left
 ·intro w hSw; go_simp; with_reducible rfl
 refine wpAnyH_take (i := 10) (v := ?_) rfl (by kernel_rfl) (by kernel_rfl) (by kernel_rfl) (fun _ _ _ h => h) (Or.inl ⟨by rfl, ?_⟩) (by assumption) ?_
 rotate_left
 ·intro w hSw; go_simp; with_reducible rfl
 refine wpAnyH_take (i := 11) (v := ?_) rfl (by kernel_rfl) (by kernel_rfl) (by kernel_rfl) (fun _ _ _ h => h) (Or.inl ⟨by rfl, ?_⟩) (by assumption) ?_
 rotate_left
 ·intro w hSw; go_simp; with_reducible rfl
 refine wpAnyH_ready (rs := [12]) (by kernel_rfl) (by simp) ?_
 refine AllReadyH.cons rfl (fun K hK => ?_) ?_
 ·go_simp
  refine hK.out _ _ ?_ (fun hS2 => ?_)
  ·exact hSV
  clear hK K hS
  have hS := hS2
  clear hS2
  refine wpAnyH_ready (rs := [13]) (by kernel_rfl) (by simp) ?_
  refine AllReadyH.cons rfl (fun K hK => ?_) ?_
  ·go_simp
   refine hK.out _ _ ?_ (fun hS2 => ?_)
   ·exact hSU
   clear hK K hS
   have hS := hS2
   clear hS2
   refine wpAnyH_done (by kernel_rfl) ?_ _
   clear hS hSD hSV hSU
   go_wp2_with fail
   go_loopw [4] (fun i wr => ∃ (k : Nat) (v : Value), i = .int .i64 k ∧ k ≤ y.ents.length ∧ k ≤ 102 ∧ Hid (Below w.heap.size w wr ∧ wr.heap[w.heap.size]? = some (.cells #[.int .i64 y.e, .int .u64 y.n, .slice na y.nots.length nc, .slice ea y.ents.length ec] 60 (0, 0)) ∧ wr.heap[w.heap.size + 1]? = some (.cells #[.int .i64 0, .int .u64 0, .slice none 0 0, .slice none 0 0] 60 (0, 0)) ∧ wr.heap[w.heap.size + 2]? = some (.cells #[.int .i64 y.e, .int .u64 y.n, .slice na m nc, v] 60 (0, 0)) ∧ GrowE Ent.enc wr (w.heap.size + 3) 116 4 v ((y.ents.take k).map cutEnt))) (fun i _ => y.ents.length - (intOf i).toNat)
   case atStart => exact ⟨0, _, rfl, Nat.zero_le _, Nat.zero_le _, H0.out⟩
   case round =>
    obtain ⟨k, v, rfl, hk, hk2, HH⟩ := hrel
    have p3 : wr.cell? ⟨w.heap.size, 3, none⟩ = some (.slice ea y.ents.length ec) := cCc HH.out.2.1 3
    by_cases hlt : k < y.ents.length
    ·by_cases hl2 : k < 102
     ·obtain ⟨hB, hP, hR, hO, hG⟩ := HH.out
      obtain ⟨x, b1, o1, hx, rfl, hb1, hc1⟩ := (HE.out.below hB).at hlt
      have x0 : wr.cell? ⟨b1, o1 + k * 4, none⟩ = some (.int .u64 x.seq) := hc1 0 (by omega)
      have x1 : wr.cell? ⟨b1, o1 + k * 4 + 1, none⟩ = some (.int .u64 x.tm) := hc1 1 (by omega)
      have x2 : wr.cell? ⟨b1, o1 + k * 4 + 2, none⟩ = some (.string x.text) := hc1 2 (by omega)
      have x3 : wr.cell? ⟨b1, o1 + k * 4 + 3, none⟩ = some (.int .u64 x.sum) := hc1 3 (by omega)
      have i0 : (0 : Int) ≤ (k : Int) := by omega
      have i1 : (k : Int) < (y.ents.length : Int) := by omega
      have i2 : (k : Int) < 102 := by omega
      obtain ⟨X1, hX1, hXX, hBX, hsX⟩ := boxes1 wr #[.int .u64 x.seq, .int .u64 x.tm, .string x.text, .int .u64 x.sum] 116
      have c2 : X1.cell? ⟨wr.heap.size, 2, none⟩ = some (.string x.text) := cCc hXX 2
      have f2 : X1.frozen? ⟨wr.heap.size, 2, none⟩ = false := cFz hXX 2
      obtain ⟨T, hT⟩ : ∃ T, cutS 410 x.text = T := ⟨_, rfl⟩
      have hT2 := hT
      unfold cutS at hT2
      obtain ⟨q, hq⟩ : ∃ q, min x.text.size 410 = q := ⟨_, rfl⟩
      rw [hq] at hT2
      have e2 : (min (x.text.size : Int) 410).toNat = q := by omega
      have e2' : min x.text.size 410 = q := hq
      have hql : q ≤ x.text.size := by omega
      obtain ⟨X2, hX2, hXX2, -, hB2, -, hz2⟩ := box_set (i := 2) hXX (.string T)
      have hBX2 : Below wr.heap.size wr X2 := hB2 _ _ (Nat.le_refl _) hBX
      have hO2 := known hBX2 (Nat.le_refl _) hO
      have hP2 := known hBX2 (Nat.le_refl _) hP
      have hR2 := known hBX2 (Nat.le_refl _) hR
      have hOl := (Array.getElem?_eq_some_iff.1 hO).1
      have hXX3 : X2.heap[wr.heap.size]? = some (.cells #[.int .u64 x.seq, .int .u64 x.tm, .string T, .int .u64 x.sum] 116 (0, 0)) := hXX2
      have hBw2 := hB.trans (hBX2.mono hB.size)
      have hlen : ((y.ents.take k).map cutEnt).length = k := by rw [List.length_map, List.length_take]; omega
      obtain ⟨g, cap, w5, hap, hG5, hB5, hz5, hbl5⟩ := (hG.keep (q := fun _ => True) (Kept.of hBX2) (fun _ _ => trivial)).push (w0 := w) (B := w.heap.size) 58 und_ents' info_ent' rfl (by decide) (cutEnt x) [.int .u64 x.seq, .int .u64 x.tm, .string T, .int .u64 x.sum] (by rw [← hT]; rfl) hBw2 (Nat.le_add_right _ 3) (by have := hBX2.size; omega) (by simp [Value.oneCell']) (by rw [hlen]; omega) (by decide)
      rw [hlen] at hap hG5
      have hO5 := (hbl5 _ (by omega)).trans hO2
      have hP5 := (hbl5 _ (by omega)).trans hP2
      have hR5 := (hbl5 _ (by omega)).trans hR2
      obtain ⟨z0, z1, z2, z3⟩ := cl4 hXX3
      have c3 : X2.cell? ⟨w.heap.size + 2, 3, none⟩ = some v := cCc hO2 3
      have c5 : w5.cell? ⟨w.heap.size + 2, 3, none⟩ = some v := cCc hO5 3
      have f5 : w5.frozen? ⟨w.heap.size + 2, 3, none⟩ = false := cFz hO5 3
      obtain ⟨V6, hV6, hVX6, -, hVB6, -⟩ := box_set (i := 3) hO5 (.slice (some ⟨g, 0, none⟩) (k + 1) cap)
      have hKV : Kept (· ≠ w.heap.size + 2) w5 V6 := by rw [← hV6]; exact Kept.refl.set (fun _ h => h rfl) _ _
      have HN : Hid (Below w.heap.size w V6 ∧ V6.heap[w.heap.size]? = some (.cells #[.int .i64 y.e, .int .u64 y.n, .slice na y.nots.length nc, .slice (some ⟨b1, o1, none⟩) y.ents.length ec] 60 (0, 0)) ∧ V6.heap[w.heap.size + 1]? = some (.cells #[.int .i64 0, .int .u64 0, .slice none 0 0, .slice none 0 0] 60 (0, 0)) ∧ V6.heap[w.heap.size + 2]? = some (.cells #[.int .i64 y.e, .int .u64 y.n, .slice na m nc, .slice (some ⟨g, 0, none⟩) (k + 1) cap] 60 (0, 0)) ∧ GrowE Ent.enc V6 (w.heap.size + 3) 116 4 (.slice (some ⟨g, 0, none⟩) (k + 1) cap) ((y.ents.take (k + 1)).map cutEnt)) := by
       refine ⟨hVB6 _ _ (Nat.le_add_right _ 2) hB5, hKV.known (show w.heap.size ≠ w.heap.size + 2 by omega) hP5, hKV.known (show w.heap.size + 1 ≠ w.heap.size + 2 by omega) hR5, hVX6, ?_⟩
       rw [take_snoc' hx, List.map_append]
       exact hG5.keep hKV (fun k hk => by show k ≠ w.heap.size + 2; omega)
      clear HH hB hP hR hO hG hx hb1 hc1 hXX hBX hsX hXX2 hB2 hz2 hBX2 hO2 hP2 hR2 hOl hXX3 hBw2 hlen hG5 hB5 hz5 hbl5 hO5 hP5 hR5 hVX6 hVB6 hKV hT hq
      go_wp2_with (at_builtin; refine wp_append_eq rfl _ _ _ rfl rfl rfl hap ?_)
      exact ⟨⟨k + 1, _, by go_num, by omega, by omega, HN.out⟩, by simp [intOf]; omega⟩
     ·obtain rfl : k = 102 := by omega
      have i1 : ((102 : Nat) : Int) < (y.ents.length : Int) := by omega
      obtain ⟨hB, hP, hR, hO, hG⟩ := HH.out
      obtain ⟨o0, o1, o2, o3⟩ := cl4 hO
      obtain ⟨rf0, rf1, rf2, rf3⟩ := cz4 hR
      obtain ⟨rc0, rc1, rc2, rc3⟩ := cl4 hR
      obtain ⟨U4, hU4, hUX, hUB, hUK⟩ := stor4 (.int .i64 y.e) (.int .u64 y.n) (.slice na m nc) v hR hB (Nat.le_succ _)
      obtain ⟨u0, u1, u2, u3⟩ := cl4 hUX
      obtain ⟨a, c, hv, hsl⟩ := (hG.keep hUK (fun k hk => by show k ≠ w.heap.size + 1; omega)).sl (fun x => rfl)
      have hfar : ∀ x, a = some x → w.heap.size ≤ x.block := fun x hx => by
       rcases hG.2 with ⟨h1, -⟩ | ⟨g, cap, cur, h1, h2, -⟩
       ·injection hv.symm.trans h1 with h3
        rw [h3] at hx
        cases hx
       ·injection hv.symm.trans h1 with h3
        rw [h3] at hx
        cases hx
        show w.heap.size ≤ g
        omega
      have HFar := Lib.hid hfar
      have hlen : ((y.ents.take 102).map cutEnt).length = 102 := by rw [List.length_map, List.length_take]; omega
      rw [hlen] at hv hsl
      subst hv
      have HF : Hid (SlE Ent.enc 4 U4.heap.size U4 a (fewRy y).ents.length (fewRy y).ents ∧ (fewRy y).ents.length = 102 ∧ (fewRy y).nots.length = m) := by
       have e : (fewRy y).ents = (y.ents.take 102).map cutEnt := by unfold fewRy; dsimp only
       refine ⟨?_, by rw [e, hlen], by unfold fewRy; dsimp only; rw [List.length_take, Nat.min_comm]; exact HM.out⟩
       rw [e, hlen]
       exact hsl
      have HBU := Lib.hid hUB
      clear hB hP hR hO hG hUX hUB hUK hsl hfar
      go_wp2_with fail
      refine bodyPost_ret (v := .agg (ryV (fewRy y) na nc a c)) (by simp [results, ryV, fewRy_e, fewRy_n, HF.out.2.1, HF.out.2.2, Tryz.results18, go_sem, u0, u1, u2, u3]) rfl ⟨a, c, rfl, HF.out.1, HFar.out, HBU.out⟩
    ·obtain rfl : k = y.ents.length := by omega
     obtain ⟨hB, hP, hR, hO, hG⟩ := HH.out
     obtain ⟨o0, o1, o2, o3⟩ := cl4 hO
     obtain ⟨rf0, rf1, rf2, rf3⟩ := cz4 hR
     obtain ⟨rc0, rc1, rc2, rc3⟩ := cl4 hR
     obtain ⟨U4, hU4, hUX, hUB, hUK⟩ := stor4 (.int .i64 y.e) (.int .u64 y.n) (.slice na m nc) v hR hB (Nat.le_succ _)
     obtain ⟨u0, u1, u2, u3⟩ := cl4 hUX
     obtain ⟨a, c, hv, hsl⟩ := (hG.keep hUK (fun k hk => by show k ≠ w.heap.size + 1; omega)).sl (fun x => rfl)
     have hfar : ∀ x, a = some x → w.heap.size ≤ x.block := fun x hx => by
      rcases hG.2 with ⟨h1, -⟩ | ⟨g, cap, cur, h1, h2, -⟩
      ·injection hv.symm.trans h1 with h3
       rw [h3] at hx
       cases hx
      ·injection hv.symm.trans h1 with h3
       rw [h3] at hx
       cases hx
       show w.heap.size ≤ g
       omega
     have HFar := Lib.hid hfar
     have hlen : ((y.ents.take y.ents.length).map cutEnt).length = y.ents.length := by rw [List.length_map, List.length_take]; omega
     rw [hlen] at hv hsl
     subst hv
     have HF : Hid (SlE Ent.enc 4 U4.heap.size U4 a (fewRy y).ents.length (fewRy y).ents ∧ (fewRy y).ents.length = y.ents.length ∧ (fewRy y).nots.length = m) := by
      have e : (fewRy y).ents = (y.ents.take y.ents.length).map cutEnt := by unfold fewRy; dsimp only; rw [List.take_of_length_le (show y.ents.length ≤ 102 from hk2), List.take_of_length_le (Nat.le_refl _)]
      refine ⟨?_, by rw [e, hlen], by unfold fewRy; dsimp only; rw [List.length_take, Nat.min_comm]; exact HM.out⟩
      rw [e, hlen]
      exact hsl
     have HBU := Lib.hid hUB
     clear hB hP hR hO hG hUX hUB hUK hsl hfar
     go_wp2_with fail
     refine bodyPost_ret (v := .agg (ryV (fewRy y) na nc a c)) (by simp [results, ryV, fewRy_e, fewRy_n, HF.out.2.1, HF.out.2.2, Tryz.results18, go_sem, u0, u1, u2, u3]) rfl ⟨a, c, rfl, HF.out.1, HFar.out, HBU.out⟩
  exact AllReadyH.nil
 exact AllReadyH.nil
end Go.Proofs.YtpklkhgnjbopnaaGreatDoor
namespace Go.Proofs.YtpklkhgnjbopnaaGreatDoor
open Go Go.RowKit Go.Shelf
theorem tnNew_ok (id bud life A B : Int) (w : World) (hb1 : 0 ≤ bud) (hb2 : bud ≤ 1000000) :
  Calls Tryz.prog 44 #[.agg #[.int .u64 id, .int .i64 bud, .int .u64 life], .agg #[.int .u64 A, .int .u64 B]] w fun e w' => ∃ b, e = .returned (.tuple #[.pointer (some ⟨b, 0, none⟩), .int .i64 0]) ∧ Below w.heap.size w w' := by
 obtain ⟨W0, hW0, hX0, hX1, hB0, hs0⟩ := boxes2 w #[.int .u64 id, .int .i64 bud, .int .u64 life] 41 #[.int .u64 A, .int .u64 B] 24
 obtain ⟨c0, c1, c2⟩ := cl3 hX0
 obtain ⟨k0, k1⟩ := cl2 hX1
 have h1 : decide (bud < 0) = false := decide_eq_false (by omega)
 have h2 : decide (1000000 < bud) = false := decide_eq_false (by omega)
 have HG := Lib.hid (fun W => grant_New_any W)
 obtain ⟨W1, hW1, hX2, hB1, hs1⟩ := boxes1 W0 #[.slice none 0 0, .int .u64 0, .slice none 0 0, .int .u64 0, .slice none 0 0, .int .u64 0, .int .u64 id, .int .i64 bud, .int .u64 life, .int .u64 A, .int .u64 B] 172
 have hB01 : Below w.heap.size w W1 := hB0.trans (hB1.mono hB0.size)
 have hs2 : W0.heap.size = w.heap.size + 2 := by omega
 rw [hs2] at hX2
 have HF : Hid (∀ w2, Below W1.heap.size W1 w2 → w2.cell? ⟨w.heap.size + 2, 1, none⟩ = some (.int .u64 0) ∧ w2.cell? ⟨w.heap.size + 2, 2, none⟩ = some (.slice none 0 0) ∧ w2.frozen? ⟨w.heap.size + 2, 1, none⟩ = false ∧ w2.frozen? ⟨w.heap.size + 2, 2, none⟩ = false ∧ Hid (Below w.heap.size w ((w2.setCell ⟨w.heap.size + 2, 1, none⟩ (.int .u64 1)).setCell ⟨w.heap.size + 2, 2, none⟩ (.slice none 0 0)))) := fun w2 hb => by
  have hx := known hb (Nat.le_refl _) hX2
  exact ⟨cCc hx 1, cCc hx 2, cFz hx 1, cFz hx 2, ((hB01.trans (hb.mono hB01.size)).setCell (p := ⟨w.heap.size + 2, 1, none⟩) (by show w.heap.size ≤ w.heap.size + 2; omega) _).setCell (p := ⟨w.heap.size + 2, 2, none⟩) (by show w.heap.size ≤ w.heap.size + 2; omega) _⟩
 have hn1 : ¬ bud < 0 := by omega
 have hn2 : ¬ 1000000 < bud := by omega
 clear hX0 hX1 hX2 hB0 hB1 hB01 hb1 hb2 hs1
 go_enter Tryz.func44, Tryz.ntmps44
 go_wp2_with
  (go_at_call 81
   refine (HG.out _).mono ?_
   rintro e w2 ⟨rfl, hb⟩
   obtain ⟨p1, p2, p3, p4, HQ⟩ := HF.out w2 hb
   clear hb)
 exact bodyPost_ret (v := .tuple #[.pointer (some ⟨w.heap.size + 2, 0, none⟩), .int .i64 0]) (by simp [results, Tryz.results44, go_sem]) rfl ⟨_, rfl, HQ.out⟩
def tenantS : ByteArray := ⟨#[116, 101, 110, 97, 110, 116]⟩
def nul0 : ByteArray := ⟨#[0]⟩
def one1 : ByteArray := ⟨#[1]⟩
def childK (A B : Int) (s : ByteArray) : Int × Int := (sipS A B (nul0 ++ s), sipS A B (one1 ++ s))
set_option maxRecDepth 100000 in
set_option maxHeartbeats 2000000 in
theorem Child_any (A B : Int) (s : ByteArray) (w : World) (hs : s.size < 4294967280) : CR 82 #[.agg #[.int .u64 A, .int .u64 B], .string s] w (.agg #[.int .u64 (childK A B s).1, .int .u64 (childK A B s).2]) := by
 have z0 : (nul0 ++ s).size < 4294967281 := by rw [ByteArray.size_append]; show 1 + s.size < _; omega
 have z1 : (one1 ++ s).size < 4294967281 := by rw [ByteArray.size_append]; show 1 + s.size < _; omega
 have hl : ¬ 9223372036854775807 < 1 + s.size := by omega
 unfold childK
 dsimp only
 obtain ⟨S0, hS0⟩ : ∃ S, sipS A B (nul0 ++ s) = S := ⟨_, rfl⟩
 obtain ⟨S1, hS1⟩ : ∃ S, sipS A B (one1 ++ s) = S := ⟨_, rfl⟩
 have HS0 : Hid (∀ W, CR 110 #[.agg #[.int .u64 A, .int .u64 B], .string (⟨#[0]⟩ ++ s)] W (.int .u64 S0)) := fun W => by rw [← hS0]; exact sip_Sum_any A B (nul0 ++ s) W z0
 have HS1 : Hid (∀ W, CR 110 #[.agg #[.int .u64 A, .int .u64 B], .string (⟨#[1]⟩ ++ s)] W (.int .u64 S1)) := fun W => by rw [← hS1]; exact sip_Sum_any A B (one1 ++ s) W z1
 rw [hS0, hS1]
 obtain ⟨W, hW, hX0, hX1, hB0, hs0⟩ := boxes2 w #[.int .u64 A, .int .u64 B] 24 #[.int .u64 0, .int .u64 0] 24
 obtain ⟨D, hD⟩ : ∃ D, W.drew = D := ⟨_, rfl⟩
 have hBD : Below w.heap.size w D := by rw [← hD]; exact hB0.drew
 have hXD0 : D.heap[w.heap.size]? = some (.cells #[.int .u64 A, .int .u64 B] 24 (0, 0)) := by rw [← hD]; exact hX0
 have hXD1 : D.heap[w.heap.size + 1]? = some (.cells #[.int .u64 0, .int .u64 0] 24 (0, 0)) := by rw [← hD]; exact hX1
 obtain ⟨d0, d1⟩ := cl2 hXD0
 have HF : Hid (∀ V, Below D.heap.size D V → V.cell? ⟨w.heap.size, 0, none⟩ = some (.int .u64 A) ∧ V.cell? ⟨w.heap.size, 1, none⟩ = some (.int .u64 B) ∧
   (V.cell? ⟨w.heap.size + 1, 0, none⟩ = some (.int .u64 0) ∧ V.frozen? ⟨w.heap.size + 1, 0, none⟩ = false) ∧
   ((V.setCell ⟨w.heap.size + 1, 0, none⟩ (.int .u64 S0)).cell? ⟨w.heap.size + 1, 1, none⟩ = some (.int .u64 0)) ∧ (V.setCell ⟨w.heap.size + 1, 0, none⟩ (.int .u64 S0)).frozen? ⟨w.heap.size + 1, 1, none⟩ = false ∧ True ∧
   ((V.setCell ⟨w.heap.size + 1, 0, none⟩ (.int .u64 S0)).setCell ⟨w.heap.size + 1, 1, none⟩ (.int .u64 S1)).cell? ⟨w.heap.size + 1, 0, none⟩ = some (.int .u64 S0) ∧ ((V.setCell ⟨w.heap.size + 1, 0, none⟩ (.int .u64 S0)).setCell ⟨w.heap.size + 1, 1, none⟩ (.int .u64 S1)).cell? ⟨w.heap.size + 1, 1, none⟩ = some (.int .u64 S1) ∧
   Hid (Below w.heap.size w ((V.setCell ⟨w.heap.size + 1, 0, none⟩ (.int .u64 S0)).setCell ⟨w.heap.size + 1, 1, none⟩ (.int .u64 S1)))) := fun V hV => by
  have y0 := known hV (Nat.le_refl _) hXD0
  have y1 := known hV (Nat.le_refl _) hXD1
  have y2 := hSk y1 (i := 0) (.int .u64 S0)
  have y3 := hSk y2 (i := 1) (.int .u64 S1)
  exact ⟨cCc y0 0, cCc y0 1, ⟨cCc y1 0, cFz y1 0⟩, cCc y2 1, cFz y2 1, trivial, cCc y3 0, cCc y3 1, ((hBD.trans (hV.mono hBD.size)).setCell (p := ⟨w.heap.size + 1, 0, none⟩) (Nat.le_succ _) _).setCell (p := ⟨w.heap.size + 1, 1, none⟩) (Nat.le_succ _) _⟩
 have HD := Lib.hid hD
 clear hX0 hX1 hB0 hD hBD hXD0 hXD1 hS0 hS1 z0 z1 hs
 go_enter Tryz.func82, Tryz.ntmps82
 go_wp2_with fail
 refine wp_region_any (by kernel_rfl) ?_
 change wpAny _ _ _ _ _ _ _ (World.drew _)
 rw [HD.out]
 refine tk 1 (v := ?_) rfl ?_ ?_
 rotate_left
 ·intro w; go_simp; with_reducible rfl
 refine tk 2 (v := ?_) rfl ?_ ?_
 rotate_left
 ·intro w; go_simp; with_reducible rfl
 refine tk 5 (v := ?_) rfl ?_ ?_
 rotate_left
 ·intro w; go_simp; with_reducible rfl
 refine tk 6 (v := ?_) rfl ?_ ?_
 rotate_left
 ·intro w; go_simp; with_reducible rfl
 refine wpAny_ready (rs := [0, 4]) (by kernel_rfl) (by simp) ?_
 refine AllReady.cons rfl (fun K hK => ?_) ?_
 ·go_simp
  refine hK _ _ ?_
  clear hK K
  refine wpAny_ready (rs := [3, 4]) (by kernel_rfl) (by simp) ?_
  refine AllReady.cons rfl (fun K hK => ?_) ?_
  ·go_simp
   refine (HS0.out _).mono ?_
   rintro e x1 ⟨rfl, hb⟩
   obtain ⟨a0, a1, -⟩ := HF.out x1 hb
   have HX1 := Lib.hid hb
   clear hb
   refine hK _ _ ?_
   clear hK K
   refine wpAny_ready (rs := [4]) (by kernel_rfl) (by simp) ?_
   refine AllReady.cons rfl (fun K hK => ?_) ?_
   ·go_simp
    refine hK _ _ ?_
    clear hK K
    refine wpAny_ready (rs := [7]) (by kernel_rfl) (by simp) ?_
    refine AllReady.cons rfl (fun K hK => ?_) ?_
    ·go_simp
     refine (HS1.out _).mono ?_
     rintro e x2 ⟨rfl, hb⟩
     obtain ⟨-, -, ⟨r0, r1⟩, r2, r3, -, r4, r5, HE⟩ := HF.out x2 (HX1.out.trans (hb.mono HX1.out.size))
     clear hb
     refine hK _ _ ?_
     clear hK K
     refine tk 8 (v := ?_) rfl ?_ ?_
     rotate_left
     ·intro w; go_simp; with_reducible rfl
     refine wpAny_ready (rs := [9]) (by kernel_rfl) (by simp) ?_
     refine AllReady.cons rfl (fun K hK => ?_) ?_
     ·go_simp
      refine hK _ _ ?_
      clear hK K
      refine wpAny_done (by kernel_rfl) ?_ _
      go_wp2_with fail
      exact bodyPost_ret (v := .agg #[.int .u64 S0, .int .u64 S1]) (by simp [results, Tryz.results82, go_sem, r4, r5]) rfl ⟨rfl, HE.out⟩
     exact AllReady.nil
    exact AllReady.nil
   exact AllReady.nil
  refine AllReady.cons rfl (fun K hK => ?_) ?_
  ·go_simp
   refine hK _ _ ?_
   clear hK K
   refine wpAny_ready (rs := [3]) (by kernel_rfl) (by simp) ?_
   refine AllReady.cons rfl (fun K hK => ?_) ?_
   ·go_simp
    refine (HS0.out _).mono ?_
    rintro e x1 ⟨rfl, hb⟩
    obtain ⟨a0, a1, -⟩ := HF.out x1 hb
    have HX1 := Lib.hid hb
    clear hb
    refine hK _ _ ?_
    clear hK K
    refine wpAny_ready (rs := [7]) (by kernel_rfl) (by simp) ?_
    refine AllReady.cons rfl (fun K hK => ?_) ?_
    ·go_simp
     refine (HS1.out _).mono ?_
     rintro e x2 ⟨rfl, hb⟩
     obtain ⟨-, -, ⟨r0, r1⟩, r2, r3, -, r4, r5, HE⟩ := HF.out x2 (HX1.out.trans (hb.mono HX1.out.size))
     clear hb
     refine hK _ _ ?_
     clear hK K
     refine tk 8 (v := ?_) rfl ?_ ?_
     rotate_left
     ·intro w; go_simp; with_reducible rfl
     refine wpAny_ready (rs := [9]) (by kernel_rfl) (by simp) ?_
     refine AllReady.cons rfl (fun K hK => ?_) ?_
     ·go_simp
      refine hK _ _ ?_
      clear hK K
      refine wpAny_done (by kernel_rfl) ?_ _
      go_wp2_with fail
      exact bodyPost_ret (v := .agg #[.int .u64 S0, .int .u64 S1]) (by simp [results, Tryz.results82, go_sem, r4, r5]) rfl ⟨rfl, HE.out⟩
     exact AllReady.nil
    exact AllReady.nil
   exact AllReady.nil
  exact AllReady.nil
 refine AllReady.cons rfl (fun K hK => ?_) ?_
 ·go_simp
  refine hK _ _ ?_
  clear hK K
  refine wpAny_ready (rs := [0]) (by kernel_rfl) (by simp) ?_
  refine AllReady.cons rfl (fun K hK => ?_) ?_
  ·go_simp
   refine hK _ _ ?_
   clear hK K
   refine wpAny_ready (rs := [3]) (by kernel_rfl) (by simp) ?_
   refine AllReady.cons rfl (fun K hK => ?_) ?_
   ·go_simp
    refine (HS0.out _).mono ?_
    rintro e x1 ⟨rfl, hb⟩
    obtain ⟨a0, a1, -⟩ := HF.out x1 hb
    have HX1 := Lib.hid hb
    clear hb
    refine hK _ _ ?_
    clear hK K
    refine wpAny_ready (rs := [7]) (by kernel_rfl) (by simp) ?_
    refine AllReady.cons rfl (fun K hK => ?_) ?_
    ·go_simp
     refine (HS1.out _).mono ?_
     rintro e x2 ⟨rfl, hb⟩
     obtain ⟨-, -, ⟨r0, r1⟩, r2, r3, -, r4, r5, HE⟩ := HF.out x2 (HX1.out.trans (hb.mono HX1.out.size))
     clear hb
     refine hK _ _ ?_
     clear hK K
     refine tk 8 (v := ?_) rfl ?_ ?_
     rotate_left
     ·intro w; go_simp; with_reducible rfl
     refine wpAny_ready (rs := [9]) (by kernel_rfl) (by simp) ?_
     refine AllReady.cons rfl (fun K hK => ?_) ?_
     ·go_simp
      refine hK _ _ ?_
      clear hK K
      refine wpAny_done (by kernel_rfl) ?_ _
      go_wp2_with fail
      exact bodyPost_ret (v := .agg #[.int .u64 S0, .int .u64 S1]) (by simp [results, Tryz.results82, go_sem, r4, r5]) rfl ⟨rfl, HE.out⟩
     exact AllReady.nil
    exact AllReady.nil
   exact AllReady.nil
  exact AllReady.nil
 exact AllReady.nil
end Go.Proofs.YtpklkhgnjbopnaaGreatDoor
namespace Go.Proofs.YtpklkhgnjbopnaaGreatDoor
open Go Go.RowKit Go.Shelf
theorem index_none (n : Int) (w : World) : Calls Tryz.prog 80 #[.slice none 0 0, .int .u64 n] w fun e w' => e = .returned (.int .i64 (-1)) ∧ w' = w := by
 go_enter Tryz.func80, Tryz.ntmps80
 go_wp2_with fail
 go_loopw [8] (fun i wr => i = .int .i64 0 ∧ wr = w) (fun _ _ => 0)
 case atStart => exact ⟨rfl, rfl⟩
 case round =>
  obtain ⟨rfl, rfl⟩ := hrel
  go_wp2_with fail
  go_ret
  exact ⟨rfl, rfl⟩
theorem find_none (b : Nat) (n : Int) (w : World) (h : w.cell? ⟨b, 2, none⟩ = some (.slice none 0 0)) : Calls Tryz.prog 43 #[.pointer (some ⟨b, 0, none⟩), .int .u64 n] w fun e w' => e = .returned (.pointer none) ∧ w' = w := by
 have HI := Lib.hid fun V => index_none n V
 go_enter Tryz.func43, Tryz.ntmps43
 go_wp2_with fail
 refine (HI.out _).mono ?_
 rintro e w1 ⟨rfl, hw⟩
 have hw := hw.symm
 subst hw
 go_wp2_with fail
 go_ret
 exact ⟨rfl, rfl⟩
def keyC (A B id : Int) : Int × Int := childK A B (tenantS ++ strOfNums (putNums id))
set_option maxRecDepth 100000 in
set_option maxHeartbeats 2000000 in
theorem Key_any (A B id : Int) (w : World) (hu : U64 id) : CR 45 #[.agg #[.int .u64 A, .int .u64 B], .int .u64 id] w (.agg #[.int .u64 (keyC A B id).1, .int .u64 (keyC A B id).2]) := by
 unfold keyC
 obtain ⟨p, hp⟩ : ∃ p, strOfNums (putNums id) = p := ⟨_, rfl⟩
 have hpz : p.size ≤ 9 := by rw [← hp, strOfNums_size]; have := numsB_one_len id; rw [numsB_one, List.length_map] at this; exact this.2
 have HP : Hid (∀ W, CR 50 #[.int .u64 id] W (.string p)) := fun W => by rw [← hp]; exact field_Put_any id W hu
 have hl : ¬ 9223372036854775807 < 6 + p.size := by omega
 have hz : (tenantS ++ p).size < 4294967280 := by rw [ByteArray.size_append]; show 6 + p.size < _; omega
 rw [hp]
 obtain ⟨⟨S0, S1⟩, hS⟩ : ∃ S, childK A B (tenantS ++ p) = S := ⟨_, rfl⟩
 have HC : Hid (∀ W, CR 82 #[.agg #[.int .u64 A, .int .u64 B], .string (⟨#[116, 101, 110, 97, 110, 116]⟩ ++ p)] W (.agg #[.int .u64 S0, .int .u64 S1])) := fun W => by
  have h := Child_any A B (tenantS ++ p) W hz
  rw [hS] at h
  exact h
 rw [hS]
 obtain ⟨W, hW, hX0, hX1, hB0, hs0⟩ := boxes2 w #[.int .u64 A, .int .u64 B] 24 #[.int .u64 0, .int .u64 0] 24
 obtain ⟨D, hD⟩ : ∃ D, W.drew = D := ⟨_, rfl⟩
 have hBD : Below w.heap.size w D := by rw [← hD]; exact hB0.drew
 have hXD0 : D.heap[w.heap.size]? = some (.cells #[.int .u64 A, .int .u64 B] 24 (0, 0)) := by rw [← hD]; exact hX0
 have hXD1 : D.heap[w.heap.size + 1]? = some (.cells #[.int .u64 0, .int .u64 0] 24 (0, 0)) := by rw [← hD]; exact hX1
 obtain ⟨d0, d1⟩ := cl2 hXD0
 have HF : Hid (∀ V, Below D.heap.size D V → V.cell? ⟨w.heap.size, 0, none⟩ = some (.int .u64 A) ∧ V.cell? ⟨w.heap.size, 1, none⟩ = some (.int .u64 B) ∧
   (V.cell? ⟨w.heap.size + 1, 0, none⟩ = some (.int .u64 0) ∧ V.frozen? ⟨w.heap.size + 1, 0, none⟩ = false) ∧
   ((V.setCell ⟨w.heap.size + 1, 0, none⟩ (.int .u64 S0)).cell? ⟨w.heap.size + 1, 1, none⟩ = some (.int .u64 0)) ∧ (V.setCell ⟨w.heap.size + 1, 0, none⟩ (.int .u64 S0)).frozen? ⟨w.heap.size + 1, 1, none⟩ = false ∧
   ((V.setCell ⟨w.heap.size + 1, 0, none⟩ (.int .u64 S0)).setCell ⟨w.heap.size + 1, 1, none⟩ (.int .u64 S1)).cell? ⟨w.heap.size + 1, 0, none⟩ = some (.int .u64 S0) ∧ ((V.setCell ⟨w.heap.size + 1, 0, none⟩ (.int .u64 S0)).setCell ⟨w.heap.size + 1, 1, none⟩ (.int .u64 S1)).cell? ⟨w.heap.size + 1, 1, none⟩ = some (.int .u64 S1) ∧
   Hid (Below w.heap.size w ((V.setCell ⟨w.heap.size + 1, 0, none⟩ (.int .u64 S0)).setCell ⟨w.heap.size + 1, 1, none⟩ (.int .u64 S1)))) := fun V hV => by
  have y0 := known hV (Nat.le_refl _) hXD0
  have y1 := known hV (Nat.le_refl _) hXD1
  have y2 := hSk y1 (i := 0) (.int .u64 S0)
  have y3 := hSk y2 (i := 1) (.int .u64 S1)
  exact ⟨cCc y0 0, cCc y0 1, ⟨cCc y1 0, cFz y1 0⟩, cCc y2 1, cFz y2 1, cCc y3 0, cCc y3 1, ((hBD.trans (hV.mono hBD.size)).setCell (p := ⟨w.heap.size + 1, 0, none⟩) (Nat.le_succ _) _).setCell (p := ⟨w.heap.size + 1, 1, none⟩) (Nat.le_succ _) _⟩
 have HD := Lib.hid hD
 clear hX0 hX1 hB0 hD hBD hXD0 hXD1 hS hp hpz hz hu
 go_enter Tryz.func45, Tryz.ntmps45
 go_wp2_with fail
 refine wp_region_any (by kernel_rfl) ?_
 change wpAny _ _ _ _ _ _ _ (World.drew _)
 rw [HD.out]
 refine tk 1 (v := ?_) rfl ?_ ?_
 rotate_left
 ·intro w; go_simp; with_reducible rfl
 refine wpAny_ready (rs := [0, 2]) (by kernel_rfl) (by simp) ?_
 refine AllReady.cons rfl (fun K hK => ?_) ?_
 ·go_simp
  refine hK _ _ ?_
  clear hK K
  refine wpAny_ready (rs := [2]) (by kernel_rfl) (by simp) ?_
  refine AllReady.cons rfl (fun K hK => ?_) ?_
  ·go_simp
   refine (HP.out _).mono ?_
   rintro e x1 ⟨rfl, hb⟩
   obtain ⟨a0, a1, -⟩ := HF.out x1 hb
   have HX1 := Lib.hid hb
   clear hb
   refine hK _ _ ?_
   clear hK K
   refine tk 3 (v := ?_) rfl ?_ ?_
   rotate_left
   ·intro w; go_simp; with_reducible rfl
   refine wpAny_ready (rs := [4]) (by kernel_rfl) (by simp) ?_
   refine AllReady.cons rfl (fun K hK => ?_) ?_
   ·go_simp
    refine (HC.out _).mono ?_
    rintro e x2 ⟨rfl, hb⟩
    obtain ⟨-, -, ⟨r0, r1⟩, r2, r3, r4, r5, HE⟩ := HF.out x2 (HX1.out.trans (hb.mono HX1.out.size))
    clear hb
    refine hK _ _ ?_
    clear hK K
    refine wpAny_ready (rs := [5]) (by kernel_rfl) (by simp) ?_
    refine AllReady.cons rfl (fun K hK => ?_) ?_
    ·go_simp
     refine hK _ _ ?_
     clear hK K
     refine wpAny_done (by kernel_rfl) ?_ _
     go_wp2_with fail
     exact bodyPost_ret (v := .agg #[.int .u64 S0, .int .u64 S1]) (by simp [results, Tryz.results45, go_sem, r4, r5]) rfl ⟨rfl, HE.out⟩
    exact AllReady.nil
   exact AllReady.nil
  exact AllReady.nil
 refine AllReady.cons rfl (fun K hK => ?_) ?_
 ·go_simp
  refine (HP.out _).mono ?_
  rintro e x1 ⟨rfl, hb⟩
  obtain ⟨a0, a1, -⟩ := HF.out x1 hb
  have HX1 := Lib.hid hb
  clear hb
  refine hK _ _ ?_
  clear hK K
  refine tk 3 (v := ?_) rfl ?_ ?_
  rotate_left
  ·intro w; go_simp; with_reducible rfl
  refine wpAny_ready (rs := [0]) (by kernel_rfl) (by simp) ?_
  refine AllReady.cons rfl (fun K hK => ?_) ?_
  ·go_simp
   refine hK _ _ ?_
   clear hK K
   refine wpAny_ready (rs := [4]) (by kernel_rfl) (by simp) ?_
   refine AllReady.cons rfl (fun K hK => ?_) ?_
   ·go_simp
    refine (HC.out _).mono ?_
    rintro e x2 ⟨rfl, hb⟩
    obtain ⟨-, -, ⟨r0, r1⟩, r2, r3, r4, r5, HE⟩ := HF.out x2 (HX1.out.trans (hb.mono HX1.out.size))
    clear hb
    refine hK _ _ ?_
    clear hK K
    refine wpAny_ready (rs := [5]) (by kernel_rfl) (by simp) ?_
    refine AllReady.cons rfl (fun K hK => ?_) ?_
    ·go_simp
     refine hK _ _ ?_
     clear hK K
     refine wpAny_done (by kernel_rfl) ?_ _
     go_wp2_with fail
     exact bodyPost_ret (v := .agg #[.int .u64 S0, .int .u64 S1]) (by simp [results, Tryz.results45, go_sem, r4, r5]) rfl ⟨rfl, HE.out⟩
    exact AllReady.nil
   exact AllReady.nil
  exact AllReady.nil
 exact AllReady.nil
end Go.Proofs.YtpklkhgnjbopnaaGreatDoor
namespace Go.Proofs.YtpklkhgnjbopnaaGreatDoor
open Go Go.RowKit Go.Shelf
theorem und_tens : Tryz.prog.underlying 102 = some (.slice 105) := by kernel_rfl
theorem info_tens : (Tryz.prog.info? 105).map (fun i => (i.zero, i.size, i.bytes)) = some (some (.pointer none), 1, 8) := by kernel_rfl
attribute [-go_sem] Builtin.append_
set_option maxRecDepth 100000 in
set_option maxHeartbeats 4000000 in
theorem collNew_one (A B id bud life : Int) (g c : Nat) (w : World) (hu : U64 id) (hb1 : 0 ≤ bud) (hb2 : bud ≤ 1000000) (h0 : w.heap[g]? = some (.cells #[.int .u64 id, .int .i64 bud, .int .u64 life] 41 (0, 0))) :
  Calls Tryz.prog 13 #[.agg #[.int .u64 A, .int .u64 B], .slice (some ⟨g, 0, none⟩) 1 c] w fun e w' => ∃ b, e = .returned (.tuple #[.pointer (some ⟨b, 0, none⟩), .int .i64 0]) ∧ Below w.heap.size w w' := by
 have HN := Lib.hid fun X Y V => tnNew_ok id bud life X Y V hb1 hb2
 have HK := Lib.hid fun V => Key_any A B id V hu
 obtain ⟨W, hW, hX0, hX1, hB, hs⟩ := boxes2 w #[.int .u64 A, .int .u64 B] 24 #[.int .u64 A, .int .u64 B, .slice none 0 0, .slice none 0 0] 104
 have h0W := known hB (Nat.le_refl _) h0
 obtain ⟨l0, l1, l2⟩ := cl3 h0W
 obtain ⟨k0, k1⟩ := cl2 hX0
 have HX := Lib.hid (And.intro hX0 (And.intro hX1 (And.intro hB hs)))
 clear hX0 hX1 hB hs h0 h0W hu hb1 hb2
 go_enter Tryz.func13, Tryz.ntmps13
 go_wp2_with fail
 go_loopw [24] (fun i wr => (i = .int .i64 0 ∧ wr = W) ∨ (i = .int .i64 1 ∧ Hid (Below w.heap.size w wr))) (fun i _ => 1 - (intOf i).toNat)
 case atStart => exact .inl ⟨rfl, rfl⟩
 case round =>
  rcases hrel with ⟨rfl, rfl⟩ | ⟨rfl, h1⟩
  ·obtain ⟨hX0, hX1, hB, hs⟩ := HX.out
   have HZZ : Hid (w.heap.size + 1 < wr.heap.size) := by rw [Hid]; omega
   obtain ⟨V, hV, hXV, hBV, hsV⟩ := boxes1 wr #[.int .u64 id, .int .i64 bud, .int .u64 life] 41
   have hV1 := known hBV (Nat.le_refl _) hX1
   have v2 : V.cell? ⟨w.heap.size + 1, 2, none⟩ = some (.slice none 0 0) := cCc hV1 2
   obtain ⟨m0, m1, m2⟩ := cl3 hXV
   have HFd := Lib.hid (find_none (w.heap.size + 1) id V v2)
   obtain ⟨D, hD⟩ : ∃ D, V.drew = D := ⟨_, rfl⟩
   have hXD : D.heap[wr.heap.size]? = some (.cells #[.int .u64 id, .int .i64 bud, .int .u64 life] 41 (0, 0)) := by rw [← hD]; exact hXV
   have hXD0 : D.heap[w.heap.size]? = some (.cells #[.int .u64 A, .int .u64 B] 24 (0, 0)) := by rw [← hD]; exact (known hBV (Nat.le_refl _) hX0 : V.heap[w.heap.size]? = _)
   have hXD1 : D.heap[w.heap.size + 1]? = some (.cells #[.int .u64 A, .int .u64 B, .slice none 0 0, .slice none 0 0] 104 (0, 0)) := by rw [← hD]; exact hV1
   have hBD : Below w.heap.size w D := by rw [← hD]; exact (hB.trans (hBV.mono hB.size)).drew
   have HF : Hid (∀ Y, Below D.heap.size D Y → Y.cell? ⟨wr.heap.size, 0, none⟩ = some (.int .u64 id) ∧ Y.cell? ⟨wr.heap.size, 1, none⟩ = some (.int .i64 bud) ∧ Y.cell? ⟨wr.heap.size, 2, none⟩ = some (.int .u64 life) ∧ Y.cell? ⟨w.heap.size, 0, none⟩ = some (.int .u64 A) ∧ Y.cell? ⟨w.heap.size, 1, none⟩ = some (.int .u64 B)) := fun Y hY => by
    have y1 := known hY (Nat.le_refl _) hXD
    have y2 := known hY (Nat.le_refl _) hXD0
    exact ⟨cCc y1 0, cCc y1 1, cCc y1 2, cCc y2 0, cCc y2 1⟩
   have HG : Hid (∀ Y, Below D.heap.size D Y → Y.drew.heap[wr.heap.size]? = some (.cells #[.int .u64 id, .int .i64 bud, .int .u64 life] 41 (0, 0)) ∧ Y.drew.heap[w.heap.size + 1]? = some (.cells #[.int .u64 A, .int .u64 B, .slice none 0 0, .slice none 0 0] 104 (0, 0)) ∧ w.heap.size + 1 < Y.drew.heap.size ∧ Hid (Below w.heap.size w Y.drew ∧ w.heap.size ≤ Y.drew.heap.size)) := fun Y hY => by
    have y1 := known hY (Nat.le_refl _) hXD
    have y2 := known hY (Nat.le_refl _) hXD1
    have hb := (hBD.trans (hY.mono hBD.size)).drew
    exact ⟨y1, y2, (Array.getElem?_eq_some_iff.1 y2).1, hb, hb.size⟩
   obtain ⟨d0, d1, d2, d3, d4⟩ := HF.out D (Below.refl _ _)
   have HD := Lib.hid hD
   clear hX0 hX1 hB hs hXV hBV hsV hV1 hD hXD hXD0 hXD1 hBD v2
   go_wp2_with fail
   refine HFd.out.mono ?_
   rintro e w1 ⟨rfl, hw⟩
   have hw := hw.symm
   subst hw
   go_wp2_with fail
   refine wp_region_held_drew (S := fun w' => w'.cell? ⟨wr.heap.size, 0, none⟩ = some (.int .u64 id) ∧ w'.cell? ⟨wr.heap.size, 1, none⟩ = some (.int .i64 bud) ∧ w'.cell? ⟨wr.heap.size, 2, none⟩ = some (.int .u64 life) ∧ w'.cell? ⟨w.heap.size, 0, none⟩ = some (.int .u64 A) ∧ w'.cell? ⟨w.heap.size, 1, none⟩ = some (.int .u64 B)) (by kernel_rfl) (by rw [HD.out]; exact ⟨d0, d1, d2, d3, d4⟩) (fun hS => ?_)
   rw [HD.out] at hS ⊢
   refine wpAnyH_take (i := 0) (v := ?_) rfl (by kernel_rfl) (by kernel_rfl) (by kernel_rfl) (fun _ _ _ h => h) (Or.inl ⟨by rfl, ?_⟩) (by assumption) ?_
   rotate_left
   ·intro w hSw; go_split_ands; go_simp; with_reducible rfl
   refine wpAnyH_take (i := 1) (v := ?_) rfl (by kernel_rfl) (by kernel_rfl) (by kernel_rfl) (fun _ _ _ h => h) (Or.inl ⟨by rfl, ?_⟩) (by assumption) ?_
   rotate_left
   ·intro w hSw; go_split_ands; go_simp; with_reducible rfl
   refine wpAnyH_take (i := 2) (v := ?_) rfl (by kernel_rfl) (by kernel_rfl) (by kernel_rfl) (fun _ _ _ h => h) (Or.inl ⟨by rfl, ?_⟩) (by assumption) ?_
   rotate_left
   ·intro w hSw; go_simp; with_reducible rfl
   refine wpAnyH_take (i := 3) (v := ?_) rfl (by kernel_rfl) (by kernel_rfl) (by kernel_rfl) (fun _ _ _ h => h) (Or.inl ⟨by rfl, ?_⟩) (by assumption) ?_
   rotate_left
   ·intro w hSw; go_split_ands; go_simp; with_reducible rfl
   refine wpAnyH_ready (rs := [4]) (by kernel_rfl) (by simp) ?_
   refine AllReadyH.cons rfl (fun K hK => ?_) ?_
   ·go_simp
    refine (HK.out _).mono ?_
    rintro e x1 ⟨rfl, hb⟩
    have HX1 := Lib.hid hb
    clear hb
    refine hK.out _ _ ?_ (fun hS => ?_)
    ·exact HF.out _ HX1.out
    clear hK K
    refine wpAnyH_ready (rs := [5]) (by kernel_rfl) (by simp) ?_
    refine AllReadyH.cons rfl (fun K hK => ?_) ?_
    ·go_simp
     refine (HN.out _ _ _).mono ?_
     rintro e x2 ⟨tb, rfl, hb⟩
     have HX2 : Hid (Below D.heap.size D x2) := HX1.out.trans (hb.mono HX1.out.size)
     clear hb
     refine hK.out _ _ ?_ (fun hS => ?_)
     ·exact HF.out _ HX2.out
     clear hK K
     refine wpAnyH_take (i := 6) (v := ?_) rfl (by kernel_rfl) (by kernel_rfl) (by kernel_rfl) (fun _ _ _ h => h) (Or.inl ⟨by rfl, ?_⟩) (by assumption) ?_
     rotate_left
     ·intro w hSw; go_simp; with_reducible rfl
     refine wpAnyH_take (i := 7) (v := ?_) rfl (by kernel_rfl) (by kernel_rfl) (by kernel_rfl) (fun _ _ _ h => h) (Or.inl ⟨by rfl, ?_⟩) (by assumption) ?_
     rotate_left
     ·intro w hSw; go_simp; with_reducible rfl
     refine wpAnyH_take (i := 8) (v := ?_) rfl (by kernel_rfl) (by kernel_rfl) (by kernel_rfl) (fun _ _ _ h => h) (Or.inl ⟨by rfl, ?_⟩) (by assumption) ?_
     rotate_left
     ·intro w hSw; go_simp; with_reducible rfl
     refine wpAnyH_ready (rs := [9]) (by kernel_rfl) (by simp) ?_
     refine AllReadyH.cons rfl (fun K hK => ?_) ?_
     ·go_simp
      refine hK.out _ _ ?_ (fun hS => ?_)
      ·exact hS
      clear hK K
      refine wpAnyH_ready (rs := [10]) (by kernel_rfl) (by simp) ?_
      refine AllReadyH.cons rfl (fun K hK => ?_) ?_
      ·go_simp
       refine hK.out _ _ ?_ (fun hS => ?_)
       ·exact hS
       clear hK K
       refine wpAnyH_done (by kernel_rfl) ?_ _
       clear hS d0 d1 d2 d3 d4
       obtain ⟨y0, y1, y2, HT⟩ := HG.out x2 HX2.out
       obtain ⟨D2, hD2⟩ : ∃ D2, x2.drew = D2 := ⟨_, rfl⟩
       rw [hD2] at y0 y1 y2 HT
       have HD2 := Lib.hid hD2
       clear hD2
       obtain ⟨g4, cap4, w4, hap, -, hB4, hz4, hbl4, -⟩ := append_one Tryz.prog 54 und_u64 info_u64 rfl (by decide) (World.ownsRow_nil D2 D2.heap.size 22 1) (Below.refl w.heap.size D2) (HT.out.2) (Nat.le_refl _) [.int .u64 id] rfl (by simp [Value.oneCell']) (by decide) (by decide)
       simp only [Nat.zero_add] at hap
       have c2 : D2.cell? ⟨w.heap.size + 1, 2, none⟩ = some (.slice none 0 0) := cCc y1 2
       have c2' : (D2.alloc (.cells #[.int .u64 id] 22)).cell? ⟨w.heap.size + 1, 2, none⟩ = some (.slice none 0 0) := cCc ((Below.heap_alloc _ _ _ y2).trans y1) 2
       have i0 : D2.cell? ⟨wr.heap.size, 0, none⟩ = some (.int .u64 id) := cCc y0 0
       have yl := (Array.getElem?_eq_some_iff.1 y0).1
       have j0 : (D2.alloc (.cells #[.int .u64 id] 22)).cell? ⟨wr.heap.size, 0, none⟩ = some (.int .u64 id) := cCc ((Below.heap_alloc _ _ _ yl).trans y0) 0
       have z1 : w4.heap[w.heap.size + 1]? = some (.cells #[.int .u64 A, .int .u64 B, .slice none 0 0, .slice none 0 0] 104 (0, 0)) := (hbl4 _ y2).trans y1
       have z0 := (hbl4 _ yl).trans y0
       have j4 : w4.cell? ⟨wr.heap.size, 0, none⟩ = some (.int .u64 id) := cCc z0 0
       have c4 : w4.cell? ⟨w.heap.size + 1, 2, none⟩ = some (.slice none 0 0) := cCc z1 2
       have f4 : w4.frozen? ⟨w.heap.size + 1, 2, none⟩ = false := cFz z1 2
       obtain ⟨V5, hV5⟩ : ∃ V5, w4.setCell ⟨w.heap.size + 1, 2, none⟩ (.slice (some ⟨g4, 0, none⟩) 1 cap4) = V5 := ⟨_, rfl⟩
       have j5 : (w4.setCell ⟨w.heap.size + 1, 2, none⟩ (.slice (some ⟨g4, 0, none⟩) 1 cap4)).cell? ⟨wr.heap.size, 0, none⟩ = some (.int .u64 id) := cCc ((Below.heap_setCell _ _ _ _ (by have := HZZ.out; show wr.heap.size ≠ w.heap.size + 1; omega)).trans z0) 0
       have z2 : V5.heap[w.heap.size + 1]? = some (.cells #[.int .u64 A, .int .u64 B, .slice (some ⟨g4, 0, none⟩) 1 cap4, .slice none 0 0] 104 (0, 0)) := by rw [← hV5]; exact hSk z1 _
       have hB5 : Below w.heap.size D2 V5 := by rw [← hV5]; exact hB4.setCell (p := ⟨w.heap.size + 1, 2, none⟩) (Nat.le_succ _) _
       have c5 : V5.cell? ⟨w.heap.size + 1, 3, none⟩ = some (.slice none 0 0) := cCc z2 3
       have h5z : w.heap.size + 1 < V5.heap.size := (Array.getElem?_eq_some_iff.1 z2).1
       obtain ⟨g6, cap6, w6, hap6, -, hB6, hz6, hbl6, -⟩ := append_one Tryz.prog 102 und_tens info_tens rfl (by decide) (World.ownsRow_nil V5 V5.heap.size 105 1) (Below.refl w.heap.size V5) (Nat.le_of_lt (Nat.lt_of_succ_lt h5z)) (Nat.le_refl _) [.pointer (some ⟨tb, 0, none⟩)] rfl (by simp [Value.oneCell']) (by decide) (by decide)
       simp only [Nat.zero_add] at hap6
       have z3 : w6.heap[w.heap.size + 1]? = some (.cells #[.int .u64 A, .int .u64 B, .slice (some ⟨g4, 0, none⟩) 1 cap4, .slice none 0 0] 104 (0, 0)) := (hbl6 _ h5z).trans z2
       have c6 : w6.cell? ⟨w.heap.size + 1, 3, none⟩ = some (.slice none 0 0) := cCc z3 3
       have f6 : w6.frozen? ⟨w.heap.size + 1, 3, none⟩ = false := cFz z3 3
       have HE : Hid (Below w.heap.size w (w6.setCell ⟨w.heap.size + 1, 3, none⟩ (.slice (some ⟨g6, 0, none⟩) 1 cap6))) := (HT.out.1.trans (hB5.trans hB6)).setCell (p := ⟨w.heap.size + 1, 3, none⟩) (Nat.le_succ _) _
       have HV5 := Lib.hid hV5
       clear y0 y1 y2 HT hB4 hz4 hbl4 z0 z1 z2 hB5 h5z hB6 hz6 hbl6 z3 hV5 yl
       go_wp2_with fail
       refine wp_region_held_drew (S := fun w' => w'.cell? ⟨wr.heap.size, 0, none⟩ = some (.int .u64 id)) (by kernel_rfl) (by rw [HD2.out]; exact i0) (fun hS => ?_)
       rw [HD2.out] at hS ⊢
       refine wpAnyH_take (i := 0) (v := ?_) rfl (by kernel_rfl) (by kernel_rfl) (by kernel_rfl) (fun _ _ _ h => h) (Or.inl ⟨by rfl, ?_⟩) (by assumption) ?_
       rotate_left
       ·intro w hSw; go_simp; with_reducible rfl
       refine wpAnyH_take (i := 1) (v := ?_) rfl (by kernel_rfl) (by kernel_rfl) (by kernel_rfl) (fun _ _ _ h => h) (Or.inl ⟨by rfl, ?_⟩) (by assumption) ?_
       rotate_left
       ·intro w hSw; go_simp; with_reducible rfl
       refine wpAnyH_take (i := 2) (v := ?_) rfl (by kernel_rfl) (by kernel_rfl) (by kernel_rfl) (fun _ _ _ h => h) (Or.inl ⟨by rfl, ?_⟩) (by assumption) ?_
       rotate_left
       ·intro w hSw; go_simp; with_reducible rfl
       refine wpAnyH_take (i := 3) (v := ?_) rfl (by kernel_rfl) (by kernel_rfl) (by kernel_rfl) (fun _ _ _ h => h) (Or.inl ⟨by rfl, ?_⟩) (by assumption) ?_
       rotate_left
       ·intro w hSw; go_simp; with_reducible rfl
       refine wpAnyH_take (i := 5) (v := ?_) rfl (by kernel_rfl) (by kernel_rfl) (by kernel_rfl) (fun _ _ _ h => h) (Or.inl ⟨by rfl, ?_⟩) (by assumption) ?_
       rotate_left
       ·intro w hSw; go_simp; with_reducible rfl
       refine wpAnyH_take (i := 6) (v := ?_) rfl (by kernel_rfl) (by kernel_rfl) (by kernel_rfl) (fun _ _ _ h => h) (Or.inl ⟨by rfl, ?_⟩) (by assumption) ?_
       rotate_left
       ·intro w hSw; go_split_ands; go_simp; with_reducible rfl
       refine wpAnyH_ready (rs := [4, 7]) (by kernel_rfl) (by simp) ?_
       refine AllReadyH.cons rfl (fun K hK => ?_) ?_
       ·go_simp
        refine hK.out _ _ ?_ (fun hS => ?_)
        ·exact hS
        clear hK K
        refine wpAnyH_ready (rs := [7]) (by kernel_rfl) (by simp) ?_
        refine AllReadyH.cons rfl (fun K hK => ?_) ?_
        ·go_simp
         refine hK.out _ _ ?_ (fun hS => ?_)
         ·exact j0
         clear hK K
         refine wpAnyH_ready (rs := [8]) (by kernel_rfl) (by simp) ?_
         refine AllReadyH.cons rfl (fun K hK => ?_) ?_
         ·go_simp
          refine hK.out _ _ ?_ (fun hS => ?_)
          ·exact j4
          clear hK K
          refine wpAnyH_take (i := 9) (v := ?_) rfl (by kernel_rfl) (by kernel_rfl) (by kernel_rfl) (fun _ _ _ h => h) (Or.inl ⟨by rfl, ?_⟩) (by assumption) ?_
          rotate_left
          ·intro w hSw; go_simp; with_reducible rfl
          refine wpAnyH_take (i := 10) (v := ?_) rfl (by kernel_rfl) (by kernel_rfl) (by kernel_rfl) (fun _ _ _ h => h) (Or.inl ⟨by rfl, ?_⟩) (by assumption) ?_
          rotate_left
          ·intro w hSw; go_simp; with_reducible rfl
          refine wpAnyH_ready (rs := [11]) (by kernel_rfl) (by simp) ?_
          refine AllReadyH.cons rfl (fun K hK => ?_) ?_
          ·go_simp
           refine hK.out _ _ ?_ (fun hS => ?_)
           ·exact j5
           clear hK K
           refine wpAnyH_done (by kernel_rfl) ?_ _
           rw [HV5.out]
           go_wp2_with (at_builtin; refine wp_append_eq rfl _ _ _ rfl rfl rfl hap6 ?_)
           refine ⟨.inr ⟨rfl, HE.out⟩, by simp [intOf]⟩
          exact AllReadyH.nil
         exact AllReadyH.nil
        exact AllReadyH.nil
       refine AllReadyH.cons rfl (fun K hK => ?_) ?_
       ·go_simp
        refine hK.out _ _ ?_ (fun hS => ?_)
        ·exact j0
        clear hK K
        refine wpAnyH_ready (rs := [4]) (by kernel_rfl) (by simp) ?_
        refine AllReadyH.cons rfl (fun K hK => ?_) ?_
        ·go_simp
         refine hK.out _ _ ?_ (fun hS => ?_)
         ·exact hS
         clear hK K
         refine wpAnyH_ready (rs := [8]) (by kernel_rfl) (by simp) ?_
         refine AllReadyH.cons rfl (fun K hK => ?_) ?_
         ·go_simp
          refine hK.out _ _ ?_ (fun hS => ?_)
          ·exact j4
          clear hK K
          refine wpAnyH_take (i := 9) (v := ?_) rfl (by kernel_rfl) (by kernel_rfl) (by kernel_rfl) (fun _ _ _ h => h) (Or.inl ⟨by rfl, ?_⟩) (by assumption) ?_
          rotate_left
          ·intro w hSw; go_simp; with_reducible rfl
          refine wpAnyH_take (i := 10) (v := ?_) rfl (by kernel_rfl) (by kernel_rfl) (by kernel_rfl) (fun _ _ _ h => h) (Or.inl ⟨by rfl, ?_⟩) (by assumption) ?_
          rotate_left
          ·intro w hSw; go_simp; with_reducible rfl
          refine wpAnyH_ready (rs := [11]) (by kernel_rfl) (by simp) ?_
          refine AllReadyH.cons rfl (fun K hK => ?_) ?_
          ·go_simp
           refine hK.out _ _ ?_ (fun hS => ?_)
           ·exact j5
           clear hK K
           refine wpAnyH_done (by kernel_rfl) ?_ _
           rw [HV5.out]
           go_wp2_with (at_builtin; refine wp_append_eq rfl _ _ _ rfl rfl rfl hap6 ?_)
           refine ⟨.inr ⟨rfl, HE.out⟩, by simp [intOf]⟩
          exact AllReadyH.nil
         exact AllReadyH.nil
        exact AllReadyH.nil
       exact AllReadyH.nil
      exact AllReadyH.nil
     exact AllReadyH.nil
    exact AllReadyH.nil
   exact AllReadyH.nil
  ·go_wp2_with fail
   go_ret2
   exact ⟨_, rfl, h1.out⟩
end Go.Proofs.YtpklkhgnjbopnaaGreatDoor

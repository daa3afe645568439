/- aviarylaw11.CodeBack answers true: printed by wip/tools/gen_law11.py. -/
import Derived.Test.YtjpnbkdhmjgdgaaDoorYL
namespace Go.Proofs.YtjpnbkdhmjgdgaaDoor
open Go Go.RowKit Go.Shelf

/-- A sketch in a variable of the frame. -/
structure InV (B : Nat) (x : Sk) (s : SS) (W : World) : Prop where
  b : W.heap[B]? = some (.cells #[.int .i64 x.kind, .int .i64 x.level, .slice s.ea s.el s.ec, .int .i64 x.hb, .string x.hr, .int .i64 x.cr, .int .i64 x.cc, .slice s.ca s.cl s.cc, .int .i64 x.gf, .slice s.ga s.gl s.gc] 33 (0, 0))
  a : s.At W.heap.size W x
theorem InV.go {B : Nat} {W W' : World} {x : Sk} {s : SS} (h : InV B x s W) (hb : Below W.heap.size W W') : InV B x s W' := ⟨known hb (Nat.le_refl _) h.b, h.a.go hb⟩
theorem cut11_any (s : ByteArray) (w : World) :
    Calls Tryd.prog 10 #[.string s] w fun e w' => e = .returned (.string (cutN 2000 s)) ∧ w' = w := by
  have m1 : 0 ≤ min (s.size : Int) 2000 := by omega
  have m2 : min (s.size : Int) 2000 ≤ s.size := by omega
  have HC : Hid (cutN 2000 s = s.extract 0 (min (s.size : Int) 2000).toNat) := rfl
  go_enter Tryd.func10, Tryd.ntmps10
  go_wp2_with fail
  go_ret
  exact ⟨congrArg Ending.returned (congrArg Value.string HC.out.symm), rfl⟩
theorem bytes_ext {a b : ByteArray} (h : a.data.toList = b.data.toList) : a = b := by
  cases a with | mk x => cases b with | mk y =>
  have h2 : x.toList = y.toList := h
  rw [Array.toList_inj.1 h2]
theorem bytes_eq2 {a b : ByteArray} : (a.toList == b.toList) = true ↔ a.data.toList = b.data.toList := by
  rw [beq_iff_eq, Lib.toList_data, Lib.toList_data]
theorem of_list (a : ByteArray) : (⟨a.data.toList.toArray⟩ : ByteArray) = a := bytes_ext (by simp)
theorem same_refl (x : Sk) : skSame x x = true := by simp [skSame]
theorem zero_fine : Fine (skNum 0 0 []) := ⟨⟨(fun _ h => by cases h), (fun _ h => by cases h), (fun _ h => by cases h)⟩, ⟨by decide, by decide, by decide, by decide⟩, (fun _ h => by cases h)⟩
theorem zero_bad : skOk (skNum 0 0 []) = false := by kernel_rfl
theorem zero_enc {wb : World} (h : Calls Tryd.prog 8 #[.agg #[.int .i64 (skNum 0 0 []).kind, .int .i64 (skNum 0 0 []).level, .slice noSS.ea noSS.el noSS.ec, .int .i64 (skNum 0 0 []).hb, .string (skNum 0 0 []).hr, .int .i64 (skNum 0 0 []).cr, .int .i64 (skNum 0 0 []).cc, .slice noSS.ca noSS.cl noSS.cc, .int .i64 (skNum 0 0 []).gf, .slice noSS.ga noSS.gl noSS.gc]] wb fun e w' => e = .returned (.tuple #[.string (encS (skNum 0 0 [])), .int .i64 (encE (skNum 0 0 []))]) ∧ Below wb.heap.size wb w') :
    Calls Tryd.prog 8 #[.agg #[.int .i64 0, .int .i64 0, .slice none 0 0, .int .i64 0, .string ⟨#[]⟩, .int .i64 0, .int .i64 0, .slice none 0 0, .int .i64 0, .slice none 0 0]] wb fun e w' => e = .returned (.tuple #[.string ⟨#[]⟩, .int .i64 100]) ∧ Below wb.heap.size wb w' := by
  rw [encS, encE, zero_bad] at h
  exact h
theorem fine_of {c : Sk} (h1 : c.num) (h2 : c.few) : Fine c := ⟨h1, h2, fun b hb => (h1.g b hb).1.2⟩
theorem enc_len (x : Sk) (h : x.few) : (encBytes x).length ≤ 30000 := by
  have h1 := h.e
  have h2 := h.c
  have h3 := h.g
  have h4 := h.r
  have h0 := (numsB_len [x.kind, x.level]).2
  have e1 := (numsB_len ((x.e.length : Int) :: diffs 0 x.e)).2
  have e2 := (numsB_len x.cl).2
  have e3 := (numsB_len ((x.gl.length : Int) :: diffsB 0 x.gl)).2
  have e4 : x.hr.data.toList.length = x.hr.size := Array.length_toList
  simp only [List.length_cons, List.length_nil, diffs_len, diffsB_len] at h0 e1 e3
  unfold encBytes
  rw [List.length_append]
  repeat' split
  all_goals omega
theorem app_list (a b : ByteArray) : (a ++ b).data.toList = a.data.toList ++ b.data.toList := by
  rw [ByteArray.data_append, Array.toList_append]
theorem enc_list (x : Sk) (h : skOk x = true) : (encS x).data.toList = encBytes x := by rw [encS, if_pos h]
set_option maxRecDepth 100000 in
set_option maxHeartbeats 4000000 in
theorem back_any (x : Sk) (s : SS) (q0 : ByteArray) (fm ff cm cc : Addr) (w : World) (hx : s.At w.heap.size w x) (hax : x.arg) (hE : GE fm ff cm cc w) :
    Calls Tryd.prog 3 #[.agg #[.int .i64 x.kind, .int .i64 x.level, .slice s.ea s.el s.ec, .int .i64 x.hb, .string x.hr, .int .i64 x.cr, .int .i64 x.cc, .slice s.ca s.cl s.cc, .int .i64 x.gf, .slice s.ga s.gl s.gc], .string q0] w fun e w' => e = .returned (.bool true) ∧ Below w.heap.size w w' := by
  obtain ⟨W0, hW0, hX0, hB0, hs0⟩ := boxes1 w #[.int .i64 x.kind, .int .i64 x.level, .slice s.ea s.el s.ec, .int .i64 x.hb, .string x.hr, .int .i64 x.cr, .int .i64 x.cc, .slice s.ca s.cl s.cc, .int .i64 x.gf, .slice s.ga s.gl s.gc] 33
  have HS := Lib.hid (shown11_any fm ff cm cc W0 (hE.below hB0))
  have HGE : Hid (∀ W, Below w.heap.size w W → GE fm ff cm cc W) := fun W h => hE.below h
  have HI0 : Hid (InV w.heap.size x s W0) := ⟨hX0, hx.go hB0⟩
  have HF0 : Hid (∀ W, InV w.heap.size x s W → Calls Tryd.prog 7 #[.agg #[.int .i64 x.kind, .int .i64 x.level, .slice s.ea s.el s.ec, .int .i64 x.hb, .string x.hr, .int .i64 x.cr, .int .i64 x.cc, .slice s.ca s.cl s.cc, .int .i64 x.gf, .slice s.ga s.gl s.gc]] W fun e w' => ∃ v, e = .returned v ∧ v = skVal x.cut s.cut ∧ Below W.heap.size W w') := fun W h => (few10_any x s W h.a).mono fun e w' h => ⟨_, h.1, rfl, h.2⟩
  have HC0 : Hid (∀ W, InV w.heap.size x s W → s.cut.At W.heap.size W x.cut) := fun W h => h.a.cut
  have HST : Hid (∀ W (y : Sk) (u : SS), InV w.heap.size x s W → u.At W.heap.size W y → Below w.heap.size w W → InV w.heap.size y u (store10 W w.heap.size y u) ∧ Below w.heap.size w (store10 W w.heap.size y u)) := fun W y u h h2 h3 => by
    obtain ⟨h4, h5, h6, h7⟩ := stored h.b h2 h3 (Nat.le_refl _)
    exact ⟨⟨h4, h5⟩, h6⟩
  have hfx := hax.cut
  generalize x.cut = x2 at hfx HF0 HC0
  generalize s.cut = s2 at HF0 HC0
  have HEn : Hid (∀ (B : Nat) (y : Sk) (u : SS) W, Fine y → InV B y u W → Calls Tryd.prog 8 #[.agg #[.int .i64 y.kind, .int .i64 y.level, .slice u.ea u.el u.ec, .int .i64 y.hb, .string y.hr, .int .i64 y.cr, .int .i64 y.cc, .slice u.ca u.cl u.cc, .int .i64 y.gf, .slice u.ga u.gl u.gc]] W fun e w' => e = .returned (.tuple #[.string (encS y), .int .i64 (encE y)]) ∧ Below W.heap.size W w') := fun B y u W hf h => Encode_any y u W h.a (hf.short h.a) hf.fit hf.num hf.few
  have HRt : Hid (∀ (B : Nat) (y : Sk) (u : SS) W, Fine y → InV B y u W → Calls Tryd.prog 12 #[.agg #[.int .i64 y.kind, .int .i64 y.level, .slice u.ea u.el u.ec, .int .i64 y.hb, .string y.hr, .int .i64 y.cr, .int .i64 y.cc, .slice u.ca u.cl u.cc, .int .i64 y.gf, .slice u.ga u.gl u.gc]] W fun e w' => e = .returned (.bool (skOk y)) ∧ Below W.heap.size W w') := fun B y u W hf h => ladder_Right_any y u W h.a (hf.short h.a) hf.fit
  have HCt : Hid (∀ W, Calls Tryd.prog 10 #[.string q0] W fun e w' => e = .returned (.string (cutN 2000 q0)) ∧ w' = W) := fun W => cut11_any q0 W
  have hqz : (cutN 2000 q0).size ≤ 2000 := by have := cutN_size 2000 q0; show (cutN ((2000 : Nat) : Int) q0).size ≤ 2000; omega
  generalize cutN 2000 q0 = q at HCt hqz
  have HFx := Lib.hid hfx
  clear hx hax hE hX0 hfx hs0
  cases hok : skOk x2 with
  | true =>
    have HOK := Lib.hid hok
    obtain ⟨a, ha⟩ : ∃ a, encS x2 = a := ⟨_, rfl⟩
    have hal : a.data.toList = encBytes x2 := by rw [← ha]; exact enc_list x2 hok
    have haz : a.size ≤ 30000 := by
      have h1 := enc_len x2 HFx.out.few
      have h2 : a.data.toList.length = a.size := Array.length_toList
      rw [hal] at h2
      omega
    have HFZ : Hid ((a ++ q).size < 4294967281) := by rw [Hid, ByteArray.size_append]; omega
    have HD1 : Hid (decB (a ++ q).data.toList = .got x2 q.data.toList) := by rw [Hid, app_list, hal]; exact dec_enc x2 hok HFx.out.num HFx.out.few.g _
    have he : encE x2 = 0 := by rw [encE, hok]; rfl
    clear hok
    go_enter Tryd.func3, Tryd.ntmps3
    go_wp2_with fail
    refine HS.out.mono ?_
    rintro e w1 ⟨rfl, hb1⟩
    have HI1 := Lib.hid (HI0.out.go hb1)
    have hB1 := hB0.trans (hb1.mono hB0.size)
    have c0 : w1.cell? ⟨w.heap.size, 0, none⟩ = some (.int .i64 x.kind) := cell_of_cells HI1.out.b 0
    have c1 : w1.cell? ⟨w.heap.size, 1, none⟩ = some (.int .i64 x.level) := cell_of_cells HI1.out.b 1
    have c2 : w1.cell? ⟨w.heap.size, 2, none⟩ = some (.slice s.ea s.el s.ec) := cell_of_cells HI1.out.b 2
    have c3 : w1.cell? ⟨w.heap.size, 3, none⟩ = some (.int .i64 x.hb) := cell_of_cells HI1.out.b 3
    have c4 : w1.cell? ⟨w.heap.size, 4, none⟩ = some (.string x.hr) := cell_of_cells HI1.out.b 4
    have c5 : w1.cell? ⟨w.heap.size, 5, none⟩ = some (.int .i64 x.cr) := cell_of_cells HI1.out.b 5
    have c6 : w1.cell? ⟨w.heap.size, 6, none⟩ = some (.int .i64 x.cc) := cell_of_cells HI1.out.b 6
    have c7 : w1.cell? ⟨w.heap.size, 7, none⟩ = some (.slice s.ca s.cl s.cc) := cell_of_cells HI1.out.b 7
    have c8 : w1.cell? ⟨w.heap.size, 8, none⟩ = some (.int .i64 x.gf) := cell_of_cells HI1.out.b 8
    have c9 : w1.cell? ⟨w.heap.size, 9, none⟩ = some (.slice s.ga s.gl s.gc) := cell_of_cells HI1.out.b 9
    go_wp2_with fail
    refine (HF0.out w1 HI1.out).mono ?_
    rintro e w2 ⟨v, rfl, rfl, hb2⟩
    have HI2 := Lib.hid (HI1.out.go hb2)
    have hB2 := hB1.trans (hb2.mono hB1.size)
    unfold skVal
    clear c0 c1 c2 c3 c4 c5 c6 c7 c8 c9
    have d0 : w2.cell? ⟨w.heap.size, 0, none⟩ = some (.int .i64 x.kind) := cell_of_cells HI2.out.b 0
    have d1 : w2.cell? ⟨w.heap.size, 1, none⟩ = some (.int .i64 x.level) := cell_of_cells HI2.out.b 1
    have d2 : w2.cell? ⟨w.heap.size, 2, none⟩ = some (.slice s.ea s.el s.ec) := cell_of_cells HI2.out.b 2
    have d3 : w2.cell? ⟨w.heap.size, 3, none⟩ = some (.int .i64 x.hb) := cell_of_cells HI2.out.b 3
    have d4 : w2.cell? ⟨w.heap.size, 4, none⟩ = some (.string x.hr) := cell_of_cells HI2.out.b 4
    have d5 : w2.cell? ⟨w.heap.size, 5, none⟩ = some (.int .i64 x.cr) := cell_of_cells HI2.out.b 5
    have d6 : w2.cell? ⟨w.heap.size, 6, none⟩ = some (.int .i64 x.cc) := cell_of_cells HI2.out.b 6
    have d7 : w2.cell? ⟨w.heap.size, 7, none⟩ = some (.slice s.ca s.cl s.cc) := cell_of_cells HI2.out.b 7
    have d8 : w2.cell? ⟨w.heap.size, 8, none⟩ = some (.int .i64 x.gf) := cell_of_cells HI2.out.b 8
    have d9 : w2.cell? ⟨w.heap.size, 9, none⟩ = some (.slice s.ga s.gl s.gc) := cell_of_cells HI2.out.b 9
    have f0 : w2.frozen? ⟨w.heap.size, 0, none⟩ = false := frozen_of_cells HI2.out.b 0
    have f1 : w2.frozen? ⟨w.heap.size, 1, none⟩ = false := frozen_of_cells HI2.out.b 1
    have f2 : w2.frozen? ⟨w.heap.size, 2, none⟩ = false := frozen_of_cells HI2.out.b 2
    have f3 : w2.frozen? ⟨w.heap.size, 3, none⟩ = false := frozen_of_cells HI2.out.b 3
    have f4 : w2.frozen? ⟨w.heap.size, 4, none⟩ = false := frozen_of_cells HI2.out.b 4
    have f5 : w2.frozen? ⟨w.heap.size, 5, none⟩ = false := frozen_of_cells HI2.out.b 5
    have f6 : w2.frozen? ⟨w.heap.size, 6, none⟩ = false := frozen_of_cells HI2.out.b 6
    have f7 : w2.frozen? ⟨w.heap.size, 7, none⟩ = false := frozen_of_cells HI2.out.b 7
    have f8 : w2.frozen? ⟨w.heap.size, 8, none⟩ = false := frozen_of_cells HI2.out.b 8
    have f9 : w2.frozen? ⟨w.heap.size, 9, none⟩ = false := frozen_of_cells HI2.out.b 9
    obtain ⟨V, hV⟩ : ∃ V, store10 w2 (w.heap.size) x2 s2 = V := ⟨_, rfl⟩
    have HVB : Hid (InV w.heap.size x2 s2 V ∧ Below w.heap.size w V) := by rw [← hV]; exact HST.out w2 x2 s2 HI2.out (HC0.out w2 HI2.out) hB2
    have HI3 := Lib.hid HVB.out.1
    have hB3 := HVB.out.2
    unfold store10 at hV
    have g0 : V.cell? ⟨w.heap.size, 0, none⟩ = some (.int .i64 x2.kind) := cell_of_cells HI3.out.b 0
    have g1 : V.cell? ⟨w.heap.size, 1, none⟩ = some (.int .i64 x2.level) := cell_of_cells HI3.out.b 1
    have g2 : V.cell? ⟨w.heap.size, 2, none⟩ = some (.slice s2.ea s2.el s2.ec) := cell_of_cells HI3.out.b 2
    have g3 : V.cell? ⟨w.heap.size, 3, none⟩ = some (.int .i64 x2.hb) := cell_of_cells HI3.out.b 3
    have g4 : V.cell? ⟨w.heap.size, 4, none⟩ = some (.string x2.hr) := cell_of_cells HI3.out.b 4
    have g5 : V.cell? ⟨w.heap.size, 5, none⟩ = some (.int .i64 x2.cr) := cell_of_cells HI3.out.b 5
    have g6 : V.cell? ⟨w.heap.size, 6, none⟩ = some (.int .i64 x2.cc) := cell_of_cells HI3.out.b 6
    have g7 : V.cell? ⟨w.heap.size, 7, none⟩ = some (.slice s2.ca s2.cl s2.cc) := cell_of_cells HI3.out.b 7
    have g8 : V.cell? ⟨w.heap.size, 8, none⟩ = some (.int .i64 x2.gf) := cell_of_cells HI3.out.b 8
    have g9 : V.cell? ⟨w.heap.size, 9, none⟩ = some (.slice s2.ga s2.gl s2.gc) := cell_of_cells HI3.out.b 9
    go_wp2_with fail
    refine (HEn.out _ _ _ V HFx.out HI3.out).mono ?_
    rw [ha, he]
    clear ha he hal
    rintro e w4 ⟨rfl, hb4⟩
    have HI4 := Lib.hid (HI3.out.go hb4)
    have hB4 := hB3.trans (hb4.mono hB3.size)
    clear hV hB2 hB1 HST HF0 HC0 d0 d1 d2 d3 d4 d5 d6 d7 d8 d9 f0 f1 f2 f3 f4 f5 f6 f7 f8 f9 g0 g1 g2 g3 g4 g5 g6 g7 g8 g9
    go_wp2_with fail
    refine (HCt.out w4).mono ?_
    rintro e w5 ⟨rfl, h9⟩
    obtain rfl : w4 = w5 := h9.symm
    go_wp2_with fail
    refine (Decode_got (a ++ q) x2 q.data.toList fm ff cm cc w4 HFZ.out (HGE.out w4 hB4) HD1.out).mono ?_
    rintro e w6 ⟨p, rfl, hA6, hb6⟩
    rw [of_list]
    unfold skVal
    have HI6 := Lib.hid (HI4.out.go hb6)
    have hB6 := hB4.trans (hb6.mono hB4.size)
    obtain ⟨w7, hw7, hX7, hb7, hs7⟩ := boxes1 w6 #[.int .i64 x2.kind, .int .i64 x2.level, .slice p.ea p.el p.ec, .int .i64 x2.hb, .string x2.hr, .int .i64 x2.cr, .int .i64 x2.cc, .slice p.ca p.cl p.cc, .int .i64 x2.gf, .slice p.ga p.gl p.gc] 33
    have HI7 := Lib.hid (HI6.out.go hb7)
    have HJ7 : Hid (InV w6.heap.size x2 p w7) := ⟨hX7, hA6.go hb7⟩
    have hB7 := hB6.trans (hb7.mono hB6.size)
    have c0 : w7.cell? ⟨w.heap.size, 0, none⟩ = some (.int .i64 x2.kind) := cell_of_cells HI7.out.b 0
    have c1 : w7.cell? ⟨w.heap.size, 1, none⟩ = some (.int .i64 x2.level) := cell_of_cells HI7.out.b 1
    have c2 : w7.cell? ⟨w.heap.size, 2, none⟩ = some (.slice s2.ea s2.el s2.ec) := cell_of_cells HI7.out.b 2
    have c3 : w7.cell? ⟨w.heap.size, 3, none⟩ = some (.int .i64 x2.hb) := cell_of_cells HI7.out.b 3
    have c4 : w7.cell? ⟨w.heap.size, 4, none⟩ = some (.string x2.hr) := cell_of_cells HI7.out.b 4
    have c5 : w7.cell? ⟨w.heap.size, 5, none⟩ = some (.int .i64 x2.cr) := cell_of_cells HI7.out.b 5
    have c6 : w7.cell? ⟨w.heap.size, 6, none⟩ = some (.int .i64 x2.cc) := cell_of_cells HI7.out.b 6
    have c7 : w7.cell? ⟨w.heap.size, 7, none⟩ = some (.slice s2.ca s2.cl s2.cc) := cell_of_cells HI7.out.b 7
    have c8 : w7.cell? ⟨w.heap.size, 8, none⟩ = some (.int .i64 x2.gf) := cell_of_cells HI7.out.b 8
    have c9 : w7.cell? ⟨w.heap.size, 9, none⟩ = some (.slice s2.ga s2.gl s2.gc) := cell_of_cells HI7.out.b 9
    have d0 : w7.cell? ⟨w6.heap.size, 0, none⟩ = some (.int .i64 x2.kind) := cell_of_cells HJ7.out.b 0
    have d1 : w7.cell? ⟨w6.heap.size, 1, none⟩ = some (.int .i64 x2.level) := cell_of_cells HJ7.out.b 1
    have d2 : w7.cell? ⟨w6.heap.size, 2, none⟩ = some (.slice p.ea p.el p.ec) := cell_of_cells HJ7.out.b 2
    have d3 : w7.cell? ⟨w6.heap.size, 3, none⟩ = some (.int .i64 x2.hb) := cell_of_cells HJ7.out.b 3
    have d4 : w7.cell? ⟨w6.heap.size, 4, none⟩ = some (.string x2.hr) := cell_of_cells HJ7.out.b 4
    have d5 : w7.cell? ⟨w6.heap.size, 5, none⟩ = some (.int .i64 x2.cr) := cell_of_cells HJ7.out.b 5
    have d6 : w7.cell? ⟨w6.heap.size, 6, none⟩ = some (.int .i64 x2.cc) := cell_of_cells HJ7.out.b 6
    have d7 : w7.cell? ⟨w6.heap.size, 7, none⟩ = some (.slice p.ca p.cl p.cc) := cell_of_cells HJ7.out.b 7
    have d8 : w7.cell? ⟨w6.heap.size, 8, none⟩ = some (.int .i64 x2.gf) := cell_of_cells HJ7.out.b 8
    have d9 : w7.cell? ⟨w6.heap.size, 9, none⟩ = some (.slice p.ga p.gl p.gc) := cell_of_cells HJ7.out.b 9
    have HSm := Lib.hid (ladder_Same_any x2 x2 p s2 w7 HJ7.out.a HI7.out.a)
    rw [same_refl] at HSm
    clear hX7 hA6 hs7
    go_wp2_with fail
    refine HSm.out.mono ?_
    rintro e w8 ⟨rfl, hb8⟩
    have HI8 := Lib.hid (HI7.out.go hb8)
    have hB8 := hB7.trans (hb8.mono hB7.size)
    clear hw7 HSm c0 c1 c2 c3 c4 c5 c6 c7 c8 c9 d0 d1 d2 d3 d4 d5 d6 d7 d8 d9
    go_wp2_with fail
    refine (HCt.out w8).mono ?_
    rintro e w9 ⟨rfl, h9⟩
    obtain rfl : w8 = w9 := h9.symm
    have hqq : (q.toList == q.toList) = true := by simp
    go_wp2_with fail
    clear hqq
    cases hd : decB q.data.toList with
    | got c r =>
      have HD2 : Hid (decB q.data.toList = .got c r) := hd
      obtain ⟨o1, o2, o3, o4⟩ := decB_inv hd
      have HFc := Lib.hid (fine_of o2 o3)
      have HOKc := Lib.hid o1
      obtain ⟨d, hdc⟩ : ∃ d, encS c = d := ⟨_, rfl⟩
      have HDc := Lib.hid hdc
      have HEc : Hid (encE c = 0) := by rw [Hid, encE, o1]; rfl
      have hdl : d.data.toList = encBytes c := by rw [← hdc]; exact enc_list c o1
      have hdz : d.size ≤ 30000 := by have h1 := enc_len c o3; have h2 : d.data.toList.length = d.size := Array.length_toList; rw [hdl] at h2; omega
      have hrz : (⟨r.toArray⟩ : ByteArray).size ≤ 2000 := by have h1 := congrArg List.length o4; have h2 : q.data.toList.length = q.size := Array.length_toList; rw [List.length_append] at h1; rw [size_list]; omega
      have hdq : ((d ++ ⟨r.toArray⟩).toList == q.toList) = true := by rw [bytes_eq2, app_list, hdl]; exact o4.symm
      clear hd hdc o1 o2 o3 o4 hdl
      refine (HCt.out w8).mono ?_
      rintro e wz ⟨rfl, h9⟩
      obtain rfl : w8 = wz := h9.symm
      go_wp2_with fail
      refine (Decode_got q c r fm ff cm cc w8 (by omega) (HGE.out w8 hB8) HD2.out).mono ?_
      rintro e wa ⟨p2, rfl, hAa, hba⟩
      unfold skVal
      have HIa := Lib.hid (HI8.out.go hba)
      have hBa := hB8.trans (hba.mono hB8.size)
      obtain ⟨wb, hwb, hXb, hbb, hsb⟩ := boxes1 wa #[.int .i64 c.kind, .int .i64 c.level, .slice p2.ea p2.el p2.ec, .int .i64 c.hb, .string c.hr, .int .i64 c.cr, .int .i64 c.cc, .slice p2.ca p2.cl p2.cc, .int .i64 c.gf, .slice p2.ga p2.gl p2.gc] 33
      have HIb := Lib.hid (HIa.out.go hbb)
      have HJb : Hid (InV wa.heap.size c p2 wb) := ⟨hXb, hAa.go hbb⟩
      have hBb := hBa.trans (hbb.mono hBa.size)
      have c0 : wb.cell? ⟨wa.heap.size, 0, none⟩ = some (.int .i64 c.kind) := cell_of_cells HJb.out.b 0
      have c1 : wb.cell? ⟨wa.heap.size, 1, none⟩ = some (.int .i64 c.level) := cell_of_cells HJb.out.b 1
      have c2 : wb.cell? ⟨wa.heap.size, 2, none⟩ = some (.slice p2.ea p2.el p2.ec) := cell_of_cells HJb.out.b 2
      have c3 : wb.cell? ⟨wa.heap.size, 3, none⟩ = some (.int .i64 c.hb) := cell_of_cells HJb.out.b 3
      have c4 : wb.cell? ⟨wa.heap.size, 4, none⟩ = some (.string c.hr) := cell_of_cells HJb.out.b 4
      have c5 : wb.cell? ⟨wa.heap.size, 5, none⟩ = some (.int .i64 c.cr) := cell_of_cells HJb.out.b 5
      have c6 : wb.cell? ⟨wa.heap.size, 6, none⟩ = some (.int .i64 c.cc) := cell_of_cells HJb.out.b 6
      have c7 : wb.cell? ⟨wa.heap.size, 7, none⟩ = some (.slice p2.ca p2.cl p2.cc) := cell_of_cells HJb.out.b 7
      have c8 : wb.cell? ⟨wa.heap.size, 8, none⟩ = some (.int .i64 c.gf) := cell_of_cells HJb.out.b 8
      have c9 : wb.cell? ⟨wa.heap.size, 9, none⟩ = some (.slice p2.ga p2.gl p2.gc) := cell_of_cells HJb.out.b 9
      clear hXb hAa hsb
      go_wp2_with fail
      refine (HEn.out _ _ _ wb HFc.out HJb.out).mono ?_
      rw [HDc.out, HEc.out]
      rintro e wc ⟨rfl, hbc⟩
      have HIc := Lib.hid (HIb.out.go hbc)
      have HJc := Lib.hid (HJb.out.go hbc)
      have hBc := hBb.trans (hbc.mono hBb.size)
      clear hwb c0 c1 c2 c3 c4 c5 c6 c7 c8 c9
      have c0 : wc.cell? ⟨w.heap.size, 0, none⟩ = some (.int .i64 x2.kind) := cell_of_cells HIc.out.b 0
      have c1 : wc.cell? ⟨w.heap.size, 1, none⟩ = some (.int .i64 x2.level) := cell_of_cells HIc.out.b 1
      have c2 : wc.cell? ⟨w.heap.size, 2, none⟩ = some (.slice s2.ea s2.el s2.ec) := cell_of_cells HIc.out.b 2
      have c3 : wc.cell? ⟨w.heap.size, 3, none⟩ = some (.int .i64 x2.hb) := cell_of_cells HIc.out.b 3
      have c4 : wc.cell? ⟨w.heap.size, 4, none⟩ = some (.string x2.hr) := cell_of_cells HIc.out.b 4
      have c5 : wc.cell? ⟨w.heap.size, 5, none⟩ = some (.int .i64 x2.cr) := cell_of_cells HIc.out.b 5
      have c6 : wc.cell? ⟨w.heap.size, 6, none⟩ = some (.int .i64 x2.cc) := cell_of_cells HIc.out.b 6
      have c7 : wc.cell? ⟨w.heap.size, 7, none⟩ = some (.slice s2.ca s2.cl s2.cc) := cell_of_cells HIc.out.b 7
      have c8 : wc.cell? ⟨w.heap.size, 8, none⟩ = some (.int .i64 x2.gf) := cell_of_cells HIc.out.b 8
      have c9 : wc.cell? ⟨w.heap.size, 9, none⟩ = some (.slice s2.ga s2.gl s2.gc) := cell_of_cells HIc.out.b 9
      go_wp2_with fail
      refine (HRt.out _ _ _ wc HFx.out HIc.out).mono ?_
      rw [HOK.out]
      rintro e wd ⟨rfl, hbd⟩
      have HJd := Lib.hid (HJc.out.go hbd)
      have hBd := hBc.trans (hbd.mono hBc.size)
      clear c0 c1 c2 c3 c4 c5 c6 c7 c8 c9
      have c0 : wd.cell? ⟨wa.heap.size, 0, none⟩ = some (.int .i64 c.kind) := cell_of_cells HJd.out.b 0
      have c1 : wd.cell? ⟨wa.heap.size, 1, none⟩ = some (.int .i64 c.level) := cell_of_cells HJd.out.b 1
      have c2 : wd.cell? ⟨wa.heap.size, 2, none⟩ = some (.slice p2.ea p2.el p2.ec) := cell_of_cells HJd.out.b 2
      have c3 : wd.cell? ⟨wa.heap.size, 3, none⟩ = some (.int .i64 c.hb) := cell_of_cells HJd.out.b 3
      have c4 : wd.cell? ⟨wa.heap.size, 4, none⟩ = some (.string c.hr) := cell_of_cells HJd.out.b 4
      have c5 : wd.cell? ⟨wa.heap.size, 5, none⟩ = some (.int .i64 c.cr) := cell_of_cells HJd.out.b 5
      have c6 : wd.cell? ⟨wa.heap.size, 6, none⟩ = some (.int .i64 c.cc) := cell_of_cells HJd.out.b 6
      have c7 : wd.cell? ⟨wa.heap.size, 7, none⟩ = some (.slice p2.ca p2.cl p2.cc) := cell_of_cells HJd.out.b 7
      have c8 : wd.cell? ⟨wa.heap.size, 8, none⟩ = some (.int .i64 c.gf) := cell_of_cells HJd.out.b 8
      have c9 : wd.cell? ⟨wa.heap.size, 9, none⟩ = some (.slice p2.ga p2.gl p2.gc) := cell_of_cells HJd.out.b 9
      go_wp2_with fail
      refine (HCt.out wd).mono ?_
      rintro e wz ⟨rfl, h9⟩
      obtain rfl : wd = wz := h9.symm
      go_wp2_with fail
      refine (HRt.out _ _ _ wd HFc.out HJd.out).mono ?_
      rw [HOKc.out]
      rintro e we ⟨rfl, hbe⟩
      go_wp2_with fail
      go_ret
      exact ⟨rfl, hBd.trans (hbe.mono hBd.size)⟩
    | more =>
      have HDz : Hid (∀ W, Below w.heap.size w W → Calls Tryd.prog 9 #[.string q] W fun e w' => e = .returned (.tuple #[.agg #[.int .i64 0, .int .i64 0, .slice none 0 0, .int .i64 0, .string ⟨#[]⟩, .int .i64 0, .int .i64 0, .slice none 0 0, .int .i64 0, .slice none 0 0], .string q, .int .i64 20]) ∧ Below W.heap.size W w') := fun W h => Decode_more q fm ff cm cc W (by omega) (HGE.out W h) hd
      clear hd
      refine (HCt.out w8).mono ?_
      rintro e wz ⟨rfl, h9⟩
      obtain rfl : w8 = wz := h9.symm
      go_wp2_with fail
      refine (HDz.out w8 hB8).mono ?_
      rintro e wa ⟨rfl, hba⟩
      have HIa := Lib.hid (HI8.out.go hba)
      have hBa := hB8.trans (hba.mono hB8.size)
      obtain ⟨wb, hwb, hXb, hbb, hsb⟩ := boxes1 wa #[.int .i64 0, .int .i64 0, .slice none 0 0, .int .i64 0, .string ⟨#[]⟩, .int .i64 0, .int .i64 0, .slice none 0 0, .int .i64 0, .slice none 0 0] 33
      have HIb := Lib.hid (HIa.out.go hbb)
      have HWb := Lib.hid hwb
      have hBb := hBa.trans (hbb.mono hBa.size)
      have HEz : Hid (Calls Tryd.prog 8 #[.agg #[.int .i64 0, .int .i64 0, .slice none 0 0, .int .i64 0, .string ⟨#[]⟩, .int .i64 0, .int .i64 0, .slice none 0 0, .int .i64 0, .slice none 0 0]] wb fun e w' => e = .returned (.tuple #[.string ⟨#[]⟩, .int .i64 100]) ∧ Below wb.heap.size wb w') := zero_enc (HEn.out wa.heap.size (skNum 0 0 []) noSS wb zero_fine ⟨hXb, SlC.nil, SlC.nil, SlC.nil⟩)
      clear hwb hXb hsb
      go_wp2_with fail
      rw [HWb.out]
      refine HEz.out.mono ?_
      rintro e wc ⟨rfl, hbc⟩
      have HIc := Lib.hid (HIb.out.go hbc)
      have hBc := hBb.trans (hbc.mono hBb.size)
      have c0 : wc.cell? ⟨w.heap.size, 0, none⟩ = some (.int .i64 x2.kind) := cell_of_cells HIc.out.b 0
      have c1 : wc.cell? ⟨w.heap.size, 1, none⟩ = some (.int .i64 x2.level) := cell_of_cells HIc.out.b 1
      have c2 : wc.cell? ⟨w.heap.size, 2, none⟩ = some (.slice s2.ea s2.el s2.ec) := cell_of_cells HIc.out.b 2
      have c3 : wc.cell? ⟨w.heap.size, 3, none⟩ = some (.int .i64 x2.hb) := cell_of_cells HIc.out.b 3
      have c4 : wc.cell? ⟨w.heap.size, 4, none⟩ = some (.string x2.hr) := cell_of_cells HIc.out.b 4
      have c5 : wc.cell? ⟨w.heap.size, 5, none⟩ = some (.int .i64 x2.cr) := cell_of_cells HIc.out.b 5
      have c6 : wc.cell? ⟨w.heap.size, 6, none⟩ = some (.int .i64 x2.cc) := cell_of_cells HIc.out.b 6
      have c7 : wc.cell? ⟨w.heap.size, 7, none⟩ = some (.slice s2.ca s2.cl s2.cc) := cell_of_cells HIc.out.b 7
      have c8 : wc.cell? ⟨w.heap.size, 8, none⟩ = some (.int .i64 x2.gf) := cell_of_cells HIc.out.b 8
      have c9 : wc.cell? ⟨w.heap.size, 9, none⟩ = some (.slice s2.ga s2.gl s2.gc) := cell_of_cells HIc.out.b 9
      go_wp2_with fail
      refine (HRt.out _ _ _ wc HFx.out HIc.out).mono ?_
      rw [HOK.out]
      rintro e wd ⟨rfl, hbd⟩
      go_wp2_with fail
      go_ret
      exact ⟨rfl, hBc.trans (hbd.mono hBc.size)⟩
    | code =>
      have HDz : Hid (∀ W, Below w.heap.size w W → Calls Tryd.prog 9 #[.string q] W fun e w' => e = .returned (.tuple #[.agg #[.int .i64 0, .int .i64 0, .slice none 0 0, .int .i64 0, .string ⟨#[]⟩, .int .i64 0, .int .i64 0, .slice none 0 0, .int .i64 0, .slice none 0 0], .string q, .int .i64 110]) ∧ Below W.heap.size W w') := fun W h => Decode_code q fm ff cm cc W (by omega) (HGE.out W h) hd
      clear hd
      refine (HCt.out w8).mono ?_
      rintro e wz ⟨rfl, h9⟩
      obtain rfl : w8 = wz := h9.symm
      go_wp2_with fail
      refine (HDz.out w8 hB8).mono ?_
      rintro e wa ⟨rfl, hba⟩
      have HIa := Lib.hid (HI8.out.go hba)
      have hBa := hB8.trans (hba.mono hB8.size)
      obtain ⟨wb, hwb, hXb, hbb, hsb⟩ := boxes1 wa #[.int .i64 0, .int .i64 0, .slice none 0 0, .int .i64 0, .string ⟨#[]⟩, .int .i64 0, .int .i64 0, .slice none 0 0, .int .i64 0, .slice none 0 0] 33
      have HIb := Lib.hid (HIa.out.go hbb)
      have HWb := Lib.hid hwb
      have hBb := hBa.trans (hbb.mono hBa.size)
      have HEz : Hid (Calls Tryd.prog 8 #[.agg #[.int .i64 0, .int .i64 0, .slice none 0 0, .int .i64 0, .string ⟨#[]⟩, .int .i64 0, .int .i64 0, .slice none 0 0, .int .i64 0, .slice none 0 0]] wb fun e w' => e = .returned (.tuple #[.string ⟨#[]⟩, .int .i64 100]) ∧ Below wb.heap.size wb w') := zero_enc (HEn.out wa.heap.size (skNum 0 0 []) noSS wb zero_fine ⟨hXb, SlC.nil, SlC.nil, SlC.nil⟩)
      clear hwb hXb hsb
      go_wp2_with fail
      rw [HWb.out]
      refine HEz.out.mono ?_
      rintro e wc ⟨rfl, hbc⟩
      have HIc := Lib.hid (HIb.out.go hbc)
      have hBc := hBb.trans (hbc.mono hBb.size)
      have c0 : wc.cell? ⟨w.heap.size, 0, none⟩ = some (.int .i64 x2.kind) := cell_of_cells HIc.out.b 0
      have c1 : wc.cell? ⟨w.heap.size, 1, none⟩ = some (.int .i64 x2.level) := cell_of_cells HIc.out.b 1
      have c2 : wc.cell? ⟨w.heap.size, 2, none⟩ = some (.slice s2.ea s2.el s2.ec) := cell_of_cells HIc.out.b 2
      have c3 : wc.cell? ⟨w.heap.size, 3, none⟩ = some (.int .i64 x2.hb) := cell_of_cells HIc.out.b 3
      have c4 : wc.cell? ⟨w.heap.size, 4, none⟩ = some (.string x2.hr) := cell_of_cells HIc.out.b 4
      have c5 : wc.cell? ⟨w.heap.size, 5, none⟩ = some (.int .i64 x2.cr) := cell_of_cells HIc.out.b 5
      have c6 : wc.cell? ⟨w.heap.size, 6, none⟩ = some (.int .i64 x2.cc) := cell_of_cells HIc.out.b 6
      have c7 : wc.cell? ⟨w.heap.size, 7, none⟩ = some (.slice s2.ca s2.cl s2.cc) := cell_of_cells HIc.out.b 7
      have c8 : wc.cell? ⟨w.heap.size, 8, none⟩ = some (.int .i64 x2.gf) := cell_of_cells HIc.out.b 8
      have c9 : wc.cell? ⟨w.heap.size, 9, none⟩ = some (.slice s2.ga s2.gl s2.gc) := cell_of_cells HIc.out.b 9
      go_wp2_with fail
      refine (HRt.out _ _ _ wc HFx.out HIc.out).mono ?_
      rw [HOK.out]
      rintro e wd ⟨rfl, hbd⟩
      go_wp2_with fail
      go_ret
      exact ⟨rfl, hBc.trans (hbd.mono hBc.size)⟩
  | false =>
    have HOK := Lib.hid hok
    obtain ⟨a, ha⟩ : ∃ a, encS x2 = a := ⟨_, rfl⟩
    have hal : a.data.toList = [] := by rw [← ha, encS, hok]; rfl
    have haz : a.size ≤ 30000 := by
      have h2 : a.data.toList.length = a.size := Array.length_toList
      rw [hal] at h2
      simp at h2
      omega
    have HFZ : Hid ((a ++ q).size < 4294967281) := by rw [Hid, ByteArray.size_append]; omega
    have HAQ : Hid ((a ++ q).data.toList = q.data.toList) := by rw [Hid, app_list, hal]; rfl
    have he : encE x2 = 100 := by rw [encE, hok]; rfl
    clear hok
    go_enter Tryd.func3, Tryd.ntmps3
    go_wp2_with fail
    refine HS.out.mono ?_
    rintro e w1 ⟨rfl, hb1⟩
    have HI1 := Lib.hid (HI0.out.go hb1)
    have hB1 := hB0.trans (hb1.mono hB0.size)
    have c0 : w1.cell? ⟨w.heap.size, 0, none⟩ = some (.int .i64 x.kind) := cell_of_cells HI1.out.b 0
    have c1 : w1.cell? ⟨w.heap.size, 1, none⟩ = some (.int .i64 x.level) := cell_of_cells HI1.out.b 1
    have c2 : w1.cell? ⟨w.heap.size, 2, none⟩ = some (.slice s.ea s.el s.ec) := cell_of_cells HI1.out.b 2
    have c3 : w1.cell? ⟨w.heap.size, 3, none⟩ = some (.int .i64 x.hb) := cell_of_cells HI1.out.b 3
    have c4 : w1.cell? ⟨w.heap.size, 4, none⟩ = some (.string x.hr) := cell_of_cells HI1.out.b 4
    have c5 : w1.cell? ⟨w.heap.size, 5, none⟩ = some (.int .i64 x.cr) := cell_of_cells HI1.out.b 5
    have c6 : w1.cell? ⟨w.heap.size, 6, none⟩ = some (.int .i64 x.cc) := cell_of_cells HI1.out.b 6
    have c7 : w1.cell? ⟨w.heap.size, 7, none⟩ = some (.slice s.ca s.cl s.cc) := cell_of_cells HI1.out.b 7
    have c8 : w1.cell? ⟨w.heap.size, 8, none⟩ = some (.int .i64 x.gf) := cell_of_cells HI1.out.b 8
    have c9 : w1.cell? ⟨w.heap.size, 9, none⟩ = some (.slice s.ga s.gl s.gc) := cell_of_cells HI1.out.b 9
    go_wp2_with fail
    refine (HF0.out w1 HI1.out).mono ?_
    rintro e w2 ⟨v, rfl, rfl, hb2⟩
    have HI2 := Lib.hid (HI1.out.go hb2)
    have hB2 := hB1.trans (hb2.mono hB1.size)
    unfold skVal
    clear c0 c1 c2 c3 c4 c5 c6 c7 c8 c9
    have d0 : w2.cell? ⟨w.heap.size, 0, none⟩ = some (.int .i64 x.kind) := cell_of_cells HI2.out.b 0
    have d1 : w2.cell? ⟨w.heap.size, 1, none⟩ = some (.int .i64 x.level) := cell_of_cells HI2.out.b 1
    have d2 : w2.cell? ⟨w.heap.size, 2, none⟩ = some (.slice s.ea s.el s.ec) := cell_of_cells HI2.out.b 2
    have d3 : w2.cell? ⟨w.heap.size, 3, none⟩ = some (.int .i64 x.hb) := cell_of_cells HI2.out.b 3
    have d4 : w2.cell? ⟨w.heap.size, 4, none⟩ = some (.string x.hr) := cell_of_cells HI2.out.b 4
    have d5 : w2.cell? ⟨w.heap.size, 5, none⟩ = some (.int .i64 x.cr) := cell_of_cells HI2.out.b 5
    have d6 : w2.cell? ⟨w.heap.size, 6, none⟩ = some (.int .i64 x.cc) := cell_of_cells HI2.out.b 6
    have d7 : w2.cell? ⟨w.heap.size, 7, none⟩ = some (.slice s.ca s.cl s.cc) := cell_of_cells HI2.out.b 7
    have d8 : w2.cell? ⟨w.heap.size, 8, none⟩ = some (.int .i64 x.gf) := cell_of_cells HI2.out.b 8
    have d9 : w2.cell? ⟨w.heap.size, 9, none⟩ = some (.slice s.ga s.gl s.gc) := cell_of_cells HI2.out.b 9
    have f0 : w2.frozen? ⟨w.heap.size, 0, none⟩ = false := frozen_of_cells HI2.out.b 0
    have f1 : w2.frozen? ⟨w.heap.size, 1, none⟩ = false := frozen_of_cells HI2.out.b 1
    have f2 : w2.frozen? ⟨w.heap.size, 2, none⟩ = false := frozen_of_cells HI2.out.b 2
    have f3 : w2.frozen? ⟨w.heap.size, 3, none⟩ = false := frozen_of_cells HI2.out.b 3
    have f4 : w2.frozen? ⟨w.heap.size, 4, none⟩ = false := frozen_of_cells HI2.out.b 4
    have f5 : w2.frozen? ⟨w.heap.size, 5, none⟩ = false := frozen_of_cells HI2.out.b 5
    have f6 : w2.frozen? ⟨w.heap.size, 6, none⟩ = false := frozen_of_cells HI2.out.b 6
    have f7 : w2.frozen? ⟨w.heap.size, 7, none⟩ = false := frozen_of_cells HI2.out.b 7
    have f8 : w2.frozen? ⟨w.heap.size, 8, none⟩ = false := frozen_of_cells HI2.out.b 8
    have f9 : w2.frozen? ⟨w.heap.size, 9, none⟩ = false := frozen_of_cells HI2.out.b 9
    obtain ⟨V, hV⟩ : ∃ V, store10 w2 (w.heap.size) x2 s2 = V := ⟨_, rfl⟩
    have HVB : Hid (InV w.heap.size x2 s2 V ∧ Below w.heap.size w V) := by rw [← hV]; exact HST.out w2 x2 s2 HI2.out (HC0.out w2 HI2.out) hB2
    have HI3 := Lib.hid HVB.out.1
    have hB3 := HVB.out.2
    unfold store10 at hV
    have g0 : V.cell? ⟨w.heap.size, 0, none⟩ = some (.int .i64 x2.kind) := cell_of_cells HI3.out.b 0
    have g1 : V.cell? ⟨w.heap.size, 1, none⟩ = some (.int .i64 x2.level) := cell_of_cells HI3.out.b 1
    have g2 : V.cell? ⟨w.heap.size, 2, none⟩ = some (.slice s2.ea s2.el s2.ec) := cell_of_cells HI3.out.b 2
    have g3 : V.cell? ⟨w.heap.size, 3, none⟩ = some (.int .i64 x2.hb) := cell_of_cells HI3.out.b 3
    have g4 : V.cell? ⟨w.heap.size, 4, none⟩ = some (.string x2.hr) := cell_of_cells HI3.out.b 4
    have g5 : V.cell? ⟨w.heap.size, 5, none⟩ = some (.int .i64 x2.cr) := cell_of_cells HI3.out.b 5
    have g6 : V.cell? ⟨w.heap.size, 6, none⟩ = some (.int .i64 x2.cc) := cell_of_cells HI3.out.b 6
    have g7 : V.cell? ⟨w.heap.size, 7, none⟩ = some (.slice s2.ca s2.cl s2.cc) := cell_of_cells HI3.out.b 7
    have g8 : V.cell? ⟨w.heap.size, 8, none⟩ = some (.int .i64 x2.gf) := cell_of_cells HI3.out.b 8
    have g9 : V.cell? ⟨w.heap.size, 9, none⟩ = some (.slice s2.ga s2.gl s2.gc) := cell_of_cells HI3.out.b 9
    go_wp2_with fail
    refine (HEn.out _ _ _ V HFx.out HI3.out).mono ?_
    rw [ha, he]
    clear ha he hal
    rintro e w4 ⟨rfl, hb4⟩
    have HI4 := Lib.hid (HI3.out.go hb4)
    have hB4 := hB3.trans (hb4.mono hB3.size)
    clear hV hB2 hB1 HST HF0 HC0 d0 d1 d2 d3 d4 d5 d6 d7 d8 d9 f0 f1 f2 f3 f4 f5 f6 f7 f8 f9 g0 g1 g2 g3 g4 g5 g6 g7 g8 g9
    go_wp2_with fail
    refine (HCt.out w4).mono ?_
    rintro e w5 ⟨rfl, h9⟩
    obtain rfl : w4 = w5 := h9.symm
    go_wp2_with fail
    cases hd : decB q.data.toList with
    | got c r =>
      refine (Decode_got (a ++ q) c r fm ff cm cc w4 HFZ.out (HGE.out w4 hB4) (by rw [HAQ.out]; exact hd)).mono ?_
      rintro e w6 ⟨p, rfl, hA6, hb6⟩
      unfold skVal
      have HD2 : Hid (decB q.data.toList = .got c r) := hd
      obtain ⟨o1, o2, o3, o4⟩ := decB_inv hd
      have HFc := Lib.hid (fine_of o2 o3)
      have HOKc := Lib.hid o1
      obtain ⟨d, hdc⟩ : ∃ d, encS c = d := ⟨_, rfl⟩
      have HDc := Lib.hid hdc
      have HEc : Hid (encE c = 0) := by rw [Hid, encE, o1]; rfl
      have hdl : d.data.toList = encBytes c := by rw [← hdc]; exact enc_list c o1
      have hdz : d.size ≤ 30000 := by have h1 := enc_len c o3; have h2 : d.data.toList.length = d.size := Array.length_toList; rw [hdl] at h2; omega
      have hrz : (⟨r.toArray⟩ : ByteArray).size ≤ 2000 := by have h1 := congrArg List.length o4; have h2 : q.data.toList.length = q.size := Array.length_toList; rw [List.length_append] at h1; rw [size_list]; omega
      have hdq : ((d ++ ⟨r.toArray⟩).toList == q.toList) = true := by rw [bytes_eq2, app_list, hdl]; exact o4.symm
      clear hd hdc o1 o2 o3 o4 hdl
      have HI6 := Lib.hid (HI4.out.go hb6)
      have hB6 := hB4.trans (hb6.mono hB4.size)
      obtain ⟨w7, hw7, hX7, hb7, hs7⟩ := boxes1 w6 #[.int .i64 c.kind, .int .i64 c.level, .slice p.ea p.el p.ec, .int .i64 c.hb, .string c.hr, .int .i64 c.cr, .int .i64 c.cc, .slice p.ca p.cl p.cc, .int .i64 c.gf, .slice p.ga p.gl p.gc] 33
      have HI7 := Lib.hid (HI6.out.go hb7)
      have hB7 := hB6.trans (hb7.mono hB6.size)
      clear hX7 hA6 hs7
      go_wp2_with fail
      refine (HCt.out w7).mono ?_
      rintro e wz ⟨rfl, h9⟩
      obtain rfl : w7 = wz := h9.symm
      go_wp2_with fail
      refine (Decode_got q c r fm ff cm cc w7 (by omega) (HGE.out w7 hB7) HD2.out).mono ?_
      rintro e wa ⟨p2, rfl, hAa, hba⟩
      unfold skVal
      have HIa := Lib.hid (HI7.out.go hba)
      have hBa := hB7.trans (hba.mono hB7.size)
      obtain ⟨wb, hwb, hXb, hbb, hsb⟩ := boxes1 wa #[.int .i64 c.kind, .int .i64 c.level, .slice p2.ea p2.el p2.ec, .int .i64 c.hb, .string c.hr, .int .i64 c.cr, .int .i64 c.cc, .slice p2.ca p2.cl p2.cc, .int .i64 c.gf, .slice p2.ga p2.gl p2.gc] 33
      have HIb := Lib.hid (HIa.out.go hbb)
      have HJb : Hid (InV wa.heap.size c p2 wb) := ⟨hXb, hAa.go hbb⟩
      have hBb := hBa.trans (hbb.mono hBa.size)
      have c0 : wb.cell? ⟨wa.heap.size, 0, none⟩ = some (.int .i64 c.kind) := cell_of_cells HJb.out.b 0
      have c1 : wb.cell? ⟨wa.heap.size, 1, none⟩ = some (.int .i64 c.level) := cell_of_cells HJb.out.b 1
      have c2 : wb.cell? ⟨wa.heap.size, 2, none⟩ = some (.slice p2.ea p2.el p2.ec) := cell_of_cells HJb.out.b 2
      have c3 : wb.cell? ⟨wa.heap.size, 3, none⟩ = some (.int .i64 c.hb) := cell_of_cells HJb.out.b 3
      have c4 : wb.cell? ⟨wa.heap.size, 4, none⟩ = some (.string c.hr) := cell_of_cells HJb.out.b 4
      have c5 : wb.cell? ⟨wa.heap.size, 5, none⟩ = some (.int .i64 c.cr) := cell_of_cells HJb.out.b 5
      have c6 : wb.cell? ⟨wa.heap.size, 6, none⟩ = some (.int .i64 c.cc) := cell_of_cells HJb.out.b 6
      have c7 : wb.cell? ⟨wa.heap.size, 7, none⟩ = some (.slice p2.ca p2.cl p2.cc) := cell_of_cells HJb.out.b 7
      have c8 : wb.cell? ⟨wa.heap.size, 8, none⟩ = some (.int .i64 c.gf) := cell_of_cells HJb.out.b 8
      have c9 : wb.cell? ⟨wa.heap.size, 9, none⟩ = some (.slice p2.ga p2.gl p2.gc) := cell_of_cells HJb.out.b 9
      clear hXb hAa hsb
      go_wp2_with fail
      refine (HEn.out _ _ _ wb HFc.out HJb.out).mono ?_
      rw [HDc.out, HEc.out]
      rintro e wc ⟨rfl, hbc⟩
      have HIc := Lib.hid (HIb.out.go hbc)
      have HJc := Lib.hid (HJb.out.go hbc)
      have hBc := hBb.trans (hbc.mono hBb.size)
      clear hwb c0 c1 c2 c3 c4 c5 c6 c7 c8 c9
      have c0 : wc.cell? ⟨w.heap.size, 0, none⟩ = some (.int .i64 x2.kind) := cell_of_cells HIc.out.b 0
      have c1 : wc.cell? ⟨w.heap.size, 1, none⟩ = some (.int .i64 x2.level) := cell_of_cells HIc.out.b 1
      have c2 : wc.cell? ⟨w.heap.size, 2, none⟩ = some (.slice s2.ea s2.el s2.ec) := cell_of_cells HIc.out.b 2
      have c3 : wc.cell? ⟨w.heap.size, 3, none⟩ = some (.int .i64 x2.hb) := cell_of_cells HIc.out.b 3
      have c4 : wc.cell? ⟨w.heap.size, 4, none⟩ = some (.string x2.hr) := cell_of_cells HIc.out.b 4
      have c5 : wc.cell? ⟨w.heap.size, 5, none⟩ = some (.int .i64 x2.cr) := cell_of_cells HIc.out.b 5
      have c6 : wc.cell? ⟨w.heap.size, 6, none⟩ = some (.int .i64 x2.cc) := cell_of_cells HIc.out.b 6
      have c7 : wc.cell? ⟨w.heap.size, 7, none⟩ = some (.slice s2.ca s2.cl s2.cc) := cell_of_cells HIc.out.b 7
      have c8 : wc.cell? ⟨w.heap.size, 8, none⟩ = some (.int .i64 x2.gf) := cell_of_cells HIc.out.b 8
      have c9 : wc.cell? ⟨w.heap.size, 9, none⟩ = some (.slice s2.ga s2.gl s2.gc) := cell_of_cells HIc.out.b 9
      go_wp2_with fail
      refine (HRt.out _ _ _ wc HFx.out HIc.out).mono ?_
      rw [HOK.out]
      rintro e wd ⟨rfl, hbd⟩
      have HJd := Lib.hid (HJc.out.go hbd)
      have hBd := hBc.trans (hbd.mono hBc.size)
      clear c0 c1 c2 c3 c4 c5 c6 c7 c8 c9
      have c0 : wd.cell? ⟨wa.heap.size, 0, none⟩ = some (.int .i64 c.kind) := cell_of_cells HJd.out.b 0
      have c1 : wd.cell? ⟨wa.heap.size, 1, none⟩ = some (.int .i64 c.level) := cell_of_cells HJd.out.b 1
      have c2 : wd.cell? ⟨wa.heap.size, 2, none⟩ = some (.slice p2.ea p2.el p2.ec) := cell_of_cells HJd.out.b 2
      have c3 : wd.cell? ⟨wa.heap.size, 3, none⟩ = some (.int .i64 c.hb) := cell_of_cells HJd.out.b 3
      have c4 : wd.cell? ⟨wa.heap.size, 4, none⟩ = some (.string c.hr) := cell_of_cells HJd.out.b 4
      have c5 : wd.cell? ⟨wa.heap.size, 5, none⟩ = some (.int .i64 c.cr) := cell_of_cells HJd.out.b 5
      have c6 : wd.cell? ⟨wa.heap.size, 6, none⟩ = some (.int .i64 c.cc) := cell_of_cells HJd.out.b 6
      have c7 : wd.cell? ⟨wa.heap.size, 7, none⟩ = some (.slice p2.ca p2.cl p2.cc) := cell_of_cells HJd.out.b 7
      have c8 : wd.cell? ⟨wa.heap.size, 8, none⟩ = some (.int .i64 c.gf) := cell_of_cells HJd.out.b 8
      have c9 : wd.cell? ⟨wa.heap.size, 9, none⟩ = some (.slice p2.ga p2.gl p2.gc) := cell_of_cells HJd.out.b 9
      go_wp2_with fail
      refine (HCt.out wd).mono ?_
      rintro e wz ⟨rfl, h9⟩
      obtain rfl : wd = wz := h9.symm
      go_wp2_with fail
      refine (HRt.out _ _ _ wd HFc.out HJd.out).mono ?_
      rw [HOKc.out]
      rintro e we ⟨rfl, hbe⟩
      go_wp2_with fail
      go_ret
      exact ⟨rfl, hBd.trans (hbe.mono hBd.size)⟩
    | more =>
      have HD0 : Hid (Calls Tryd.prog 9 #[.string (a ++ q)] w4 fun e w' => e = .returned (.tuple #[.agg #[.int .i64 0, .int .i64 0, .slice none 0 0, .int .i64 0, .string ⟨#[]⟩, .int .i64 0, .int .i64 0, .slice none 0 0, .int .i64 0, .slice none 0 0], .string (a ++ q), .int .i64 20]) ∧ Below w4.heap.size w4 w') := Decode_more (a ++ q) fm ff cm cc w4 HFZ.out (HGE.out w4 hB4) (by rw [HAQ.out]; exact hd)
      have HDz : Hid (∀ W, Below w.heap.size w W → Calls Tryd.prog 9 #[.string q] W fun e w' => e = .returned (.tuple #[.agg #[.int .i64 0, .int .i64 0, .slice none 0 0, .int .i64 0, .string ⟨#[]⟩, .int .i64 0, .int .i64 0, .slice none 0 0, .int .i64 0, .slice none 0 0], .string q, .int .i64 20]) ∧ Below W.heap.size W w') := fun W h => Decode_more q fm ff cm cc W (by omega) (HGE.out W h) hd
      clear hd
      refine HD0.out.mono ?_
      rintro e w6 ⟨rfl, hb6⟩
      have HI6 := Lib.hid (HI4.out.go hb6)
      have hB6 := hB4.trans (hb6.mono hB4.size)
      obtain ⟨w7, hw7, hX7, hb7, hs7⟩ := boxes1 w6 #[.int .i64 0, .int .i64 0, .slice none 0 0, .int .i64 0, .string ⟨#[]⟩, .int .i64 0, .int .i64 0, .slice none 0 0, .int .i64 0, .slice none 0 0] 33
      have HI7 := Lib.hid (HI6.out.go hb7)
      have hB7 := hB6.trans (hb7.mono hB6.size)
      have HW7 := Lib.hid hw7
      clear hX7 hs7 hw7
      go_wp2_with fail
      rw [HW7.out]
      refine (HCt.out w7).mono ?_
      rintro e wz ⟨rfl, h9⟩
      obtain rfl : w7 = wz := h9.symm
      go_wp2_with fail
      refine (HDz.out w7 hB7).mono ?_
      rintro e wa ⟨rfl, hba⟩
      have HIa := Lib.hid (HI7.out.go hba)
      have hBa := hB7.trans (hba.mono hB7.size)
      obtain ⟨wb, hwb, hXb, hbb, hsb⟩ := boxes1 wa #[.int .i64 0, .int .i64 0, .slice none 0 0, .int .i64 0, .string ⟨#[]⟩, .int .i64 0, .int .i64 0, .slice none 0 0, .int .i64 0, .slice none 0 0] 33
      have HIb := Lib.hid (HIa.out.go hbb)
      have HWb := Lib.hid hwb
      have hBb := hBa.trans (hbb.mono hBa.size)
      have HEz : Hid (Calls Tryd.prog 8 #[.agg #[.int .i64 0, .int .i64 0, .slice none 0 0, .int .i64 0, .string ⟨#[]⟩, .int .i64 0, .int .i64 0, .slice none 0 0, .int .i64 0, .slice none 0 0]] wb fun e w' => e = .returned (.tuple #[.string ⟨#[]⟩, .int .i64 100]) ∧ Below wb.heap.size wb w') := zero_enc (HEn.out wa.heap.size (skNum 0 0 []) noSS wb zero_fine ⟨hXb, SlC.nil, SlC.nil, SlC.nil⟩)
      clear hwb hXb hsb
      go_wp2_with fail
      rw [HWb.out]
      refine HEz.out.mono ?_
      rintro e wc ⟨rfl, hbc⟩
      have HIc := Lib.hid (HIb.out.go hbc)
      have hBc := hBb.trans (hbc.mono hBb.size)
      have c0 : wc.cell? ⟨w.heap.size, 0, none⟩ = some (.int .i64 x2.kind) := cell_of_cells HIc.out.b 0
      have c1 : wc.cell? ⟨w.heap.size, 1, none⟩ = some (.int .i64 x2.level) := cell_of_cells HIc.out.b 1
      have c2 : wc.cell? ⟨w.heap.size, 2, none⟩ = some (.slice s2.ea s2.el s2.ec) := cell_of_cells HIc.out.b 2
      have c3 : wc.cell? ⟨w.heap.size, 3, none⟩ = some (.int .i64 x2.hb) := cell_of_cells HIc.out.b 3
      have c4 : wc.cell? ⟨w.heap.size, 4, none⟩ = some (.string x2.hr) := cell_of_cells HIc.out.b 4
      have c5 : wc.cell? ⟨w.heap.size, 5, none⟩ = some (.int .i64 x2.cr) := cell_of_cells HIc.out.b 5
      have c6 : wc.cell? ⟨w.heap.size, 6, none⟩ = some (.int .i64 x2.cc) := cell_of_cells HIc.out.b 6
      have c7 : wc.cell? ⟨w.heap.size, 7, none⟩ = some (.slice s2.ca s2.cl s2.cc) := cell_of_cells HIc.out.b 7
      have c8 : wc.cell? ⟨w.heap.size, 8, none⟩ = some (.int .i64 x2.gf) := cell_of_cells HIc.out.b 8
      have c9 : wc.cell? ⟨w.heap.size, 9, none⟩ = some (.slice s2.ga s2.gl s2.gc) := cell_of_cells HIc.out.b 9
      go_wp2_with fail
      refine (HRt.out _ _ _ wc HFx.out HIc.out).mono ?_
      rw [HOK.out]
      rintro e wd ⟨rfl, hbd⟩
      go_wp2_with fail
      go_ret
      exact ⟨rfl, hBc.trans (hbd.mono hBc.size)⟩
    | code =>
      have HD0 : Hid (Calls Tryd.prog 9 #[.string (a ++ q)] w4 fun e w' => e = .returned (.tuple #[.agg #[.int .i64 0, .int .i64 0, .slice none 0 0, .int .i64 0, .string ⟨#[]⟩, .int .i64 0, .int .i64 0, .slice none 0 0, .int .i64 0, .slice none 0 0], .string (a ++ q), .int .i64 110]) ∧ Below w4.heap.size w4 w') := Decode_code (a ++ q) fm ff cm cc w4 HFZ.out (HGE.out w4 hB4) (by rw [HAQ.out]; exact hd)
      have HDz : Hid (∀ W, Below w.heap.size w W → Calls Tryd.prog 9 #[.string q] W fun e w' => e = .returned (.tuple #[.agg #[.int .i64 0, .int .i64 0, .slice none 0 0, .int .i64 0, .string ⟨#[]⟩, .int .i64 0, .int .i64 0, .slice none 0 0, .int .i64 0, .slice none 0 0], .string q, .int .i64 110]) ∧ Below W.heap.size W w') := fun W h => Decode_code q fm ff cm cc W (by omega) (HGE.out W h) hd
      clear hd
      refine HD0.out.mono ?_
      rintro e w6 ⟨rfl, hb6⟩
      have HI6 := Lib.hid (HI4.out.go hb6)
      have hB6 := hB4.trans (hb6.mono hB4.size)
      obtain ⟨w7, hw7, hX7, hb7, hs7⟩ := boxes1 w6 #[.int .i64 0, .int .i64 0, .slice none 0 0, .int .i64 0, .string ⟨#[]⟩, .int .i64 0, .int .i64 0, .slice none 0 0, .int .i64 0, .slice none 0 0] 33
      have HI7 := Lib.hid (HI6.out.go hb7)
      have hB7 := hB6.trans (hb7.mono hB6.size)
      have HW7 := Lib.hid hw7
      clear hX7 hs7 hw7
      go_wp2_with fail
      rw [HW7.out]
      refine (HCt.out w7).mono ?_
      rintro e wz ⟨rfl, h9⟩
      obtain rfl : w7 = wz := h9.symm
      go_wp2_with fail
      refine (HDz.out w7 hB7).mono ?_
      rintro e wa ⟨rfl, hba⟩
      have HIa := Lib.hid (HI7.out.go hba)
      have hBa := hB7.trans (hba.mono hB7.size)
      obtain ⟨wb, hwb, hXb, hbb, hsb⟩ := boxes1 wa #[.int .i64 0, .int .i64 0, .slice none 0 0, .int .i64 0, .string ⟨#[]⟩, .int .i64 0, .int .i64 0, .slice none 0 0, .int .i64 0, .slice none 0 0] 33
      have HIb := Lib.hid (HIa.out.go hbb)
      have HWb := Lib.hid hwb
      have hBb := hBa.trans (hbb.mono hBa.size)
      have HEz : Hid (Calls Tryd.prog 8 #[.agg #[.int .i64 0, .int .i64 0, .slice none 0 0, .int .i64 0, .string ⟨#[]⟩, .int .i64 0, .int .i64 0, .slice none 0 0, .int .i64 0, .slice none 0 0]] wb fun e w' => e = .returned (.tuple #[.string ⟨#[]⟩, .int .i64 100]) ∧ Below wb.heap.size wb w') := zero_enc (HEn.out wa.heap.size (skNum 0 0 []) noSS wb zero_fine ⟨hXb, SlC.nil, SlC.nil, SlC.nil⟩)
      clear hwb hXb hsb
      go_wp2_with fail
      rw [HWb.out]
      refine HEz.out.mono ?_
      rintro e wc ⟨rfl, hbc⟩
      have HIc := Lib.hid (HIb.out.go hbc)
      have hBc := hBb.trans (hbc.mono hBb.size)
      have c0 : wc.cell? ⟨w.heap.size, 0, none⟩ = some (.int .i64 x2.kind) := cell_of_cells HIc.out.b 0
      have c1 : wc.cell? ⟨w.heap.size, 1, none⟩ = some (.int .i64 x2.level) := cell_of_cells HIc.out.b 1
      have c2 : wc.cell? ⟨w.heap.size, 2, none⟩ = some (.slice s2.ea s2.el s2.ec) := cell_of_cells HIc.out.b 2
      have c3 : wc.cell? ⟨w.heap.size, 3, none⟩ = some (.int .i64 x2.hb) := cell_of_cells HIc.out.b 3
      have c4 : wc.cell? ⟨w.heap.size, 4, none⟩ = some (.string x2.hr) := cell_of_cells HIc.out.b 4
      have c5 : wc.cell? ⟨w.heap.size, 5, none⟩ = some (.int .i64 x2.cr) := cell_of_cells HIc.out.b 5
      have c6 : wc.cell? ⟨w.heap.size, 6, none⟩ = some (.int .i64 x2.cc) := cell_of_cells HIc.out.b 6
      have c7 : wc.cell? ⟨w.heap.size, 7, none⟩ = some (.slice s2.ca s2.cl s2.cc) := cell_of_cells HIc.out.b 7
      have c8 : wc.cell? ⟨w.heap.size, 8, none⟩ = some (.int .i64 x2.gf) := cell_of_cells HIc.out.b 8
      have c9 : wc.cell? ⟨w.heap.size, 9, none⟩ = some (.slice s2.ga s2.gl s2.gc) := cell_of_cells HIc.out.b 9
      go_wp2_with fail
      refine (HRt.out _ _ _ wc HFx.out HIc.out).mono ?_
      rw [HOK.out]
      rintro e wd ⟨rfl, hbd⟩
      go_wp2_with fail
      go_ret
      exact ⟨rfl, hBc.trans (hbd.mono hBc.size)⟩
end Go.Proofs.YtjpnbkdhmjgdgaaDoor

/- Package code: Decode. aviarylaw11: shown, cut. aviarylaw11: what the laws have in common. -/
import Derived.Test.YtpnlmfilmbodfaaGreatDoorZYH
import Derived.Test.YtpnlmfilmbodfaaGreatDoorZYJ
import Derived.BigRegion
import Derived.Test.YtpnlmfilmbodfaaGreatDoorZF7
import Derived.Lib.MinMax
import Derived.Test.YtpnlmfilmbodfaaGreatDoorZM2
namespace Go.Proofs.YtpnlmfilmbodfaaGreatDoor
open Go Go.RowKit Go.Shelf
def DecPost (s : ByteArray) (w : World) (d : DecR) (e : Ending) (w' : World) : Prop := Below w.heap.size w w' ∧ match d with
  | .got x r => ∃ p : SS, e = .returned (.tuple #[skVal x p, .string ⟨r.toArray⟩, .int .i64 0]) ∧ p.At w'.heap.size w' x
  | .more => e = .returned (.tuple #[skVal (skNum 0 0 []) ⟨none, 0, 0, none, 0, 0, none, 0, 0⟩, .string s, .int .i64 20])
  | .code => e = .returned (.tuple #[skVal (skNum 0 0 []) ⟨none, 0, 0, none, 0, 0, none, 0, 0⟩, .string s, .int .i64 110])
def skPut10 (W : World) (B : Nat) (x : Sk) (p : SS) : World := ((((((((((W.setCell ⟨B, 0, none⟩ (.int .i64 x.kind)).setCell ⟨B, 1, none⟩ (.int .i64 x.level)).setCell ⟨B, 2, none⟩ (.slice p.ea p.el p.ec)).setCell ⟨B, 3, none⟩ (.int .i64 x.hb)).setCell ⟨B, 4, none⟩ (.string x.hr)).setCell ⟨B, 5, none⟩ (.int .i64 x.cr)).setCell ⟨B, 6, none⟩ (.int .i64 x.cc)).setCell ⟨B, 7, none⟩ (.slice p.ca p.cl p.cc)).setCell ⟨B, 8, none⟩ (.int .i64 x.gf)).setCell ⟨B, 9, none⟩ (.slice p.ga p.gl p.gc))
theorem skPut10_spec {W : World} {B : Nat} {a0 a1 a2 a3 a4 a5 a6 a7 a8 a9 : Value} {t : TypeId} {fz : Nat × Nat} (x : Sk) (p : SS) (h : W.heap[B]? = some (.cells #[a0, a1, a2, a3, a4, a5, a6, a7, a8, a9] t fz)) : (skPut10 W B x p).heap[B]? = some (.cells #[.int .i64 x.kind, .int .i64 x.level, .slice p.ea p.el p.ec, .int .i64 x.hb, .string x.hr, .int .i64 x.cr, .int .i64 x.cc, .slice p.ca p.cl p.cc, .int .i64 x.gf, .slice p.ga p.gl p.gc] t fz) := by
  unfold skPut10
  rw [heap_set (heap_set (heap_set (heap_set (heap_set (heap_set (heap_set (heap_set (heap_set (heap_set h)))))))))]
  simp only [List.setIfInBounds_toArray, List.set_cons_zero, List.set_cons_succ]
theorem skPut10_below {n B : Nat} {w W : World} (x : Sk) (p : SS) (h : Below n w W) (hB : n ≤ B) : Below n w (skPut10 W B x p) :=
  ((((((((((h.setCell (p := ⟨B, 0, none⟩) hB _).setCell (p := ⟨B, 1, none⟩) hB _).setCell (p := ⟨B, 2, none⟩) hB _).setCell (p := ⟨B, 3, none⟩) hB _).setCell (p := ⟨B, 4, none⟩) hB _).setCell (p := ⟨B, 5, none⟩) hB _).setCell (p := ⟨B, 6, none⟩) hB _).setCell (p := ⟨B, 7, none⟩) hB _).setCell (p := ⟨B, 8, none⟩) hB _).setCell (p := ⟨B, 9, none⟩) hB _)
theorem drew_heap (W : World) : W.drew.heap = W.heap := rfl
theorem skPut10_other {W : World} {B : Nat} (x : Sk) (p : SS) : ∀ j, j ≠ B → (skPut10 W B x p).drew.heap[j]? = W.heap[j]? := fun j hj => by
  rw [drew_heap]
  unfold skPut10
  rw [Below.heap_setCell _ _ _ _ hj, Below.heap_setCell _ _ _ _ hj, Below.heap_setCell _ _ _ _ hj, Below.heap_setCell _ _ _ _ hj, Below.heap_setCell _ _ _ _ hj, Below.heap_setCell _ _ _ _ hj, Below.heap_setCell _ _ _ _ hj, Below.heap_setCell _ _ _ _ hj, Below.heap_setCell _ _ _ _ hj, Below.heap_setCell _ _ _ _ hj]
theorem skPut10_size (W : World) (B : Nat) (x : Sk) (p : SS) : (skPut10 W B x p).drew.heap.size = W.heap.size := by
  rw [drew_heap]
  unfold skPut10
  simp only [World.size_setCell]
theorem at_store {p : SS} {x : Sk} {n m B : Nat} {W W9 : World} {c : Array Value} {t : TypeId} {fz : Nat × Nat} (h : p.At n W x) (hB : W.heap[B]? = some (.cells c t fz)) (hc : ∀ (i : Nat) (n : Int), c[i]? = some (Value.int .u64 n) → False) (hk : ∀ j, j ≠ B → W9.heap[j]? = W.heap[j]?) (hm : n ≤ m) : p.At m W9 x := by
  have hu : ∀ {a len cap} {l : List Int}, SlC encU 1 n W a len cap l → SlC encU 1 n W9 a len cap l := fun hs => ⟨⟨hs.1.1, fun j y hy => by
    obtain ⟨b, off, ea, hb, hcell⟩ := hs.1.2 j y hy
    have hne : b ≠ B := by
      rintro rfl
      have h0 := hcell 0 (by omega)
      rw [cCc hB] at h0
      exact hc _ _ h0
    exact ⟨b, off, ea, hb, fun i hi => (World.cell?_of_block (hk b hne)).trans (hcell i hi)⟩⟩, hs.2⟩
  have hb : ∀ {a len cap} {l : List (Int × Int)}, SlC encB 2 n W a len cap l → SlC encB 2 n W9 a len cap l := fun hs => ⟨⟨hs.1.1, fun j y hy => by
    obtain ⟨b, off, ea, hb, hcell⟩ := hs.1.2 j y hy
    have hne : b ≠ B := by
      rintro rfl
      have h0 := hcell 1 (by omega)
      rw [cCc hB] at h0
      exact hc _ _ h0
    exact ⟨b, off, ea, hb, fun i hi => (World.cell?_of_block (hk b hne)).trans (hcell i hi)⟩⟩, hs.2⟩
  exact ⟨(hu h.e).mono hm, (hu h.c).mono hm, (hb h.g).mono hm⟩
theorem zero_no_u64 (i : Nat) (n : Int) (h : (#[.int .i64 0, .int .i64 0, .slice none 0 0, .int .i64 0, .string ⟨#[]⟩, .int .i64 0, .int .i64 0, .slice none 0 0, .int .i64 0, .slice none 0 0] : Array Value)[i]? = some (Value.int .u64 n)) : False := by
  have h1 := Array.mem_of_getElem? h
  simp at h1
theorem dec_ret {w W9 : World} {tm : Array Value} {x : Sk} {p : SS} {q : ByteArray} {no : Int} {R : Ending → World → Prop} (hx : W9.heap[w.heap.size]? = some (.cells #[.int .i64 x.kind, .int .i64 x.level, .slice p.ea p.el p.ec, .int .i64 x.hb, .string x.hr, .int .i64 x.cr, .int .i64 x.cc, .slice p.ca p.cl p.cc, .int .i64 x.gf, .slice p.ga p.gl p.gc] 33 (0, 0))) (t2 : tm[2]?.getD undef = .pointer (some ⟨w.heap.size, 0, none⟩)) (t3 : tm[3]?.getD undef = .string q) (t4 : tm[4]?.getD undef = .int .i64 no)
    (h : R (.returned (.tuple #[skVal x p, .string q, .int .i64 no])) W9) : bodyPost Tryz.prog Tryz.f39 R Exit.ret { tmps := tm, defers := [] } W9 := by
  have k0 : W9.cell? ⟨w.heap.size, 0, none⟩ = some (.int .i64 x.kind) := cCc hx 0
  have k1 : W9.cell? ⟨w.heap.size, 1, none⟩ = some (.int .i64 x.level) := cCc hx 1
  have k2 : W9.cell? ⟨w.heap.size, 2, none⟩ = some (.slice p.ea p.el p.ec) := cCc hx 2
  have k3 : W9.cell? ⟨w.heap.size, 3, none⟩ = some (.int .i64 x.hb) := cCc hx 3
  have k4 : W9.cell? ⟨w.heap.size, 4, none⟩ = some (.string x.hr) := cCc hx 4
  have k5 : W9.cell? ⟨w.heap.size, 5, none⟩ = some (.int .i64 x.cr) := cCc hx 5
  have k6 : W9.cell? ⟨w.heap.size, 6, none⟩ = some (.int .i64 x.cc) := cCc hx 6
  have k7 : W9.cell? ⟨w.heap.size, 7, none⟩ = some (.slice p.ca p.cl p.cc) := cCc hx 7
  have k8 : W9.cell? ⟨w.heap.size, 8, none⟩ = some (.int .i64 x.gf) := cCc hx 8
  have k9 : W9.cell? ⟨w.heap.size, 9, none⟩ = some (.slice p.ga p.gl p.gc) := cCc hx 9
  unfold skVal at h
  exact bodyPost_ret (v := .tuple #[.agg #[.int .i64 x.kind, .int .i64 x.level, .slice p.ea p.el p.ec, .int .i64 x.hb, .string x.hr, .int .i64 x.cr, .int .i64 x.cc, .slice p.ca p.cl p.cc, .int .i64 x.gf, .slice p.ga p.gl p.gc], .string q, .int .i64 no]) (by simp [results, Tryz.f39, go_sem, t2, t3, t4, k0, k1, k2, k3, k4, k5, k6, k7, k8, k9]) rfl h
set_option maxRecDepth 100000 in
set_option maxHeartbeats 2000000 in
theorem is_nil (a : Addr) (w : World) :
    Calls Tryz.prog 105 #[.nilIface, errV a] w fun e w' => e = .returned (.bool false) ∧ w' = w := by
  have hq : ∀ w, (binOp BinOp.eql 90 .nilIface (errV a)).run Tryz.prog w = .ok (.bool false) w := fun w => by kernel_rfl
  go_enter Tryz.func105, Tryz.ntmps105
  go_wp2
  go_ret
  exact ⟨rfl, rfl⟩
set_option maxRecDepth 100000 in
set_option maxHeartbeats 1000000 in
theorem Decode_any (s : ByteArray) (fm ff cm cc : Addr) (w : World) (hl : s.size < 4294967281) (hE : GE fm ff cm cc w) :
    Calls Tryz.prog 39 #[.string s] w (DecPost s w (decB s.data.toList)) := by
  obtain ⟨W0, hW0, hXr, hX0, hB0, hs0⟩ := boxes2 w #[.int .i64 0, .int .i64 0, .slice none 0 0, .int .i64 0, .string ⟨#[]⟩, .int .i64 0, .int .i64 0, .slice none 0 0, .int .i64 0, .slice none 0 0] 33 #[.string s, .int .i64 0, .int .i64 0, .slice none 0 0, .int .i64 0, .string ⟨#[]⟩, .int .i64 0, .int .i64 0, .slice none 0 0, .int .i64 0, .slice none 0 0] 142
  have hS := rsketch_any (w.heap.size + 1) s fm ff cm cc W0 hX0 hl (fun w' hb => hE.below (hB0.trans (hb.mono (Nat.le_succ _)))) (Nat.le_succ_of_le hE.lt)
  have HE : Hid (∀ w', Below w.heap.size w w' → GE fm ff cm cc w') := fun w' hb => hE.below hb
  have HXr : Hid (∀ w1, Below (w.heap.size + 1) W0 w1 → Below w.heap.size w w1 ∧ w1.heap[w.heap.size]? = some (.cells #[.int .i64 0, .int .i64 0, .slice none 0 0, .int .i64 0, .string ⟨#[]⟩, .int .i64 0, .int .i64 0, .slice none 0 0, .int .i64 0, .slice none 0 0] 33 (0, 0))) := fun w1 hb => ⟨hB0.trans (hb.mono (Nat.le_succ _)), (hb.block _ (Nat.lt_succ_self _)).trans hXr⟩
  clear hX0 hXr hs0
  unfold decB
  cases hd : skDec s.data.toList with
  | more =>
    rw [hd] at hS
    unfold RdPost at hS
    simp only at hS ⊢
    clear hE hd
    go_enter Tryz.func39, Tryz.ntmps39
    go_wp2_with (first | (go_at_call 104; refine hS.mono ?_; rintro e w1 ⟨hb1, rfl⟩; obtain ⟨hB1, hx1⟩ := HXr.out w1 hb1; have g1 := (HE.out w1 hB1).ecm; have d0 : w1.cell? ⟨w.heap.size, 0, none⟩ = some (.int .i64 0) := cCc hx1 0; have f0 : w1.frozen? ⟨w.heap.size, 0, none⟩ = false := cFz hx1 0; have d1 : w1.cell? ⟨w.heap.size, 1, none⟩ = some (.int .i64 0) := cCc hx1 1; have f1 : w1.frozen? ⟨w.heap.size, 1, none⟩ = false := cFz hx1 1; have d2 : w1.cell? ⟨w.heap.size, 2, none⟩ = some (.slice none 0 0) := cCc hx1 2; have f2 : w1.frozen? ⟨w.heap.size, 2, none⟩ = false := cFz hx1 2; have d3 : w1.cell? ⟨w.heap.size, 3, none⟩ = some (.int .i64 0) := cCc hx1 3; have f3 : w1.frozen? ⟨w.heap.size, 3, none⟩ = false := cFz hx1 3; have d4 : w1.cell? ⟨w.heap.size, 4, none⟩ = some (.string ⟨#[]⟩) := cCc hx1 4; have f4 : w1.frozen? ⟨w.heap.size, 4, none⟩ = false := cFz hx1 4; have d5 : w1.cell? ⟨w.heap.size, 5, none⟩ = some (.int .i64 0) := cCc hx1 5; have f5 : w1.frozen? ⟨w.heap.size, 5, none⟩ = false := cFz hx1 5; have d6 : w1.cell? ⟨w.heap.size, 6, none⟩ = some (.int .i64 0) := cCc hx1 6; have f6 : w1.frozen? ⟨w.heap.size, 6, none⟩ = false := cFz hx1 6; have d7 : w1.cell? ⟨w.heap.size, 7, none⟩ = some (.slice none 0 0) := cCc hx1 7; have f7 : w1.frozen? ⟨w.heap.size, 7, none⟩ = false := cFz hx1 7; have d8 : w1.cell? ⟨w.heap.size, 8, none⟩ = some (.int .i64 0) := cCc hx1 8; have f8 : w1.frozen? ⟨w.heap.size, 8, none⟩ = false := cFz hx1 8; have d9 : w1.cell? ⟨w.heap.size, 9, none⟩ = some (.slice none 0 0) := cCc hx1 9; have f9 : w1.frozen? ⟨w.heap.size, 9, none⟩ = false := cFz hx1 9) | (go_at_call 105; refine (is_same cm w1).mono ?_; rintro e w' ⟨rfl, h9⟩; obtain rfl : w1 = w' := h9.symm))
    change bodyPost _ _ _ _ _ (skPut10 w1 w.heap.size (skNum 0 0 []) ⟨none, 0, 0, none, 0, 0, none, 0, 0⟩)
    refine dec_ret (skPut10_spec _ _ hx1) rfl rfl rfl ?_
    exact ⟨skPut10_below _ _ hB1 (Nat.le_refl _), rfl⟩
  | code =>
    rw [hd] at hS
    unfold RdPost at hS
    simp only at hS ⊢
    have HI : Hid (∀ w1, Below w.heap.size w w1 → Calls Tryz.prog 105 #[errV cc, errV cm] w1 fun e w' => e = .returned (.bool false) ∧ w' = w1) := fun w1 hb => by
      have hE1 := hE.below hb
      obtain ⟨c1, t1, h1⟩ := hE1.hcm
      obtain ⟨c2, t2, h2⟩ := hE1.hcc
      exact is_other cc cm c2 c1 t2 t1 w1 hE1.nc h2 h1
    clear hE hd
    go_enter Tryz.func39, Tryz.ntmps39
    go_wp2_with (first | (go_at_call 104; refine hS.mono ?_; rintro e w1 ⟨hb1, rfl⟩; obtain ⟨hB1, hx1⟩ := HXr.out w1 hb1; have g1 := (HE.out w1 hB1).ecm; have d0 : w1.cell? ⟨w.heap.size, 0, none⟩ = some (.int .i64 0) := cCc hx1 0; have f0 : w1.frozen? ⟨w.heap.size, 0, none⟩ = false := cFz hx1 0; have d1 : w1.cell? ⟨w.heap.size, 1, none⟩ = some (.int .i64 0) := cCc hx1 1; have f1 : w1.frozen? ⟨w.heap.size, 1, none⟩ = false := cFz hx1 1; have d2 : w1.cell? ⟨w.heap.size, 2, none⟩ = some (.slice none 0 0) := cCc hx1 2; have f2 : w1.frozen? ⟨w.heap.size, 2, none⟩ = false := cFz hx1 2; have d3 : w1.cell? ⟨w.heap.size, 3, none⟩ = some (.int .i64 0) := cCc hx1 3; have f3 : w1.frozen? ⟨w.heap.size, 3, none⟩ = false := cFz hx1 3; have d4 : w1.cell? ⟨w.heap.size, 4, none⟩ = some (.string ⟨#[]⟩) := cCc hx1 4; have f4 : w1.frozen? ⟨w.heap.size, 4, none⟩ = false := cFz hx1 4; have d5 : w1.cell? ⟨w.heap.size, 5, none⟩ = some (.int .i64 0) := cCc hx1 5; have f5 : w1.frozen? ⟨w.heap.size, 5, none⟩ = false := cFz hx1 5; have d6 : w1.cell? ⟨w.heap.size, 6, none⟩ = some (.int .i64 0) := cCc hx1 6; have f6 : w1.frozen? ⟨w.heap.size, 6, none⟩ = false := cFz hx1 6; have d7 : w1.cell? ⟨w.heap.size, 7, none⟩ = some (.slice none 0 0) := cCc hx1 7; have f7 : w1.frozen? ⟨w.heap.size, 7, none⟩ = false := cFz hx1 7; have d8 : w1.cell? ⟨w.heap.size, 8, none⟩ = some (.int .i64 0) := cCc hx1 8; have f8 : w1.frozen? ⟨w.heap.size, 8, none⟩ = false := cFz hx1 8; have d9 : w1.cell? ⟨w.heap.size, 9, none⟩ = some (.slice none 0 0) := cCc hx1 9; have f9 : w1.frozen? ⟨w.heap.size, 9, none⟩ = false := cFz hx1 9) | (go_at_call 105; refine (HI.out w1 hB1).mono ?_; rintro e w' ⟨rfl, h9⟩; obtain rfl : w1 = w' := h9.symm))
    change bodyPost _ _ _ _ _ (skPut10 w1 w.heap.size (skNum 0 0 []) ⟨none, 0, 0, none, 0, 0, none, 0, 0⟩)
    refine dec_ret (skPut10_spec _ _ hx1) rfl rfl rfl ?_
    exact ⟨skPut10_below _ _ hB1 (Nat.le_refl _), rfl⟩
  | got x r =>
    rw [hd] at hS
    unfold RdPost at hS
    simp only at hS ⊢
    obtain ⟨hnum, hfew, -⟩ := skDec_inv hd
    have hfit : x.fit := fun b hb => (hnum.g b hb).1.2
    have HI : Hid (∀ w1, Calls Tryz.prog 105 #[.nilIface, errV cm] w1 fun e w' => e = .returned (.bool false) ∧ w' = w1) := fun w1 => is_nil cm w1
    have HR : Hid (∀ w1 (p : SS), p.At w1.heap.size w1 x → Calls Tryz.prog 29 #[.agg #[.int .i64 x.kind, .int .i64 x.level, .slice p.ea p.el p.ec, .int .i64 x.hb, .string x.hr, .int .i64 x.cr, .int .i64 x.cc, .slice p.ca p.cl p.cc, .int .i64 x.gf, .slice p.ga p.gl p.gc]] w1 fun e w' => e = .returned (.bool (skOk x)) ∧ Below w1.heap.size w1 w') := fun w1 p hp => ladder_Right_any x p w1 hp ⟨by rw [hp.e.1.1]; have := hfew.e; omega, by rw [hp.c.1.1]; have := hfew.c; omega, by rw [hp.g.1.1]; have := hfew.g; omega⟩ hfit
    clear hE hd
    cases hok : skOk x with
    | true =>
      rw [hok] at HR
      go_enter Tryz.func39, Tryz.ntmps39
      go_wp2_with (first | (go_at_call 104; refine hS.mono ?_; rintro e w1 ⟨hb1, rfl, p, hX1, hA⟩; obtain ⟨hB1, hx1⟩ := HXr.out w1 hb1; have g1 := (HE.out w1 hB1).ecm; have hR := HR.out w1 p hA; have q0 : w1.cell? ⟨w.heap.size + 1, 0, none⟩ = some (.string ⟨r.toArray⟩) := cCc hX1 0; have q1 : w1.cell? ⟨w.heap.size + 1, 1, none⟩ = some (.int .i64 x.kind) := cCc hX1 1; have q2 : w1.cell? ⟨w.heap.size + 1, 2, none⟩ = some (.int .i64 x.level) := cCc hX1 2; have q3 : w1.cell? ⟨w.heap.size + 1, 3, none⟩ = some (.slice p.ea p.el p.ec) := cCc hX1 3; have q4 : w1.cell? ⟨w.heap.size + 1, 4, none⟩ = some (.int .i64 x.hb) := cCc hX1 4; have q5 : w1.cell? ⟨w.heap.size + 1, 5, none⟩ = some (.string x.hr) := cCc hX1 5; have q6 : w1.cell? ⟨w.heap.size + 1, 6, none⟩ = some (.int .i64 x.cr) := cCc hX1 6; have q7 : w1.cell? ⟨w.heap.size + 1, 7, none⟩ = some (.int .i64 x.cc) := cCc hX1 7; have q8 : w1.cell? ⟨w.heap.size + 1, 8, none⟩ = some (.slice p.ca p.cl p.cc) := cCc hX1 8; have q9 : w1.cell? ⟨w.heap.size + 1, 9, none⟩ = some (.int .i64 x.gf) := cCc hX1 9; have q10 : w1.cell? ⟨w.heap.size + 1, 10, none⟩ = some (.slice p.ga p.gl p.gc) := cCc hX1 10) | (go_at_call 105; refine (HI.out w1).mono ?_; rintro e w' ⟨rfl, h9⟩; obtain rfl : w1 = w' := h9.symm) | (go_at_call 29; refine hR.mono ?_; rintro e w2 ⟨rfl, hb2⟩; clear hR; have hX2 := known hb2 (Nat.le_refl _) hX1; have hx2 := known hb2 (Nat.le_refl _) hx1; clear q0 q1 q2 q3 q4 q5 q6 q7 q8 q9 q10; have s0 : w2.cell? ⟨w.heap.size + 1, 0, none⟩ = some (.string ⟨r.toArray⟩) := cCc hX2 0; have s1 : w2.cell? ⟨w.heap.size + 1, 1, none⟩ = some (.int .i64 x.kind) := cCc hX2 1; have s2 : w2.cell? ⟨w.heap.size + 1, 2, none⟩ = some (.int .i64 x.level) := cCc hX2 2; have s3 : w2.cell? ⟨w.heap.size + 1, 3, none⟩ = some (.slice p.ea p.el p.ec) := cCc hX2 3; have s4 : w2.cell? ⟨w.heap.size + 1, 4, none⟩ = some (.int .i64 x.hb) := cCc hX2 4; have s5 : w2.cell? ⟨w.heap.size + 1, 5, none⟩ = some (.string x.hr) := cCc hX2 5; have s6 : w2.cell? ⟨w.heap.size + 1, 6, none⟩ = some (.int .i64 x.cr) := cCc hX2 6; have s7 : w2.cell? ⟨w.heap.size + 1, 7, none⟩ = some (.int .i64 x.cc) := cCc hX2 7; have s8 : w2.cell? ⟨w.heap.size + 1, 8, none⟩ = some (.slice p.ca p.cl p.cc) := cCc hX2 8; have s9 : w2.cell? ⟨w.heap.size + 1, 9, none⟩ = some (.int .i64 x.gf) := cCc hX2 9; have s10 : w2.cell? ⟨w.heap.size + 1, 10, none⟩ = some (.slice p.ga p.gl p.gc) := cCc hX2 10; have d0 : w2.cell? ⟨w.heap.size, 0, none⟩ = some (.int .i64 0) := cCc hx2 0; have f0 : w2.frozen? ⟨w.heap.size, 0, none⟩ = false := cFz hx2 0; have d1 : w2.cell? ⟨w.heap.size, 1, none⟩ = some (.int .i64 0) := cCc hx2 1; have f1 : w2.frozen? ⟨w.heap.size, 1, none⟩ = false := cFz hx2 1; have d2 : w2.cell? ⟨w.heap.size, 2, none⟩ = some (.slice none 0 0) := cCc hx2 2; have f2 : w2.frozen? ⟨w.heap.size, 2, none⟩ = false := cFz hx2 2; have d3 : w2.cell? ⟨w.heap.size, 3, none⟩ = some (.int .i64 0) := cCc hx2 3; have f3 : w2.frozen? ⟨w.heap.size, 3, none⟩ = false := cFz hx2 3; have d4 : w2.cell? ⟨w.heap.size, 4, none⟩ = some (.string ⟨#[]⟩) := cCc hx2 4; have f4 : w2.frozen? ⟨w.heap.size, 4, none⟩ = false := cFz hx2 4; have d5 : w2.cell? ⟨w.heap.size, 5, none⟩ = some (.int .i64 0) := cCc hx2 5; have f5 : w2.frozen? ⟨w.heap.size, 5, none⟩ = false := cFz hx2 5; have d6 : w2.cell? ⟨w.heap.size, 6, none⟩ = some (.int .i64 0) := cCc hx2 6; have f6 : w2.frozen? ⟨w.heap.size, 6, none⟩ = false := cFz hx2 6; have d7 : w2.cell? ⟨w.heap.size, 7, none⟩ = some (.slice none 0 0) := cCc hx2 7; have f7 : w2.frozen? ⟨w.heap.size, 7, none⟩ = false := cFz hx2 7; have d8 : w2.cell? ⟨w.heap.size, 8, none⟩ = some (.int .i64 0) := cCc hx2 8; have f8 : w2.frozen? ⟨w.heap.size, 8, none⟩ = false := cFz hx2 8; have d9 : w2.cell? ⟨w.heap.size, 9, none⟩ = some (.slice none 0 0) := cCc hx2 9; have f9 : w2.frozen? ⟨w.heap.size, 9, none⟩ = false := cFz hx2 9))
      go_region
      go_wp2_with fail
      change bodyPost _ _ _ _ _ (skPut10 w2 w.heap.size x p).drew
      have hx9 : (skPut10 w2 w.heap.size x p).drew.heap[w.heap.size]? = some (.cells #[.int .i64 x.kind, .int .i64 x.level, .slice p.ea p.el p.ec, .int .i64 x.hb, .string x.hr, .int .i64 x.cr, .int .i64 x.cc, .slice p.ca p.cl p.cc, .int .i64 x.gf, .slice p.ga p.gl p.gc] 33 (0, 0)) := by rw [drew_heap]; exact skPut10_spec x p hx2
      have hB9 : Below w.heap.size w (skPut10 w2 w.heap.size x p).drew := (skPut10_below x p (hB1.trans (hb2.mono hB1.size)) (Nat.le_refl _)).drew
      have hA9 : p.At (skPut10 w2 w.heap.size x p).drew.heap.size (skPut10 w2 w.heap.size x p).drew x := at_store (hA.go hb2) hx2 zero_no_u64 (skPut10_other _ _) (Nat.le_of_eq (skPut10_size _ _ _ _).symm)
      clear hX2 hx2
      generalize (skPut10 w2 w.heap.size x p).drew = W9 at hx9 hB9 hA9 ⊢
      refine dec_ret hx9 rfl rfl rfl ?_
      exact ⟨hB9, p, rfl, hA9⟩
    | false =>
      rw [hok] at HR
      go_enter Tryz.func39, Tryz.ntmps39
      go_wp2_with (first | (go_at_call 104; refine hS.mono ?_; rintro e w1 ⟨hb1, rfl, p, hX1, hA⟩; obtain ⟨hB1, hx1⟩ := HXr.out w1 hb1; have g1 := (HE.out w1 hB1).ecm; have hR := HR.out w1 p hA; have q0 : w1.cell? ⟨w.heap.size + 1, 0, none⟩ = some (.string ⟨r.toArray⟩) := cCc hX1 0; have q1 : w1.cell? ⟨w.heap.size + 1, 1, none⟩ = some (.int .i64 x.kind) := cCc hX1 1; have q2 : w1.cell? ⟨w.heap.size + 1, 2, none⟩ = some (.int .i64 x.level) := cCc hX1 2; have q3 : w1.cell? ⟨w.heap.size + 1, 3, none⟩ = some (.slice p.ea p.el p.ec) := cCc hX1 3; have q4 : w1.cell? ⟨w.heap.size + 1, 4, none⟩ = some (.int .i64 x.hb) := cCc hX1 4; have q5 : w1.cell? ⟨w.heap.size + 1, 5, none⟩ = some (.string x.hr) := cCc hX1 5; have q6 : w1.cell? ⟨w.heap.size + 1, 6, none⟩ = some (.int .i64 x.cr) := cCc hX1 6; have q7 : w1.cell? ⟨w.heap.size + 1, 7, none⟩ = some (.int .i64 x.cc) := cCc hX1 7; have q8 : w1.cell? ⟨w.heap.size + 1, 8, none⟩ = some (.slice p.ca p.cl p.cc) := cCc hX1 8; have q9 : w1.cell? ⟨w.heap.size + 1, 9, none⟩ = some (.int .i64 x.gf) := cCc hX1 9; have q10 : w1.cell? ⟨w.heap.size + 1, 10, none⟩ = some (.slice p.ga p.gl p.gc) := cCc hX1 10) | (go_at_call 105; refine (HI.out w1).mono ?_; rintro e w' ⟨rfl, h9⟩; obtain rfl : w1 = w' := h9.symm) | (go_at_call 29; refine hR.mono ?_; rintro e w2 ⟨rfl, hb2⟩; clear hR; have hX2 := known hb2 (Nat.le_refl _) hX1; have hx2 := known hb2 (Nat.le_refl _) hx1; clear q0 q1 q2 q3 q4 q5 q6 q7 q8 q9 q10; have d0 : w2.cell? ⟨w.heap.size, 0, none⟩ = some (.int .i64 0) := cCc hx2 0; have f0 : w2.frozen? ⟨w.heap.size, 0, none⟩ = false := cFz hx2 0; have d1 : w2.cell? ⟨w.heap.size, 1, none⟩ = some (.int .i64 0) := cCc hx2 1; have f1 : w2.frozen? ⟨w.heap.size, 1, none⟩ = false := cFz hx2 1; have d2 : w2.cell? ⟨w.heap.size, 2, none⟩ = some (.slice none 0 0) := cCc hx2 2; have f2 : w2.frozen? ⟨w.heap.size, 2, none⟩ = false := cFz hx2 2; have d3 : w2.cell? ⟨w.heap.size, 3, none⟩ = some (.int .i64 0) := cCc hx2 3; have f3 : w2.frozen? ⟨w.heap.size, 3, none⟩ = false := cFz hx2 3; have d4 : w2.cell? ⟨w.heap.size, 4, none⟩ = some (.string ⟨#[]⟩) := cCc hx2 4; have f4 : w2.frozen? ⟨w.heap.size, 4, none⟩ = false := cFz hx2 4; have d5 : w2.cell? ⟨w.heap.size, 5, none⟩ = some (.int .i64 0) := cCc hx2 5; have f5 : w2.frozen? ⟨w.heap.size, 5, none⟩ = false := cFz hx2 5; have d6 : w2.cell? ⟨w.heap.size, 6, none⟩ = some (.int .i64 0) := cCc hx2 6; have f6 : w2.frozen? ⟨w.heap.size, 6, none⟩ = false := cFz hx2 6; have d7 : w2.cell? ⟨w.heap.size, 7, none⟩ = some (.slice none 0 0) := cCc hx2 7; have f7 : w2.frozen? ⟨w.heap.size, 7, none⟩ = false := cFz hx2 7; have d8 : w2.cell? ⟨w.heap.size, 8, none⟩ = some (.int .i64 0) := cCc hx2 8; have f8 : w2.frozen? ⟨w.heap.size, 8, none⟩ = false := cFz hx2 8; have d9 : w2.cell? ⟨w.heap.size, 9, none⟩ = some (.slice none 0 0) := cCc hx2 9; have f9 : w2.frozen? ⟨w.heap.size, 9, none⟩ = false := cFz hx2 9))
      change bodyPost _ _ _ _ _ (skPut10 w2 w.heap.size (skNum 0 0 []) ⟨none, 0, 0, none, 0, 0, none, 0, 0⟩)
      refine dec_ret (skPut10_spec _ _ hx2) rfl rfl rfl ?_
      exact ⟨skPut10_below _ _ (hB1.trans (hb2.mono hB1.size)) (Nat.le_refl _), rfl⟩
end Go.Proofs.YtpnlmfilmbodfaaGreatDoor
namespace Go.Proofs.YtpnlmfilmbodfaaGreatDoor
open Go Go.RowKit Go.Shelf
abbrev noSS : SS := ⟨none, 0, 0, none, 0, 0, none, 0, 0⟩
theorem Decode_code (s : ByteArray) (fm ff cm cc : Addr) (w : World) (hl : s.size < 4294967281) (hE : GE fm ff cm cc w) (hd : decB s.data.toList = .code) :
    Calls Tryz.prog 39 #[.string s] w fun e w' => e = .returned (.tuple #[skVal (skNum 0 0 []) noSS, .string s, .int .i64 110]) ∧ Below w.heap.size w w' :=
  (Decode_any s fm ff cm cc w hl hE).mono fun e w' h => by rw [hd] at h; exact ⟨h.2, h.1⟩
theorem Decode_more (s : ByteArray) (fm ff cm cc : Addr) (w : World) (hl : s.size < 4294967281) (hE : GE fm ff cm cc w) (hd : decB s.data.toList = .more) :
    Calls Tryz.prog 39 #[.string s] w fun e w' => e = .returned (.tuple #[skVal (skNum 0 0 []) noSS, .string s, .int .i64 20]) ∧ Below w.heap.size w w' :=
  (Decode_any s fm ff cm cc w hl hE).mono fun e w' h => by rw [hd] at h; exact ⟨h.2, h.1⟩
theorem Decode_got (s : ByteArray) (x : Sk) (r : List UInt8) (fm ff cm cc : Addr) (w : World) (hl : s.size < 4294967281) (hE : GE fm ff cm cc w) (hd : decB s.data.toList = .got x r) :
    Calls Tryz.prog 39 #[.string s] w fun e w' => ∃ p : SS, e = .returned (.tuple #[skVal x p, .string ⟨r.toArray⟩, .int .i64 0]) ∧ p.At w'.heap.size w' x ∧ Below w.heap.size w w' :=
  (Decode_any s fm ff cm cc w hl hE).mono fun e w' h => by rw [hd] at h; obtain ⟨h1, p, h2, h3⟩ := h; exact ⟨p, h2, h3, h1⟩
theorem skPut10_oth {W : World} {B : Nat} (x : Sk) (p : SS) : ∀ j, j ≠ B → (skPut10 W B x p).heap[j]? = W.heap[j]? := fun j hj => by
  have h := skPut10_other (W := W) x p j hj
  rw [drew_heap] at h
  exact h
theorem skPut10_siz (W : World) (B : Nat) (x : Sk) (p : SS) : (skPut10 W B x p).heap.size = W.heap.size := by
  have h := skPut10_size W B x p
  rw [drew_heap] at h
  exact h
def skShown : Sk := skNum 1 0 [3, 300]
theorem shown_enc : encS skShown = ⟨#[1, 0, 2, 3, 241, 57]⟩ := by kernel_rfl
theorem shown_ok : encE skShown = 0 := by kernel_rfl
theorem shown_code : decB [4] = .code := by kernel_rfl
theorem shown_more : decB [1, 0, 2] = .more := by kernel_rfl
set_option maxRecDepth 100000 in
set_option maxHeartbeats 4000000 in
theorem shown11_any (fm ff cm cc : Addr) (w : World) (hE : GE fm ff cm cc w) :
    Calls Tryz.prog 37 #[] w fun e w' => e = .returned (.bool true) ∧ Below w.heap.size w w' := by
  have HD1 : Hid (∀ w1, Below w.heap.size w w1 → Calls Tryz.prog 39 #[.string ⟨#[4]⟩] w1 fun e w' => e = .returned (.tuple #[.agg #[.int .i64 0, .int .i64 0, .slice none 0 0, .int .i64 0, .string ⟨#[]⟩, .int .i64 0, .int .i64 0, .slice none 0 0, .int .i64 0, .slice none 0 0], .string ⟨#[4]⟩, .int .i64 110]) ∧ Below w1.heap.size w1 w') := fun w1 hb => Decode_code ⟨#[4]⟩ fm ff cm cc w1 (by decide) (hE.below hb) shown_code
  have HD2 : Hid (∀ w1, Below w.heap.size w w1 → Calls Tryz.prog 39 #[.string ⟨#[1, 0, 2]⟩] w1 fun e w' => e = .returned (.tuple #[.agg #[.int .i64 0, .int .i64 0, .slice none 0 0, .int .i64 0, .string ⟨#[]⟩, .int .i64 0, .int .i64 0, .slice none 0 0, .int .i64 0, .slice none 0 0], .string ⟨#[1, 0, 2]⟩, .int .i64 20]) ∧ Below w1.heap.size w1 w') := fun w1 hb => Decode_more ⟨#[1, 0, 2]⟩ fm ff cm cc w1 (by decide) (hE.below hb) shown_more
  obtain ⟨W0, hW0, hX0, hX1, hB0, hs0⟩ := boxes2 w #[.int .u64 3, .int .u64 300] 43 #[.int .i64 1, .int .i64 0, .slice (some ⟨w.heap.size, 0, none⟩) 2 2, .int .i64 0, .string ⟨#[]⟩, .int .i64 0, .int .i64 0, .slice none 0 0, .int .i64 0, .slice none 0 0] 33
  have hS : SlC encU 1 W0.heap.size W0 (some ⟨w.heap.size, 0, none⟩) 2 2 [3, 300] := by
    refine ⟨⟨rfl, fun j z hz => ⟨w.heap.size, 0, rfl, by omega, fun i hi => ?_⟩⟩, by omega, by unfold maxLen; omega, (fun h => by cases h), fun x hx _ => by cases hx; exact ⟨rfl, by show w.heap.size < _; omega⟩⟩
    obtain rfl : i = 0 := by omega
    have hj := (List.getElem?_eq_some_iff.1 hz).1
    simp only [List.length_cons, List.length_nil] at hj
    rw [cCc hX0]
    rcases (show j = 0 ∨ j = 1 by omega) with rfl | rfl
    · obtain rfl : 3 = z := by simpa using hz
      rfl
    · obtain rfl : 300 = z := by simpa using hz
      rfl
  have HW0 := Lib.hid hW0
  have hEn := Encode_any skShown ⟨some ⟨w.heap.size, 0, none⟩, 2, 2, none, 0, 0, none, 0, 0⟩ W0 ⟨hS, SlC.nil, SlC.nil⟩ ⟨by show 2 < _; omega, by show 0 < _; omega, by show 0 < _; omega⟩ (fun b hb => by cases hb) ⟨(fun n hn => by simp only [skShown, skNum, List.mem_cons, List.not_mem_nil, or_false] at hn; rcases hn with rfl | rfl <;> exact ⟨by decide, by decide⟩), (fun n hn => by cases hn), (fun n hn => by cases hn)⟩ ⟨by decide, by decide, by decide, by decide⟩
  rw [shown_enc, shown_ok] at hEn
  have hEn2 : Calls Tryz.prog 38 #[.agg #[.int .i64 1, .int .i64 0, .slice (some ⟨w.heap.size, 0, none⟩) 2 2, .int .i64 0, .string ⟨#[]⟩, .int .i64 0, .int .i64 0, .slice none 0 0, .int .i64 0, .slice none 0 0]] W0 fun e w' => e = .returned (.tuple #[.string ⟨#[1, 0, 2, 3, 241, 57]⟩, .int .i64 0]) ∧ Below W0.heap.size W0 w' := hEn
  clear hE hX0 hX1 hS hs0 hEn hW0
  go_enter Tryz.func37, Tryz.ntmps37
  go_wp2_with fail
  rw [HW0.out]
  refine hEn2.mono ?_
  rintro e w1 ⟨rfl, hb1⟩
  have hB1 := hB0.trans (hb1.mono hB0.size)
  go_wp2_with fail
  refine (HD1.out w1 hB1).mono ?_
  rintro e w2 ⟨rfl, hb2⟩
  have hB2 := hB1.trans (hb2.mono hB1.size)
  go_wp2_with fail
  refine (HD2.out _ (hB2.alloc hB2.size _)).mono ?_
  rintro e w3 ⟨rfl, hb3⟩
  have hB3 := (hB2.alloc hB2.size _).trans (hb3.mono (hB2.alloc hB2.size _).size)
  go_wp2_with fail
  go_ret
  exact ⟨rfl, hB3.alloc hB3.size _⟩
end Go.Proofs.YtpnlmfilmbodfaaGreatDoor
namespace Go.Proofs.YtpnlmfilmbodfaaGreatDoor
open Go Go.RowKit Go.Shelf
structure Fine (y : Sk) : Prop where
  num : y.num
  few : y.few
  fit : y.fit
theorem Sk.arg.cut {x : Sk} (h : x.arg) : Fine x.cut := by
  refine ⟨⟨fun n hn => h.e n (List.mem_of_mem_take hn), fun n hn => h.c n (List.mem_of_mem_take hn), fun z hz => h.g z (List.mem_of_mem_take hz)⟩, ⟨?_, ?_, ?_, ?_⟩, fun b hb => (h.g b (List.mem_of_mem_take hb)).1.2⟩
  · simp only [Sk.cut, List.length_take]; omega
  · simp only [Sk.cut, List.length_take]; omega
  · simp only [Sk.cut, List.length_take]; omega
  · simp only [Sk.cut]
    show (cutN ((260 : Nat) : Int) x.hr).size ≤ 1000
    rw [cutN_size]; omega
theorem Fine.short {y : Sk} (h : Fine y) {p : SS} {n : Nat} {w : World} (hp : p.At n w y) : p.Short := ⟨by rw [hp.e.1.1]; have := h.few.e; omega, by rw [hp.c.1.1]; have := h.few.c; omega, by rw [hp.g.1.1]; have := h.few.g; omega⟩
theorem no_u64s (x : Sk) (s : SS) (i : Nat) (n : Int) (h : (#[.int .i64 x.kind, .int .i64 x.level, .slice s.ea s.el s.ec, .int .i64 x.hb, .string x.hr, .int .i64 x.cr, .int .i64 x.cc, .slice s.ca s.cl s.cc, .int .i64 x.gf, .slice s.ga s.gl s.gc] : Array Value)[i]? = some (Value.int .u64 n)) : False := by
  have h1 := Array.mem_of_getElem? h
  simp at h1
theorem stored {w W : World} {B : Nat} {x y : Sk} {s t : SS} (hX : W.heap[B]? = some (.cells #[.int .i64 x.kind, .int .i64 x.level, .slice s.ea s.el s.ec, .int .i64 x.hb, .string x.hr, .int .i64 x.cr, .int .i64 x.cc, .slice s.ca s.cl s.cc, .int .i64 x.gf, .slice s.ga s.gl s.gc] 33 (0, 0))) (hA : t.At W.heap.size W y) (hB : Below w.heap.size w W) (hb : w.heap.size ≤ B) :
    (skPut10 W B y t).heap[B]? = some (.cells #[.int .i64 y.kind, .int .i64 y.level, .slice t.ea t.el t.ec, .int .i64 y.hb, .string y.hr, .int .i64 y.cr, .int .i64 y.cc, .slice t.ca t.cl t.cc, .int .i64 y.gf, .slice t.ga t.gl t.gc] 33 (0, 0)) ∧ t.At (skPut10 W B y t).heap.size (skPut10 W B y t) y ∧ Below w.heap.size w (skPut10 W B y t) ∧ (skPut10 W B y t).heap.size = W.heap.size :=
  ⟨skPut10_spec y t hX, at_store hA hX (no_u64s x s) (skPut10_oth _ _) (Nat.le_of_eq (skPut10_siz _ _ _ _).symm), skPut10_below _ _ hB hb, skPut10_siz _ _ _ _⟩
end Go.Proofs.YtpnlmfilmbodfaaGreatDoor

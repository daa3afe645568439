/- Package exact: gather. The law of a range over a function, for an iterator that reads some blocks; slices.Values at uint64 by it. Maps whose keys are integers written out: a new map that is filled, a look-up in it. Of no program. Package ladder: Same. Package ladder: the bodies of sketches: held.distinct, held.count, held.lie; kinds. Package ladder: held.count, held.lie; kinds. -/
import Derived.WideMake
import Derived.Test.YtcbbenncdainfaaGreatDoorYXB
namespace Go.Proofs.YtcbbenncdainfaaGreatDoor
open Go Go.RowKit Go.Shelf
attribute [local go_sem] Oper.semAt_some
theorem gm_len : ∀ (more l m : List Int), exGather l more = some m → l.length ≤ 64 → m.length ≤ 64
 | [], l, m, h, hl => by simp only [exGather, Option.some.injEq] at h; rw [← h]; exact hl
 | n :: r, l, m, h, hl => by
  simp only [exGather] at h
  split at h
  ·cases h
  ·exact gm_len r _ m h (by omega)
theorem gm_up : ∀ (more l m : List Int), exGather l more = some m → Up l → Up m
 | [], l, m, h, hl => by simp only [exGather, Option.some.injEq] at h; rw [← h]; exact hl
 | n :: r, l, m, h, hl => by
  simp only [exGather] at h
  split at h
  ·cases h
  ·exact gm_up r _ m h (by rw [exIns_eq l n hl]; exact insR_up l n hl)
theorem make_u64 (w : World) (len : Nat) (h : len ≤ 1000) : ∃ w1, (Instr.makeSlice 22 (.int .i64 (len : Int)) (.int .i64 (len : Int))).run Tryz.prog w = .ok (.slice (some ⟨w.heap.size, 0, none⟩) len len) w1 ∧ (∃ cur, w1.heap[w.heap.size]? = some (.cells cur 43 (0, 0)) ∧ cur.size = len) ∧ Below w.heap.size w w1 ∧ w1.heap.size = w.heap.size + 1 := by
 obtain ⟨i, hi, hz, hsize, hby⟩ := info_parts info_u64
 have hr := run_makeSlice (P := Tryz.prog) (w := w) 22 43 i _ und_u64 hi hz .i64 .i64 (len : Int) (len : Int) (by omega) (Int.le_refl _) (by rw [hsize]; omega) (by rw [hby]; omega) (by omega)
 rw [Int.toNat_natCast] at hr
 exact ⟨_, hr, ⟨_, World.alloc_heap_new _ _, by rw [size_madeCells, hsize]; simp⟩, (Below.refl _ w).alloc (Nat.le_refl _) _, by simp⟩
theorem cell_own {X Y : World} {row : Option Nat} {p : Addr} {v : Value} (hc : X.cell? p = some v) (hg : X.grownBy Y row) (hr : ∀ r, row = some r → ∃ o : Obj, X.heap[r]? = some o ∧ o.isCells = false) : Y.cell? p = some v := by
 have hlt := World.block_lt_of_cell? X _ hc
 refine (World.cell?_of_block (hg.block _ hlt (fun e => ?_))).trans hc
 obtain ⟨o, ho, h2⟩ := hr _ e.symm
 unfold World.cell? at hc
 rw [ho] at hc
 cases o <;> simp_all [Obj.isCells]
theorem ownSlC {C : Nat} {X Y : World} {row : Option Nat} {a : Option Addr} {len cap : Nat} {l : List Int} (hs : SlC encU 1 X.heap.size X a len cap l) (hg : X.grownBy Y row) (hr : ∀ r, row = some r → C ≤ r ∧ ∃ o : Obj, X.heap[r]? = some o ∧ o.isCells = false) : SlC encU 1 Y.heap.size Y a len cap l := by
 have h1 : SlC encU 1 X.heap.size Y a len cap l := ⟨⟨hs.1.1, fun j x hx => by
  obtain ⟨b, off, e, hb, hc⟩ := hs.1.2 j x hx
  refine ⟨b, off, e, hb, fun i hi => ?_⟩
  obtain rfl : i = 0 := by omega
  exact cell_own (hc 0 (by omega)) hg (fun r h => (hr r h).2)⟩, hs.2⟩
 exact h1.mono hg.size
def tooMany : ByteArray := ⟨#[116, 111, 111, 32, 109, 97, 110, 121, 32, 110, 117, 109, 98, 101, 114, 115]⟩
def GatherPost (l more : List Int) (w : World) (e : Ending) (w' : World) : Prop := Below w.heap.size w w' ∧ match exGather l more with
 | some m => ∃ a cap, e = .returned (.tuple #[.agg #[.slice a m.length cap], .nilIface]) ∧ SlC encU 1 w'.heap.size w' a m.length cap m ∧ (∀ x, a = some x → w.heap.size ≤ x.block)
 | none => e = .returned (.tuple #[.agg #[.slice none 0 0], .iface 219 (.agg #[.string tooMany])])
theorem wp_range_brk1 {α : Type} {P : Program} {g : Operand} {ps : Array Tmp} {assign body : Code} {Q : Exit → Act → World → Prop} {a : Act} {w : World} {id : Nat} (n₀ s1 : Nat) (v1 : α → Value)
  {gf : Nat} {lb : Array Value} (hg : a.eval g = .func (.func gf) #[] lb) (eg : ∀ args w, (callFunc gf args).run P w = .ok (.enter gf args) w)
  {encs : α → Array Value} {xs : List α} {N : Nat} {w0 : World} (hseq : SeqStopsK Fence.wide 8 P gf lb encs (Below n₀) (fun ys => ys = xs) (fun pre => pre <+: xs) N w0)
  (hn₀ : n₀ ≤ w.heap.size) (hb0 : Below w0.heap.size w0 w) (hps : ∀ x, (encs x).size = ps.size)
  (I Ib : List α → World → Prop) (hI : OwnFrom w.heap.size I) (hIb : OwnFrom w.heap.size Ib) (h0 : I [] w)
  (hassign : ∀ (l : Nat) (pre : List α) (x : α) (W : World) (K : Act → World → Prop), I pre W → (I pre W → K { tmps := ((ps.zip (encs x)).foldl (fun t (p, v) => t.setIfInBounds p v) a.tmps).setIfInBounds s1 (v1 x), defers := [] } W) →
   assign.wpIn (Fence.wide.inRound l) 7 P (Exit.then K (fun _ _ _ => False)) { tmps := (ps.zip (encs x)).foldl (fun t (p, v) => t.setIfInBounds p v) a.tmps, defers := [] } W)
  (hbody : ∀ (l : Nat) (pre : List α) (x : α) (W : World), I pre W → pre.length < N → body.wpIn (Fence.wide.inRound l) 7 P (ownPostG w.heap.size (Below n₀) I (fun c pre W => c = .exit id ∧ Ib pre W) (pre ++ [x]) W) { tmps := ((ps.zip (encs x)).foldl (fun t (p, v) => t.setIfInBounds p v) a.tmps).setIfInBounds s1 (v1 x), defers := [] } W)
  (hfin : ∀ (D : Nat) (W : World), w.heap.size ≤ D → (I xs W ∨ ∃ pre, pre <+: xs ∧ Ib pre W) → W.heap[D]? = some (.deferred (some [])) → Q .normal { a with defers := { target := .collected D, args := #[] } :: a.defers } W) :
  (Code.rangeFunc g ps assign body).wp P (Exit.inBlock id Q) a w :=
 wp_range_set s1 v1 hg eg hseq hn₀ hb0 hps I (fun c pre W => c = .exit id ∧ Ib pre W) hI (fun _ => (ownFrom_pure _ _).and hIb) h0 hassign hbody (fun D W hD hi hK => hfin D W hD (.inl hi) hK)
  (fun D c pre W hD hp hi hK => by obtain ⟨rfl, hi⟩ := hi; exact wp_exit (by show (if id = id then Q .normal _ _ else Q (.exit id) _ _); rw [if_pos rfl]; exact hfin D W hD (.inr ⟨pre, hp, hi⟩) hK))
theorem exGather_none : ∀ (pre r l : List Int), exGather l pre = none → exGather l (pre ++ r) = none
 | [], r, l, h => by simp [exGather] at h
 | x :: pre, r, l, h => by
  simp only [List.cons_append, exGather] at h ⊢
  split
  ·rfl
  ·rename_i h1
   rw [if_neg h1] at h
   exact exGather_none pre r _ h
def GI (l : List Int) (w : World) (pre : List Int) (W : World) : Prop := ∃ (cur : List Int) (a : Option Addr) (cap : Nat), exGather l pre = some cur ∧ Boxed W (w.heap.size + 2) 22 (.slice a cur.length cap) ∧ SlC encU 1 W.heap.size W a cur.length cap cur ∧
 (∀ x, a = some x → w.heap.size < x.block ∧ x.block ≠ w.heap.size + 2 ∧ x.block ≠ w.heap.size + 3) ∧ Boxed W (w.heap.size + 3) 62 .nilIface ∧ Boxed W w.heap.size 24 (.slice none 0 0) ∧ Below w.heap.size w W
def GIb (l : List Int) (w : World) (pre : List Int) (W : World) : Prop := exGather l pre = none ∧ Boxed W (w.heap.size + 3) 62 (.iface 219 (.agg #[.string tooMany])) ∧ Boxed W w.heap.size 24 (.slice none 0 0) ∧ Below w.heap.size w W
theorem gi_own (l : List Int) (w : World) (C : Nat) (hC : w.heap.size + 5 ≤ C) : OwnFrom C (GI l w) := fun pre X Y row hs hg hr => by
 obtain ⟨cur, a, cap, h1, h2, h3, h4, h5, h6, h7⟩ := hs
 exact ⟨cur, a, cap, h1, ownBox _ _ _ (fun _ => .slice a cur.length cap) () X Y row h2 hg hr, ownSlC h3 hg hr, h4, ownBox _ _ _ (fun _ => .nilIface) () X Y row h5 hg hr, ownBox _ _ _ (fun _ => .slice none 0 0) () X Y row h6 hg hr, ownFrom_below (β := Unit) (B := C) (Nat.le_refl _) (by omega) () X Y row h7 hg hr⟩
theorem gib_own (l : List Int) (w : World) (C : Nat) (hC : w.heap.size + 5 ≤ C) : OwnFrom C (GIb l w) := fun pre X Y row hs hg hr => by
 obtain ⟨h1, h5, h6, h7⟩ := hs
 exact ⟨h1, ownBox _ _ _ (fun _ => .iface 219 (.agg #[.string tooMany])) () X Y row h5 hg hr, ownBox _ _ _ (fun _ => .slice none 0 0) () X Y row h6 hg hr, ownFrom_below (β := Unit) (B := C) (Nat.le_refl _) (by omega) () X Y row h7 hg hr⟩
attribute [-go_sem] Builtin.append_
set_option maxRecDepth 100000 in
set_option maxHeartbeats 2000000 in
theorem gather_any (l more : List Int) (a : Option Addr) (len cap : Nat) (ma : Option Addr) (mlen mcap : Nat) (w : World) (hL : SlE encU 1 w.heap.size w a len l) (hM : SlE encU 1 w.heap.size w ma mlen more) (hu : Up l) (hl : len ≤ 64) (hm : mlen ≤ 1000) (hn : a = none → len = 0) :
  Calls Tryz.prog 140 #[.slice a len cap, .slice ma mlen mcap] w (GatherPost l more w) := by
 have hll := hL.1
 subst hll
 obtain ⟨Wr, hWr, hXr, hBr, hsr⟩ := boxes1 w #[.slice none 0 0] 24
 obtain ⟨W1, hmk, ⟨cur, hc1, hc2⟩, hB1, hs1⟩ := make_u64 Wr l.length (by omega)
 rw [hsr] at hc1 hmk hB1 hs1
 obtain ⟨W2, hW2, hX2, hB2, hs2⟩ := boxes1 W1 #[.slice (some ⟨w.heap.size + 1, 0, none⟩) l.length l.length] 22
 rw [hs1] at hX2 hB2 hs2
 have hb02 : Below w.heap.size w W2 := (hBr.trans (hB1.mono (by omega))).trans (hB2.mono (by omega))
 have hcw : W2.heap[w.heap.size + 1]? = some (.cells cur 43 (0, 0)) := (hB2.block _ (by omega)).trans hc1
 obtain ⟨W3, hcp, hX3, hB3, hs3, hk3⟩ := copy_u64 (cap := cap) hcw hc2 ((hL.below hb02)) hn
 have hb03 : Below w.heap.size w W3 := hb02.trans (hB3.mono (by omega))
 have hX32 : W3.heap[w.heap.size + 1 + 1]? = some (.cells #[.slice (some ⟨w.heap.size + 1, 0, none⟩) l.length l.length] 22 (0, 0)) := (hk3 _ (by omega)).trans hX2
 have k2 : W2.cell? ⟨w.heap.size + 1 + 1, 0, none⟩ = some (.slice (some ⟨w.heap.size + 1, 0, none⟩) l.length l.length) := cCc hX2 0
 refine calls_marks Tryz.func140 rfl ?_
 simp only [Tryz.ntmps140, List.size_toArray, List.length_cons, List.length_nil, Nat.reduceAdd, Nat.reduceSub, Array.replicate_succ, Array.replicate_zero, List.push_toArray, List.append_toArray, List.nil_append, List.cons_append]
 go_wp2_with fail
 go_step3
 go_wp2_with fail
 obtain ⟨W4, hW4, hX4, hB4, hs4⟩ := boxes1 W3 #[.nilIface] 62
 rw [hW4]
 have hs3' : W3.heap.size = w.heap.size + 3 := by omega
 obtain ⟨W5, hW5, hX5, hB5, hs5⟩ := boxes1 W4 #[.slice ma mlen mcap] 22
 have HW5 := Lib.hid hW5
 apply wp_label
 have hX32' := hX32
 have hB2' := hB2
 have hB1' := hB1
 clear hW4 hW5 hWr hmk hW2 hcp hX2 k2 hX32
 go_wp2_with (go_at_call 146; refine (exEach_any _ _ _ _).mono ?_; rintro e w' ⟨rfl, rfl⟩; rw [HW5.out])
 have hb05 : Below w.heap.size w W5 := (hb03.trans (hB4.mono (by omega))).trans (hB5.mono (by omega))
 have hS3 : SlC encU 1 W3.heap.size W3 (some ⟨w.heap.size + 1, 0, none⟩) l.length l.length l := by
  refine ⟨⟨rfl, fun j x hx => ⟨w.heap.size + 1, 0, rfl, by omega, fun i hi => ?_⟩⟩, Nat.le_refl _, by unfold maxLen; omega, (fun h => by cases h), fun x hx _ => by cases hx; exact ⟨rfl, by show w.heap.size + 1 < _; omega⟩⟩
  obtain rfl : i = 0 := by omega
  have h5 := flat_cell encU 1 (fun _ => rfl) l j 0 x hx (by omega)
  rw [cCc hX3, Nat.zero_add]
  simpa using h5
 have hG0 : GI l w [] W5 := by
  refine ⟨l, _, l.length, rfl, ?_, (hS3.go hB4).go hB5, (fun x hx => by cases hx; exact ⟨Nat.lt_succ_self _, by show w.heap.size + 1 ≠ _; omega, by show w.heap.size + 1 ≠ _; omega⟩), ?_, ?_, hb05⟩
  ·exact (hB5.block _ (by omega)).trans ((hB4.block _ (by omega)).trans hX32')
  ·refine (hB5.block _ (by omega)).trans ?_
   rw [hs3'] at hX4
   exact hX4
  ·refine (hB5.block _ (by omega)).trans ((hB4.block _ (by omega)).trans ((hk3 _ (by omega)).trans ((hB2'.block _ (by omega)).trans ?_)))
   exact (hB1'.block _ (by omega)).trans hXr
 rw [hs4, hs3'] at hX5
 have hC5 : w.heap.size + 5 ≤ W5.heap.size := by omega
 have hseq := values_u64 (w.heap.size + 3 + 1) w.heap.size ma mlen mcap more (by omega) W5 (by omega) (by omega) (cCc hX5 0) (hM.below hb05)
 have HU := Lib.hid hu
 have HLen := Lib.hid hl
 clear hc1 hcw hX3 hX4 hX5 hB1 hB2 hB3 hB4 hB5 hb02 hb03 hk3 hS3 hXr hX32' hB2' hB1' hL hM hu
 refine wp_range_brk1 w.heap.size 8 (fun x : Int => .int .u64 x) (gf := 154) (lb := #[.pointer (some ⟨w.heap.size + 3 + 1, 0, none⟩)]) rfl (enters_of Tryz.func154 (by kernel_rfl) rfl)
  hseq (by omega) (Below.refl _ _) (fun _ => rfl) (GI l w) (GIb l w) (gi_own l w _ hC5) (gib_own l w _ hC5) hG0 ?assign ?body ?fin
 case assign =>
  rintro l pre x W K hI hK
  simp only [List.zip_toArray, List.zip_cons_cons, List.zip_nil_right, List.size_toArray, List.foldl_toArray', List.foldl_cons, List.foldl_nil, List.setIfInBounds_toArray, List.set_cons_succ, List.set_cons_zero] at hK ⊢
  gi_wp2
  exact hI
 case body =>
  rintro lo pre x W ⟨cur, a1, cap1, hg, hb1, hS, hfar, hb2, hb3, hB⟩ hlt
  simp only [List.zip_toArray, List.zip_cons_cons, List.zip_nil_right, List.size_toArray, List.foldl_toArray', List.foldl_cons, List.foldl_nil, List.setIfInBounds_toArray, List.set_cons_succ, List.set_cons_zero]
  have c0 := hb1.cell
  have hcl := gm_len pre l cur hg HLen.out
  have hW := with_any cur a1 cur.length cap1 x W hS (gm_up pre l cur hg HU.out) (by omega)
  clear hS
  have hb1' := hb1
  have hb2' := hb2
  have hb3' := hb3
  clear hb1 hb2 hb3
  gi_wp2_with fail
  refine ⟨trivial, (CallsIn.inRound lo (callsIn_wide.2 hW)).mono ?_⟩
  rintro e W6 ⟨a6, cap6, rfl, hS6, hfar6, hB6⟩
  have hz : w.heap.size + 3 < W.heap.size := hb2'.lt
  have p1 : Boxed W6 (w.heap.size + 2) 22 (.slice a1 cur.length cap1) := (hB6.block _ (by omega)).trans hb1'
  have p2 : Boxed W6 (w.heap.size + 3) 62 .nilIface := (hB6.block _ (by omega)).trans hb2'
  have p3 : Boxed W6 w.heap.size 24 (.slice none 0 0) := (hB6.block _ (by omega)).trans hb3'
  have hf6 : ∀ y, a6 = some y → w.heap.size < y.block ∧ y.block ≠ w.heap.size + 2 ∧ y.block ≠ w.heap.size + 3 := by
   rcases hfar6 with rfl | h
   ·exact hfar
   ·intro y hy
    have := h y hy
    omega
  have q1 := p1.cell
  have q2 := p1.frozen
  have q3 := p2.cell
  have q4 := p2.frozen
  obtain ⟨W7, hW7, k7⟩ : ∃ W7, W6.setCell ⟨w.heap.size + 2, 0, none⟩ (.slice a6 (exIns cur x).length cap6) = W7 ∧ KeepsFrom W5.heap.size W6 W7 := ⟨_, rfl, (KeepsOthers.setCell W6 _ _).from _⟩
  have r1 : Boxed W7 (w.heap.size + 2) 22 (.slice a6 (exIns cur x).length cap6) := by rw [← hW7]; exact p1.set _
  have r2 : Boxed W7 (w.heap.size + 3) 62 .nilIface := by rw [← hW7]; exact p2.other (by omega) _
  have r3 : Boxed W7 w.heap.size 24 (.slice none 0 0) := by rw [← hW7]; exact p3.other (by omega) _
  have rS : SlC encU 1 W7.heap.size W7 a6 (exIns cur x).length cap6 (exIns cur x) := by
   have hzz : W7.heap.size = W6.heap.size := by rw [← hW7]; simp
   rw [hzz, ← hW7]
   exact hS6.set_far (fun y hy => by have := hf6 y hy; show w.heap.size + 2 ≠ _; omega) _
  have rB : Below w.heap.size W W7 := by rw [← hW7]; exact (hB6.mono (by omega)).setCell (p := ⟨w.heap.size + 2, 0, none⟩) (by show _ ≤ _ + 2; omega) _
  have s1 := r1.cell
  have s3 := r2.cell
  have s4 := r2.frozen
  have hk67 : KeepsFrom W5.heap.size W W7 := (bKeeps hB6 (Nat.le_refl _)).trans k7
  have hgs := exGather_snoc pre l x
  rw [hg] at hgs
  have hgs' : exGather l (pre ++ [x]) = if 64 < (exIns cur x).length then none else some (exIns cur x) := hgs
  have HX := Lib.hid (And.intro p1 (And.intro p2 p3))
  clear p1 p2 p3 hb1' hb2' hb3' hgs hg q3 q4
  by_cases hbig : 64 < (exIns cur x).length
  ·have hbig' : (64 : Int) < ((exIns cur x).length : Int) := by omega
   rw [if_pos hbig] at hgs'
   gi_wp2_with fail
   refine ⟨hk67.trans ((KeepsOthers.setCell W7 _ _).from _), rfl, hgs', r2.set _, r3.other (by omega) _, (hB.trans rB).setCell (p := ⟨w.heap.size + 3, 0, none⟩) (by show _ ≤ _ + 3; omega) _⟩
  ·have hbig' : ¬ (64 : Int) < ((exIns cur x).length : Int) := by omega
   rw [if_neg hbig] at hgs'
   gi_wp2_with fail
   exact ⟨hk67, rB, exIns cur x, a6, cap6, hgs', r1, rS, hf6, r2, r3, hB.trans rB⟩
 case fin =>
  rintro D W hD hi hK
  rcases hi with ⟨cur, a1, cap1, hg, hb1, hS, hfar, hb2, hb3, hB⟩ | ⟨pre, hpre, hg, hb2, hb3, hB⟩
  ·have q1 := hb1.cell
   have q2 := hb2.cell
   have q3 := hb3.cell
   have q4 := hb3.frozen
   go_wp2_with fail
   rw [Exit.noGoto_ret]
   have hKs := dfSet hK ⟨w.heap.size, 0, none⟩ (.slice a1 cur.length cap1)
   have hBs : Below w.heap.size w (W.setCell ⟨w.heap.size, 0, none⟩ (.slice a1 cur.length cap1)) := hB.setCell (p := ⟨w.heap.size, 0, none⟩) (Nat.le_refl _) _
   have hzz : (W.setCell ⟨w.heap.size, 0, none⟩ (.slice a1 cur.length cap1)).heap.size = W.heap.size := by simp
   have hSs : SlC encU 1 (W.setCell ⟨w.heap.size, 0, none⟩ (.slice a1 cur.length cap1)).heap.size (W.setCell ⟨w.heap.size, 0, none⟩ (.slice a1 cur.length cap1)) a1 cur.length cap1 cur := by
    rw [hzz]
    exact hS.set_far (fun y hy => by have := hfar y hy; show w.heap.size ≠ _; omega) _
   have hne : some w.heap.size ≠ some D := fun e => by cases e; omega
   have e1 := ((hb3.set (.slice a1 cur.length cap1)).kept (grownBy_putObj' _ D (.deferred none)) hne).cell
   refine marks_ret1 (v := .tuple #[.agg #[.slice a1 cur.length cap1], .nilIface]) hKs ?_ ?_
   ·simp [results, Tryz.f140, go_sem, e1]
   ·refine ⟨bPutD hBs (by omega) hKs, ?_⟩
    rw [hg]
    exact ⟨a1, cap1, rfl, ownSlC (C := 0) hSs (grownBy_putObj' _ D _) (fun r e => by cases e; exact ⟨Nat.zero_le _, _, hKs, rfl⟩), fun y hy => by have := hfar y hy; omega⟩
  ·have q2 := hb2.cell
   have q3 := hb3.cell
   have q4 := hb3.frozen
   go_wp2_with fail
   go_region
   have hKs : (W.setCell ⟨w.heap.size, 0, none⟩ (.slice none 0 0)).drew.heap[D]? = some (.deferred (some [])) := dfSet hK ⟨w.heap.size, 0, none⟩ (.slice none 0 0)
   have hBs : Below w.heap.size w (W.setCell ⟨w.heap.size, 0, none⟩ (.slice none 0 0)).drew := (hB.setCell (p := ⟨w.heap.size, 0, none⟩) (Nat.le_refl _) _).drew
   have hne : some w.heap.size ≠ some D := fun e => by cases e; omega
   have hb4 : Boxed (W.setCell ⟨w.heap.size, 0, none⟩ (.slice none 0 0)).drew w.heap.size 24 (.slice none 0 0) := hb3.set _
   have e1 := (hb4.kept (grownBy_putObj' _ D (.deferred none)) hne).cell
   go_wp2_with fail
   rw [Exit.noGoto_ret]
   refine marks_ret1 (v := .tuple #[.agg #[.slice none 0 0], .iface 219 (.agg #[.string tooMany])]) hKs ?_ ?_
   ·simp [results, Tryz.f140, go_sem, e1]
   ·refine ⟨bPutD hBs (by omega) hKs, ?_⟩
    have hgn : exGather l more = none := by
     obtain ⟨r, rfl⟩ := hpre
     exact exGather_none pre r l hg
    rw [hgn]
end Go.Proofs.YtcbbenncdainfaaGreatDoor
namespace Go.Proofs.YtcbbenncdainfaaGreatDoor
open Go Go.RowKit Go.Shelf
attribute [local go_sem] Oper.semAt_some
def KL (L : List Nat) (W W' : World) : Prop := ∀ b ∈ L, ∀ o, W.heap[b]? = some o → W'.heap[b]? = some o
theorem KL.trans {L : List Nat} {X Y Z : World} (h : KL L X Y) (k : KL L Y Z) : KL L X Z := fun b hb o ho => k b hb o (h b hb o ho)
theorem KL.refl (L : List Nat) (X : World) : KL L X X := fun _ _ _ h => h
theorem KL.below {L : List Nat} {n : Nat} {X Y : World} (h : Below n X Y) (hL : ∀ b ∈ L, b < n) : KL L X Y := fun b hb _ ho => (h.block b (hL b hb)).trans ho
theorem KL.grown {L : List Nat} {X Y : World} {row : Option Nat} (h : X.grownBy Y row) (hL : ∀ b ∈ L, some b ≠ row) : KL L X Y := fun b hb _ ho => (h.block b (Array.getElem?_eq_some_iff.1 ho).1 (hL b hb)).trans ho
theorem wp_range_kl {α : Type} {P : Program} {g : Operand} {ps : Array Tmp} {assign body : Code} {Q : Exit → Act → World → Prop} {a : Act} {w : World} (L : List Nat) (T : α → Array Value)
  {gf : Nat} {lb : Array Value} (hg : a.eval g = .func (.func gf) #[] lb) (eg : ∀ args w, (callFunc gf args).run P w = .ok (.enter gf args) w)
  {encs : α → Array Value} {xs : List α} {N : Nat} {w0 : World} (hseq : SeqStopsK Fence.wide 8 P gf lb encs (KL L) (fun ys => ys = xs) (fun pre => pre <+: xs) N w0)
  (hL : ∀ b ∈ L, b < w.heap.size) (hb0 : Below w0.heap.size w0 w) (hps : ∀ x, (encs x).size = ps.size)
  (I : List α → World → Prop) (Ix : Code → List α → World → Prop) (hI : OwnFrom w.heap.size I) (hIx : ∀ c, OwnFrom w.heap.size (Ix c)) (h0 : I [] w)
  (hassign : ∀ (l : Nat) (pre : List α) (x : α) (W : World) (K : Act → World → Prop), I pre W → (I pre W → K { tmps := T x, defers := [] } W) →
   assign.wpIn (Fence.wide.inRound l) 7 P (Exit.then K (fun _ _ _ => False)) { tmps := (ps.zip (encs x)).foldl (fun t (p, v) => t.setIfInBounds p v) a.tmps, defers := [] } W)
  (hbody : ∀ (l : Nat) (pre : List α) (x : α) (W : World), I pre W → pre.length < N → body.wpIn (Fence.wide.inRound l) 7 P (ownPostG w.heap.size (KL L) I Ix (pre ++ [x]) W) { tmps := T x, defers := [] } W)
  (hdone : ∀ (D : Nat) (W : World), w.heap.size ≤ D → I xs W → W.heap[D]? = some (.deferred (some [])) → Q .normal { a with defers := { target := .collected D, args := #[] } :: a.defers } W)
  (hstop : ∀ (D : Nat) (c : Code) (pre : List α) (W : World), w.heap.size ≤ D → pre <+: xs → Ix c pre W → W.heap[D]? = some (.deferred (some [])) → c.wp P Q { a with defers := { target := .collected D, args := #[] } :: a.defers } W) :
  (Code.rangeFunc g ps assign body).wp P Q a w :=
 (wpIn_wide (n := 9)).1 (wpIn_rangeFunc_ownH rfl (by omega) hg trivial eg hseq (fun h k => h.trans k)
  (fun W l o o' hl h _ _ b hb o2 h2 => (World.putObj_heap_other (by have := hL b hb; omega)).trans h2) hb0 hps I Ix hI hIx h0 (fun x a' _ => a' = { tmps := T x, defers := [] }) (fun _ _ => ownFrom_pure _ _)
  (fun l pre x W K hi hK => hassign l pre x W K hi (fun hi' => hK _ _ (KeepsFrom.refl _ _) (KL.refl _ _) hi' rfl))
  (fun l pre x a' W _ _ hi hax hlt => by subst hax; exact hbody l pre x W hi hlt) (fun D ys W hD e hi hK => by subst e; exact hdone D W hD hi hK) (fun D c pre W hD hp hi hK => wpIn_wide.2 (hstop D c pre W hD hp hi hK)))
theorem wp_range_all {α : Type} {P : Program} {g : Operand} {ps : Array Tmp} {assign body : Code} {Q : Exit → Act → World → Prop} {a : Act} {w : World} (L : List Nat) (T : α → Array Value)
  {gf : Nat} {lb : Array Value} (hg : a.eval g = .func (.func gf) #[] lb) (eg : ∀ args w, (callFunc gf args).run P w = .ok (.enter gf args) w)
  {encs : α → Array Value} {xs : List α} {N : Nat} {w0 : World} (hseq : SeqStopsK Fence.wide 8 P gf lb encs (KL L) (fun ys => ys = xs) (fun pre => pre <+: xs) N w0)
  (hL : ∀ b ∈ L, b < w.heap.size) (hb0 : Below w0.heap.size w0 w) (hps : ∀ x, (encs x).size = ps.size)
  (I : List α → World → Prop) (hI : OwnFrom w.heap.size I) (h0 : I [] w)
  (hassign : ∀ (l : Nat) (pre : List α) (x : α) (W : World) (K : Act → World → Prop), I pre W → (I pre W → K { tmps := T x, defers := [] } W) →
   assign.wpIn (Fence.wide.inRound l) 7 P (Exit.then K (fun _ _ _ => False)) { tmps := (ps.zip (encs x)).foldl (fun t (p, v) => t.setIfInBounds p v) a.tmps, defers := [] } W)
  (hbody : ∀ (l : Nat) (pre : List α) (x : α) (W : World), I pre W → pre.length < N → body.wpIn (Fence.wide.inRound l) 7 P (ownPostG w.heap.size (KL L) I (fun _ _ _ => False) (pre ++ [x]) W) { tmps := T x, defers := [] } W)
  (hdone : ∀ (D : Nat) (W : World), w.heap.size ≤ D → I xs W → W.heap[D]? = some (.deferred (some [])) → Q .normal { a with defers := { target := .collected D, args := #[] } :: a.defers } W) :
  (Code.rangeFunc g ps assign body).wp P Q a w :=
 wp_range_kl L T hg eg hseq hL hb0 hps I (fun _ _ _ => False) hI (fun _ _ _ _ _ h _ _ => h) h0 hassign hbody hdone (fun _ _ _ _ _ _ h _ => h.elim)
theorem SlE.kl {Bs b n₀ off len : Nat} {W W' : World} {l : List Int} (h : KL [Bs, b] W W') (hs : SlE encU 1 n₀ W (some ⟨b, off, none⟩) len l) : SlE encU 1 n₀ W' (some ⟨b, off, none⟩) len l := by
 refine ⟨hs.1, fun j x hx => ?_⟩
 obtain ⟨b', off', e, hb, hc⟩ := hs.2 j x hx
 cases e
 refine ⟨b, off, rfl, hb, fun i hi => ?_⟩
 obtain rfl : i = 0 := by omega
 have h1 : W.cell? ⟨b, off + j * 1 + 0, none⟩ = some (.int .u64 x) := hc 0 hi
 show W'.cell? ⟨b, off + j * 1 + 0, none⟩ = some (.int .u64 x)
 cases ho : W.heap[b]? with
 | none => simp [World.cell?, ho] at h1
 | some o => exact (World.cell?_of_block (w := W) (w' := W') (a := ⟨b, off + j * 1 + 0, none⟩) ((h b (by simp) o ho).trans ho.symm)).trans h1
set_option maxRecDepth 100000 in
set_option maxHeartbeats 1000000 in
theorem values1_kl {α : Type} (f : α → Int) (l Bs n₀ b off cap : Nat) (ls : List α) (hreach : ls.length < 4294967281) (J Jx : List α → World → Prop)
  (hY : ∀ pre x W, J pre W → pre.length < ls.length → YieldAt Fence.wide 7 Tryz.prog l #[.int .u64 (f x)] W fun e W' =>
   (e = .returned (.bool true) ∧ J (pre ++ [x]) W' ∧ KL [Bs, b] W W') ∨ (e = .returned (.bool false) ∧ Jx (pre ++ [x]) W'))
  (W : World) (hBs : W.heap[Bs]? = some (.cells #[.slice (some ⟨b, off, none⟩) ls.length cap] 22 (0, 0))) (hc : SlE encU 1 n₀ W (some ⟨b, off, none⟩) ls.length (ls.map f)) (h0 : J [] W) :
  CallsIn Fence.wide 8 Tryz.prog 154 #[.func (.yield l) #[] #[], .pointer (some ⟨Bs, 0, none⟩)] W fun e W' => (∃ v, e = .returned v) ∧
   ((∃ ys, ys = ls ∧ J ys W') ∨ (∃ pre, pre <+: ls ∧ Jx pre W')) := by
 refine callsIn_of_wp Tryz.func154 rfl trivial ?_ rfl
 simp only [Tryz.ntmps154, List.size_toArray, List.length_cons, List.length_nil, Nat.reduceAdd, Nat.reduceSub, Array.replicate_succ, Array.replicate_zero, List.push_toArray, List.append_toArray, List.nil_append, List.cons_append]
 have c9 : W.cell? ⟨Bs, 0, none⟩ = some (.slice (some ⟨b, off, none⟩) ls.length cap) := cCc hBs 0
 gi_wp2
 gi_loopw [7] (fun i wr => ∃ k : Nat, k ≤ ls.length ∧ i = .int .i64 k ∧ J (ls.take k) wr ∧ KL [Bs, b] W wr) (fun i _ => ls.length - (intOf i).toNat)
 case atStart => exact ⟨0, Nat.zero_le _, rfl, h0, KL.refl _ _⟩
 case round =>
  obtain ⟨k, hk, rfl, hJs, hnx⟩ := hrel
  by_cases hlt : k < ls.length
  ·obtain ⟨x, hx⟩ : ∃ x, ls[k]? = some x := ⟨_, List.getElem?_eq_getElem hlt⟩
   obtain ⟨b9, off9, e9, hb, hc0⟩ := (SlE.kl hnx hc).2 k (f x) (by rw [List.getElem?_map, hx]; rfl)
   cases e9
   have c0 : wr.cell? ⟨b, off + k, none⟩ = some (.int .u64 (f x)) := by have h1 := hc0 0 (by omega); rwa [Nat.mul_one] at h1
   obtain ⟨fn, tmps, assign, body, hy, hR⟩ := hY _ x _ hJs (by simp; omega)
   clear hc0
   have HX := Lib.hid hx
   clear hx
   gi_wp2
   refine hR.mono ?_
   rintro e W3 (⟨rfl, hJ3, hk3⟩ | ⟨rfl, hJx3⟩)
   ·gi_wp2
    go_roundw
    case rel => exact ⟨k + 1, by omega, by simp, by rw [List.take_add_one, HX.out]; exact hJ3, hnx.trans hk3⟩
    case measure => simp [intOf]; omega
   ·gi_wp2
    refine bodyPost_ret (results_none rfl _ _ _) rfl ?_
    exact ⟨⟨_, rfl⟩, .inr ⟨_, by have h := List.take_prefix (k + 1) ls; rwa [List.take_add_one, HX.out] at h, hJx3⟩⟩
  ·obtain rfl : k = ls.length := by omega
   gi_wp2
   go_end0
   exact ⟨⟨_, rfl⟩, .inl ⟨_, List.take_length, hJs⟩⟩
theorem values_kl {α : Type} (f : α → Int) (Bs b n₀ : Nat) (a : Option Addr) (len cap : Nat) (ls : List α) (hreach : len < 4294967281) (w : World) (hn₀ : n₀ ≤ w.heap.size)
  (hc : w.heap[Bs]? = some (.cells #[.slice a len cap] 22 (0, 0))) (hI : SlE encU 1 n₀ w a len (ls.map f)) (hab : 0 < len → ∀ x, a = some x → x.block = b) :
  SeqStopsK Fence.wide 8 Tryz.prog 154 #[.pointer (some ⟨Bs, 0, none⟩)] (fun x : α => #[.int .u64 (f x)]) (KL [Bs, b]) (fun ys => ys = ls) (fun pre => pre <+: ls) ls.length w := fun l J Jx W hW _ _ hY h0 => by
 have hc' := known hW (Nat.le_refl _) hc
 have hI' : SlE encU 1 n₀ W a len (ls.map f) := hI.below (hW.mono hn₀)
 have hll : len = ls.length := by have := hI'.1; rwa [List.length_map] at this
 rcases Nat.eq_zero_or_pos len with h | h
 ·obtain rfl : ls = [] := List.eq_nil_of_length_eq_zero (by omega)
  rw [h] at hc'
  exact (values1_u64_nil l Bs a cap (fun _ => J []) W (cCc hc' 0) h0).mono fun e W' ⟨he, hj⟩ => ⟨he, .inl ⟨_, rfl, hj⟩⟩
 ·obtain ⟨x, b', off, -, rfl, -, -⟩ := hI'.at h
  obtain rfl := hab h _ rfl
  rw [hll] at hc' hI'
  exact values1_kl f l Bs n₀ _ off cap ls (by omega) J Jx hY W hc' hI' h0
end Go.Proofs.YtcbbenncdainfaaGreatDoor
namespace Go.Proofs.YtcbbenncdainfaaGreatDoor
open Go Go.RowKit
theorem alloc_put (w : World) (o o' : Obj) : { w.alloc o with heap := (w.alloc o).heap.setIfInBounds w.heap.size o' } = w.alloc o' := by
 have : (w.heap.push o).setIfInBounds w.heap.size o' = w.heap.push o' := by
  apply Array.ext
  ·simp
  ·intro i h1 h2
   rw [Array.getElem_setIfInBounds (by simpa using h2)]
   by_cases hi : w.heap.size = i
   ·subst hi; simp
   ·have h3 : i < w.heap.size := by simp at h2; omega
    simp [hi, Array.getElem_push_lt h3]
 unfold World.alloc
 simp only [this]
theorem mapUpd_alloc {P : Program} (w : World) {mty kt et : TypeId} {ik : IntKind} {clock : Nat} {es : Array MapEntry} {n : Int} (val : Value) (hm : P.underlying mty = some (.map kt et)) (hk : P.underlying kt = some (.int ik))
  (hf : Instr.findNow (.int ik) (.int ik n) es.toList 0 = some none) :
  (Instr.mapUpdate mty (.map (some w.heap.size)) (.int ik n) val).run P (w.alloc (.map es clock)) = .ok () (w.alloc (.map (es.push { key := .int ik n, val := val, born := clock }) (clock + 1))) := by
 have hb : (w.alloc (.map es clock)).heap[w.heap.size]? = some (.map es clock) := World.alloc_heap_new _ _
 have hc : (Instr.checkKey false 10000 kt (.int ik n)).run P (w.alloc (.map es clock)) = .ok () (w.alloc (.map es clock)) := MapKept.run_checkKey (k := .int ik n) hk (by simp [MapKept.IsKey]) false 9999
 simp [Instr.mapUpdate, run_underlying hm, MapKept.run_getObj_map hb, hc, MapKept.run_findKey hk hf, MapKept.run_setObj_map _ hb, Result.andThen]
 exact alloc_put w _ _
theorem look_int {P : Program} {w : World} {mty kt et : TypeId} {ik : IntKind} {r clock : Nat} {es : Array MapEntry} {n : Int} {i : Nat} {v : Value} (hm : P.underlying mty = some (.map kt et)) (hk : P.underlying kt = some (.int ik))
  (hb : w.heap[r]? = some (.map es clock)) (hf : Instr.findNow (.int ik) (.int ik n) es.toList 0 = some (some (i, v))) :
  (Instr.lookup mty (.map (some r)) (.int ik n) true).run P w = .ok (.tuple #[v, .bool true]) w ∧ (Instr.lookup mty (.map (some r)) (.int ik n) false).run P w = .ok v w := by
 have hc : ∀ b, (Instr.checkKey b 10000 kt (.int ik n)).run P w = .ok () w := fun b => MapKept.run_checkKey (k := .int ik n) hk (by simp [MapKept.IsKey]) b 9999
 constructor <;> simp [Instr.lookup, run_underlying hm, MapKept.run_getObj_map hb, hc, MapKept.run_findKey hk hf, Result.andThen]
theorem look_int_none {P : Program} {w : World} {mty kt et : TypeId} {ik : IntKind} {r clock : Nat} {es : Array MapEntry} {n : Int} {z : Value} (hm : P.underlying mty = some (.map kt et)) (hk : P.underlying kt = some (.int ik))
  (hb : w.heap[r]? = some (.map es clock)) (hz : (zeroValue et).run P w = .ok z w) (hf : Instr.findNow (.int ik) (.int ik n) es.toList 0 = some none) :
  (Instr.lookup mty (.map (some r)) (.int ik n) true).run P w = .ok (.tuple #[z, .bool false]) w := by
 have hc : ∀ b, (Instr.checkKey b 10000 kt (.int ik n)).run P w = .ok () w := fun b => MapKept.run_checkKey (k := .int ik n) hk (by simp [MapKept.IsKey]) b 9999
 simp [Instr.lookup, run_underlying hm, MapKept.run_getObj_map hb, hc, MapKept.run_findKey hk hf, hz, Result.andThen]
end Go.Proofs.YtcbbenncdainfaaGreatDoor
namespace Go.Proofs.YtcbbenncdainfaaGreatDoor
open Go Go.RowKit
theorem eql_hll (b1 b2 : Int) (r1 r2 : ByteArray) (w : World) : (binOp .eql 26 (.agg #[.int .i64 b1, .string r1]) (.agg #[.int .i64 b2, .string r2])).run Tryz.prog w = .ok (.bool (b1 == b2 && r1.toList == r2.toList)) w := by
 have h1 : Tryz.prog.underlying 26 = some (.struct (Tryz.prog.fieldsOf 26)) := by kernel_rfl
 have h2 : Tryz.prog.stoodInHeld 26 = false := by kernel_rfl
 have h3 : (Tryz.prog.fieldsOf 26).toList = [{ name := "Bits", type := 3, offset := 0, embedded := false, tag := "", pkgPath := "", byteOffset := 0 }, { name := "Regs", type := 9, offset := 1, embedded := false, tag := "", pkgPath := "", byteOffset := 8 }] := by kernel_rfl
 rw [run_eql_struct, run_equalIn_agg w 9999 _ _ _ h1 h2, h3]
 cases ha : (b1 == b2) <;> cases hb : (r1.toList == r2.toList) <;> simp [go_sem, ha, hb, Tryz.underlying3, Tryz.underlying9]
theorem eg_hll : Tryz.prog.eqGuardType Tryz.prog.depth 26 = false := by kernel_rfl
set_option maxRecDepth 100000 in
set_option maxHeartbeats 2000000 in
theorem ladder_Same_any (x y : Sk) (s t : SS) (w : World) (hx : s.At w.heap.size w x) (hy : t.At w.heap.size w y) :
  Calls Tryz.prog 14 #[.agg #[.int .i64 x.kind, .int .i64 x.level, .slice s.ea s.el s.ec, .int .i64 x.hb, .string x.hr, .int .i64 x.cr, .int .i64 x.cc, .slice s.ca s.cl s.cc, .int .i64 x.gf, .slice s.ga s.gl s.gc], .agg #[.int .i64 y.kind, .int .i64 y.level, .slice t.ea t.el t.ec, .int .i64 y.hb, .string y.hr, .int .i64 y.cr, .int .i64 y.cc, .slice t.ca t.cl t.cc, .int .i64 y.gf, .slice t.ga t.gl t.gc]] w fun e w' => e = .returned (.bool (skSame x y)) ∧ Below w.heap.size w w' := by
 obtain ⟨W0, hW0, hX0, hX1, hB0, hs0⟩ := boxes2 w #[.int .i64 x.kind, .int .i64 x.level, .slice s.ea s.el s.ec, .int .i64 x.hb, .string x.hr, .int .i64 x.cr, .int .i64 x.cc, .slice s.ca s.cl s.cc, .int .i64 x.gf, .slice s.ga s.gl s.gc] 33 #[.int .i64 y.kind, .int .i64 y.level, .slice t.ea t.el t.ec, .int .i64 y.hb, .string y.hr, .int .i64 y.cr, .int .i64 y.cc, .slice t.ca t.cl t.cc, .int .i64 y.gf, .slice t.ga t.gl t.gc] 33
 obtain ⟨c0, c1, c2, c3, c4, c5, c6, c7, c8, c9⟩ := cl10 hX0
 obtain ⟨d0, d1, d2, d3, d4, d5, d6, d7, d8, d9⟩ := cl10 hX1
 have n1 := eql_hll x.hb y.hb x.hr y.hr
 have n2 := eg_hll
 have gx := hx.go hB0
 have gy := hy.go hB0
 clear hx hy
 have hE := exact_Same_any s.ea s.el s.ec x.e t.ea t.el t.ec y.e W0 gx.e.1 gy.e.1 (Nat.le_trans gx.e.2.1 gx.e.2.2.1)
 cases h1 : (x.kind == y.kind) with
 | false =>
  have HR : Hid (skSame x y = false) := by simp [Hid, skSame, h1]
  clear hE gx gy
  go_enter Tryz.func14, Tryz.ntmps14
  go_wp2_with fail
  go_ret
  exact ⟨by rw [HR.out]; rfl, hB0⟩
 | true =>
  cases h2 : (x.level == y.level) with
  | false =>
   have HR : Hid (skSame x y = false) := by simp [Hid, skSame, h2]
   clear hE gx gy
   go_enter Tryz.func14, Tryz.ntmps14
   go_wp2_with fail
   go_ret
   exact ⟨by rw [HR.out]; rfl, hB0⟩
  | true =>
   cases h3 : (x.hb == y.hb && x.hr.toList == y.hr.toList) with
   | false =>
    have HR : Hid (skSame x y = false) := by simp only [Hid, skSame, h3, Bool.and_false, Bool.false_and]
    rw [h3] at n1
    clear hE gx gy h3
    go_enter Tryz.func14, Tryz.ntmps14
    go_wp2_with fail
    go_ret
    exact ⟨by rw [HR.out]; rfl, hB0⟩
   | true =>
    have HR : Hid (skSame x y = (x.e == y.e && (x.cr == y.cr && x.cc == y.cc && x.cl == y.cl) && (x.gf == y.gf && x.gl == y.gl))) := by simp only [Hid, skSame, h1, h2, h3, Bool.true_and]
    rw [h3] at n1
    have G := Lib.hid (And.intro gx gy)
    clear h3 gx gy
    go_enter Tryz.func14, Tryz.ntmps14
    go_wp2_with fail
    refine hE.mono ?_
    rintro e w1 ⟨rfl, hb1⟩
    have hX0' := known hb1 (Nat.le_refl _) hX0
    have hX1' := known hb1 (Nat.le_refl _) hX1
    obtain ⟨p0, p1, p2, p3, p4, p5, p6, p7, p8, p9⟩ := cl10 hX0'
    obtain ⟨q0, q1, q2, q3, q4, q5, q6, q7, q8, q9⟩ := cl10 hX1'
    have gx1 := G.out.1.go hb1
    have gy1 := G.out.2.go hb1
    have hC := cms_Same_any x.cr x.cc s.ca s.cl s.cc x.cl y.cr y.cc t.ca t.cl t.cc y.cl w1 gx1.c.1 gy1.c.1 (Nat.le_trans gx1.c.2.1 gx1.c.2.2.1)
    have G1 := Lib.hid (And.intro gx1 gy1)
    have hB1 := hB0.trans (hb1.mono hB0.size)
    clear hW0 hE c0 c1 c2 c3 c4 c5 c6 c7 c8 c9 d0 d1 d2 d3 d4 d5 d6 d7 d8 d9 gx1 gy1 G hX0 hX1 hb1
    generalize he : (x.e == y.e) = be at HR
    clear he
    cases be with
    | false =>
     clear hC
     go_wp2_with fail
     go_ret
     exact ⟨by rw [HR.out]; rfl, hB1⟩
    | true =>
     go_wp2_with fail
     refine hC.mono ?_
     rintro e w2 ⟨rfl, hb2⟩
     have hX0 := known hb2 (Nat.le_refl _) hX0'
     have hX1 := known hb2 (Nat.le_refl _) hX1'
     obtain ⟨r0, r1, r2, r3, r4, r5, r6, r7, r8, r9⟩ := cl10 hX0
     obtain ⟨u0, u1, u2, u3, u4, u5, u6, u7, u8, u9⟩ := cl10 hX1
     have gx2 := G1.out.1.go hb2
     have gy2 := G1.out.2.go hb2
     have hH := hist_Same_any x.gf s.ga s.gl s.gc x.gl y.gf t.ga t.gl t.gc y.gl w2 gx2.g.1 gy2.g.1 (Nat.le_trans gx2.g.2.1 gx2.g.2.2.1)
     have hB2 := hB1.trans (hb2.mono hB1.size)
     clear hC p0 p1 p2 p3 p4 p5 p6 p7 p8 p9 q0 q1 q2 q3 q4 q5 q6 q7 q8 q9 gx2 gy2 G1 hX0 hX1 hX0' hX1' hb2
     generalize hc : (x.cr == y.cr && x.cc == y.cc && x.cl == y.cl) = bc at HR
     clear hc
     cases bc with
     | false =>
      clear hH
      go_wp2_with fail
      go_ret
      exact ⟨by rw [HR.out]; rfl, hB2⟩
     | true =>
      go_wp2_with fail
      refine hH.mono ?_
      rintro e w3 ⟨rfl, hb3⟩
      clear hH
      go_wp2_with fail
      go_ret
      exact ⟨by rw [HR.out]; simp, hB2.trans (hb3.mono hB2.size)⟩
end Go.Proofs.YtcbbenncdainfaaGreatDoor
namespace Go.Proofs.YtcbbenncdainfaaGreatDoor
open Go Go.RowKit
structure HeldIn (x : Sk) (s : SS) (w W : World) : Prop where
 box : W.heap[w.heap.size]? = some (.cells #[.int .i64 x.kind, .int .i64 x.level, .slice s.ea s.el s.ec, .int .i64 x.hb, .string x.hr, .int .i64 x.cr, .int .i64 x.cc, .slice s.ca s.cl s.cc, .int .i64 x.gf, .slice s.ga s.gl s.gc] 106 (0, 0))
 lists : s.At W.heap.size W x
 below : Below w.heap.size w W
theorem HeldIn.go {x : Sk} {s : SS} {w W W' : World} (h : HeldIn x s w W) (hb : Below W.heap.size W W') : HeldIn x s w W' := ⟨known hb (Nat.le_refl _) h.box, h.lists.go hb, h.below.trans (hb.mono h.below.size)⟩
theorem held_in (x : Sk) (s : SS) (w : World) (hx : s.At w.heap.size w x) : HeldIn x s w (w.alloc (.cells #[.int .i64 x.kind, .int .i64 x.level, .slice s.ea s.el s.ec, .int .i64 x.hb, .string x.hr, .int .i64 x.cr, .int .i64 x.cc, .slice s.ca s.cl s.cc, .int .i64 x.gf, .slice s.ga s.gl s.gc] 106)) :=
 have hB : Below w.heap.size w (w.alloc (.cells #[.int .i64 x.kind, .int .i64 x.level, .slice s.ea s.el s.ec, .int .i64 x.hb, .string x.hr, .int .i64 x.cr, .int .i64 x.cc, .slice s.ca s.cl s.cc, .int .i64 x.gf, .slice s.ga s.gl s.gc] 106)) := (Below.refl _ w).alloc (Nat.le_refl _) _
 ⟨World.alloc_heap_new _ _, hx.go hB, hB⟩
set_option maxRecDepth 100000 in
set_option maxHeartbeats 2000000 in
theorem distinct0_any (x : Sk) (s : SS) (w : World) (hx : s.At w.heap.size w x) (h0 : (x.level == 0) = true) :
  Calls Tryz.prog 84 #[.agg #[.int .i64 x.kind, .int .i64 x.level, .slice s.ea s.el s.ec, .int .i64 x.hb, .string x.hr, .int .i64 x.cr, .int .i64 x.cc, .slice s.ca s.cl s.cc, .int .i64 x.gf, .slice s.ga s.gl s.gc]] w fun e w' => e = .returned (.tuple #[.iface 144 (.agg #[.slice s.ea s.el s.ec]), .bool (exRight x.e)]) ∧ Below w.heap.size w w' := by
 have hI := held_in x s w hx
 obtain ⟨W0, hW0⟩ : ∃ W0, w.alloc (.cells #[.int .i64 x.kind, .int .i64 x.level, .slice s.ea s.el s.ec, .int .i64 x.hb, .string x.hr, .int .i64 x.cr, .int .i64 x.cc, .slice s.ca s.cl s.cc, .int .i64 x.gf, .slice s.ga s.gl s.gc] 106) = W0 := ⟨_, rfl⟩
 rw [hW0] at hI
 obtain ⟨c0, c1, c2, c3, c4, c5, c6, c7, c8, c9⟩ := cl10 hI.box
 let Inv : World → Prop := HeldIn x s w
 have hgo : ∀ W W', Inv W → Below W.heap.size W W' → Inv W' := fun W W' h hb => HeldIn.go h hb
 have q0 : ∀ X : WIn Inv, X.world.cell? ⟨w.heap.size, 0, none⟩ = some (.int .i64 x.kind) := fun X => cCc X.ok.box 0
 have q1 : ∀ X : WIn Inv, X.world.cell? ⟨w.heap.size, 1, none⟩ = some (.int .i64 x.level) := fun X => cCc X.ok.box 1
 have q2 : ∀ X : WIn Inv, X.world.cell? ⟨w.heap.size, 2, none⟩ = some (.slice s.ea s.el s.ec) := fun X => cCc X.ok.box 2
 have q3 : ∀ X : WIn Inv, X.world.cell? ⟨w.heap.size, 3, none⟩ = some (.int .i64 x.hb) := fun X => cCc X.ok.box 3
 have q4 : ∀ X : WIn Inv, X.world.cell? ⟨w.heap.size, 4, none⟩ = some (.string x.hr) := fun X => cCc X.ok.box 4
 have q5 : ∀ X : WIn Inv, X.world.cell? ⟨w.heap.size, 5, none⟩ = some (.int .i64 x.cr) := fun X => cCc X.ok.box 5
 have q6 : ∀ X : WIn Inv, X.world.cell? ⟨w.heap.size, 6, none⟩ = some (.int .i64 x.cc) := fun X => cCc X.ok.box 6
 have q7 : ∀ X : WIn Inv, X.world.cell? ⟨w.heap.size, 7, none⟩ = some (.slice s.ca s.cl s.cc) := fun X => cCc X.ok.box 7
 have q8 : ∀ X : WIn Inv, X.world.cell? ⟨w.heap.size, 8, none⟩ = some (.int .i64 x.gf) := fun X => cCc X.ok.box 8
 have q9 : ∀ X : WIn Inv, X.world.cell? ⟨w.heap.size, 9, none⟩ = some (.slice s.ga s.gl s.gc) := fun X => cCc X.ok.box 9
 have K1 : Hid (∀ X : WIn Inv, Calls Tryz.prog 95 #[.agg #[.slice s.ea s.el s.ec]] X.world fun e w' => e = .returned (.bool (exRight x.e)) ∧ ∃ Y : WIn Inv, w' = Y.world) := fun X => calls_class_below hgo (exact_Right_any x.e s.ea s.el s.ec X.world (HeldIn.lists X.ok).e.1)
 have hfin : Hid (∀ X : WIn Inv, Below w.heap.size w X.world) := fun X => HeldIn.below X.ok
 have hI0 : Hid (Inv W0.drew) := hI.go (Below.refl _ _).drew
 have hne : Nonempty (WIn Inv) := ⟨⟨_, hI0.out⟩⟩
 clear hx hI hgo
 clear_value Inv
 go_enter Tryz.func84, Tryz.ntmps84
 go_wp2_with fail
 refine wp_region_class Inv (by kernel_rfl) (by kernel_rfl) hI0.out ?_
 repeat (first | go_big_quiet_step ((go_at_call 95; with_reducible exact K1.out _)) | quiet_step ((go_at_call 95; with_reducible exact K1.out _)))
 refine wpQuiet_nil ?_
 rintro _ ⟨X, rfl⟩
 go_wp2_with fail
 go_ret2
 exact ⟨rfl, hfin.out X⟩
set_option maxRecDepth 100000 in
set_option maxHeartbeats 2000000 in
theorem distinct1_any (x : Sk) (s : SS) (w : World) (hx : s.At w.heap.size w x) (h0 : (x.level == 0) = false) (h1 : 0 ≤ x.level) (h2 : x.level ≤ 4) :
  Calls Tryz.prog 84 #[.agg #[.int .i64 x.kind, .int .i64 x.level, .slice s.ea s.el s.ec, .int .i64 x.hb, .string x.hr, .int .i64 x.cr, .int .i64 x.cc, .slice s.ca s.cl s.cc, .int .i64 x.gf, .slice s.ga s.gl s.gc]] w fun e w' => e = .returned (.tuple #[.iface 147 (.agg #[.int .i64 x.hb, .string x.hr]), .bool (hlRight x.hb x.hr && (x.hb == 8 - x.level))]) ∧ Below w.heap.size w w' := by
 have hI := held_in x s w hx
 obtain ⟨W0, hW0⟩ : ∃ W0, w.alloc (.cells #[.int .i64 x.kind, .int .i64 x.level, .slice s.ea s.el s.ec, .int .i64 x.hb, .string x.hr, .int .i64 x.cr, .int .i64 x.cc, .slice s.ca s.cl s.cc, .int .i64 x.gf, .slice s.ga s.gl s.gc] 106) = W0 := ⟨_, rfl⟩
 rw [hW0] at hI
 obtain ⟨c0, c1, c2, c3, c4, c5, c6, c7, c8, c9⟩ := cl10 hI.box
 let Inv : World → Prop := HeldIn x s w
 have hgo : ∀ W W', Inv W → Below W.heap.size W W' → Inv W' := fun W W' h hb => HeldIn.go h hb
 have q0 : ∀ X : WIn Inv, X.world.cell? ⟨w.heap.size, 0, none⟩ = some (.int .i64 x.kind) := fun X => cCc X.ok.box 0
 have q1 : ∀ X : WIn Inv, X.world.cell? ⟨w.heap.size, 1, none⟩ = some (.int .i64 x.level) := fun X => cCc X.ok.box 1
 have q2 : ∀ X : WIn Inv, X.world.cell? ⟨w.heap.size, 2, none⟩ = some (.slice s.ea s.el s.ec) := fun X => cCc X.ok.box 2
 have q3 : ∀ X : WIn Inv, X.world.cell? ⟨w.heap.size, 3, none⟩ = some (.int .i64 x.hb) := fun X => cCc X.ok.box 3
 have q4 : ∀ X : WIn Inv, X.world.cell? ⟨w.heap.size, 4, none⟩ = some (.string x.hr) := fun X => cCc X.ok.box 4
 have q5 : ∀ X : WIn Inv, X.world.cell? ⟨w.heap.size, 5, none⟩ = some (.int .i64 x.cr) := fun X => cCc X.ok.box 5
 have q6 : ∀ X : WIn Inv, X.world.cell? ⟨w.heap.size, 6, none⟩ = some (.int .i64 x.cc) := fun X => cCc X.ok.box 6
 have q7 : ∀ X : WIn Inv, X.world.cell? ⟨w.heap.size, 7, none⟩ = some (.slice s.ca s.cl s.cc) := fun X => cCc X.ok.box 7
 have q8 : ∀ X : WIn Inv, X.world.cell? ⟨w.heap.size, 8, none⟩ = some (.int .i64 x.gf) := fun X => cCc X.ok.box 8
 have q9 : ∀ X : WIn Inv, X.world.cell? ⟨w.heap.size, 9, none⟩ = some (.slice s.ga s.gl s.gc) := fun X => cCc X.ok.box 9
 have K0 : Hid (∀ X : WIn Inv, Calls Tryz.prog 96 #[.agg #[.int .i64 x.hb, .string x.hr]] X.world fun e w' => e = .returned (.bool (hlRight x.hb x.hr)) ∧ ∃ Y : WIn Inv, w' = Y.world) := fun X => calls_class_below hgo (hll_Right_any x.hb x.hr X.world)
 have hfin : Hid (∀ X : WIn Inv, Below w.heap.size w X.world) := fun X => HeldIn.below X.ok
 have hI0 : Hid (Inv W0.drew) := hI.go (Below.refl _ _).drew
 have hne : Nonempty (WIn Inv) := ⟨⟨_, hI0.out⟩⟩
 have hw : IntKind.i64.wrap (8 - x.level) = 8 - x.level := IntWalk.i64_in _ (by omega)
 clear hx hI hgo
 clear_value Inv
 generalize hlRight x.hb x.hr = b1 at K0 ⊢
 cases b1
 ·have K1 := Lib.hid K0.out
  clear K0
  go_enter Tryz.func84, Tryz.ntmps84
  go_wp2_with fail
  refine wp_region_class Inv (by kernel_rfl) (by kernel_rfl) hI0.out ?_
  repeat (first | go_big_quiet_step ((go_at_call 96; with_reducible exact K1.out _)) | quiet_step ((go_at_call 96; with_reducible exact K1.out _)))
  refine wpQuiet_nil ?_
  rintro _ ⟨X, rfl⟩
  go_wp2_with fail
  go_ret2
  exact ⟨rfl, hfin.out X⟩
 ·have K1 := Lib.hid K0.out
  clear K0
  go_enter Tryz.func84, Tryz.ntmps84
  go_wp2_with fail
  refine wp_region_class Inv (by kernel_rfl) (by kernel_rfl) hI0.out ?_
  repeat (first | go_big_quiet_step ((go_at_call 96; with_reducible exact K1.out _)) | quiet_step ((go_at_call 96; with_reducible exact K1.out _)))
  refine wpQuiet_nil ?_
  rintro _ ⟨X, rfl⟩
  go_wp2_with fail
  go_ret2
  exact ⟨by simp, hfin.out X⟩
end Go.Proofs.YtcbbenncdainfaaGreatDoor
namespace Go.Proofs.YtcbbenncdainfaaGreatDoor
open Go Go.RowKit
set_option maxRecDepth 100000 in
set_option maxHeartbeats 4000000 in
theorem count_any (x : Sk) (s : SS) (w : World) (hx : s.At w.heap.size w x) (h1 : 0 ≤ x.level) (h2 : x.level ≤ 3) :
  Calls Tryz.prog 85 #[.agg #[.int .i64 x.kind, .int .i64 x.level, .slice s.ea s.el s.ec, .int .i64 x.hb, .string x.hr, .int .i64 x.cr, .int .i64 x.cc, .slice s.ca s.cl s.cc, .int .i64 x.gf, .slice s.ga s.gl s.gc]] w fun e w' => e = .returned (.tuple #[.iface 148 (.agg #[.int .i64 x.cr, .int .i64 x.cc, .slice s.ca s.cl s.cc]), .bool (cmRight x.cr x.cc x.cl && (x.cr == 2) && (x.cc == 32 / 2 ^ x.level.toNat))]) ∧ Below w.heap.size w w' := by
 have hI := held_in x s w hx
 obtain ⟨W0, hW0⟩ : ∃ W0, w.alloc (.cells #[.int .i64 x.kind, .int .i64 x.level, .slice s.ea s.el s.ec, .int .i64 x.hb, .string x.hr, .int .i64 x.cr, .int .i64 x.cc, .slice s.ca s.cl s.cc, .int .i64 x.gf, .slice s.ga s.gl s.gc] 106) = W0 := ⟨_, rfl⟩
 rw [hW0] at hI
 obtain ⟨c0, c1, c2, c3, c4, c5, c6, c7, c8, c9⟩ := cl10 hI.box
 let Inv : World → Prop := HeldIn x s w
 have hgo : ∀ W W', Inv W → Below W.heap.size W W' → Inv W' := fun W W' h hb => HeldIn.go h hb
 have q0 : ∀ X : WIn Inv, X.world.cell? ⟨w.heap.size, 0, none⟩ = some (.int .i64 x.kind) := fun X => cCc X.ok.box 0
 have q1 : ∀ X : WIn Inv, X.world.cell? ⟨w.heap.size, 1, none⟩ = some (.int .i64 x.level) := fun X => cCc X.ok.box 1
 have q2 : ∀ X : WIn Inv, X.world.cell? ⟨w.heap.size, 2, none⟩ = some (.slice s.ea s.el s.ec) := fun X => cCc X.ok.box 2
 have q3 : ∀ X : WIn Inv, X.world.cell? ⟨w.heap.size, 3, none⟩ = some (.int .i64 x.hb) := fun X => cCc X.ok.box 3
 have q4 : ∀ X : WIn Inv, X.world.cell? ⟨w.heap.size, 4, none⟩ = some (.string x.hr) := fun X => cCc X.ok.box 4
 have q5 : ∀ X : WIn Inv, X.world.cell? ⟨w.heap.size, 5, none⟩ = some (.int .i64 x.cr) := fun X => cCc X.ok.box 5
 have q6 : ∀ X : WIn Inv, X.world.cell? ⟨w.heap.size, 6, none⟩ = some (.int .i64 x.cc) := fun X => cCc X.ok.box 6
 have q7 : ∀ X : WIn Inv, X.world.cell? ⟨w.heap.size, 7, none⟩ = some (.slice s.ca s.cl s.cc) := fun X => cCc X.ok.box 7
 have q8 : ∀ X : WIn Inv, X.world.cell? ⟨w.heap.size, 8, none⟩ = some (.int .i64 x.gf) := fun X => cCc X.ok.box 8
 have q9 : ∀ X : WIn Inv, X.world.cell? ⟨w.heap.size, 9, none⟩ = some (.slice s.ga s.gl s.gc) := fun X => cCc X.ok.box 9
 have K0 : Hid (∀ X : WIn Inv, Calls Tryz.prog 97 #[.agg #[.int .i64 x.cr, .int .i64 x.cc, .slice s.ca s.cl s.cc]] X.world fun e w' => e = .returned (.bool (cmRight x.cr x.cc x.cl)) ∧ ∃ Y : WIn Inv, w' = Y.world) := fun X => calls_class_below hgo (cms_Right_any x.cr x.cc x.cl s.ca s.cl s.cc X.world (HeldIn.lists X.ok).c.1.1)
 have hfin : Hid (∀ X : WIn Inv, Below w.heap.size w X.world) := fun X => HeldIn.below X.ok
 have hI0 : Hid (Inv W0.drew) := hI.go (Below.refl _ _).drew
 have hne : Nonempty (WIn Inv) := ⟨⟨_, hI0.out⟩⟩
 clear hx hI hgo
 clear_value Inv
 generalize cmRight x.cr x.cc x.cl = b1 at K0 ⊢
 have hcs : b1 = false ∨ (b1 = true ∧ (x.cr == 2) = false) ∨ (b1 = true ∧ (x.cr == 2) = true) := by cases b1 <;> cases h : (x.cr == 2) <;> simp_all
 have K1 := Lib.hid K0.out
 clear K0
 rcases hcs with rfl | ⟨rfl, t2⟩ | ⟨rfl, t2⟩
 ·go_enter Tryz.func85, Tryz.ntmps85
  go_wp2_with fail
  refine wp_region_class Inv (by kernel_rfl) (by kernel_rfl) hI0.out ?_
  repeat (first | go_big_quiet_step ((go_at_call 97; with_reducible exact K1.out _)) | quiet_step ((go_at_call 97; with_reducible exact K1.out _)))
  refine wpQuiet_nil ?_
  rintro _ ⟨X, rfl⟩
  go_wp2_with fail
  go_ret2
  exact ⟨rfl, hfin.out X⟩
 ·go_enter Tryz.func85, Tryz.ntmps85
  go_wp2_with fail
  refine wp_region_class Inv (by kernel_rfl) (by kernel_rfl) hI0.out ?_
  repeat (first | go_big_quiet_step ((go_at_call 97; with_reducible exact K1.out _)) | quiet_step ((go_at_call 97; with_reducible exact K1.out _)))
  refine wpQuiet_nil ?_
  rintro _ ⟨X, rfl⟩
  go_wp2_with fail
  go_ret2
  exact ⟨by simp [t2], hfin.out X⟩
 ·go_enter Tryz.func85, Tryz.ntmps85
  go_wp2_with fail
  refine wp_region_class Inv (by kernel_rfl) (by kernel_rfl) hI0.out ?_
  repeat (first | go_big_quiet_step ((go_at_call 97; with_reducible exact K1.out _)) | quiet_step ((go_at_call 97; with_reducible exact K1.out _)))
  refine wpQuiet_nil ?_
  rintro _ ⟨X, rfl⟩
  go_wp2_with fail
  go_ret2
  exact ⟨by simp [t2], hfin.out X⟩
set_option maxRecDepth 100000 in
set_option maxHeartbeats 4000000 in
theorem lie_any (x : Sk) (s : SS) (w : World) (hx : s.At w.heap.size w x) (h1 : 0 ≤ x.level) (h2 : x.level ≤ 3) (hb : ∀ b ∈ x.gl, b.1 ≤ 9223372036854775807) :
  Calls Tryz.prog 86 #[.agg #[.int .i64 x.kind, .int .i64 x.level, .slice s.ea s.el s.ec, .int .i64 x.hb, .string x.hr, .int .i64 x.cr, .int .i64 x.cc, .slice s.ca s.cl s.cc, .int .i64 x.gf, .slice s.ga s.gl s.gc]] w fun e w' => e = .returned (.tuple #[.iface 150 (.agg #[.int .i64 x.gf, .slice s.ga s.gl s.gc]), .bool (hiRight x.gf x.gl && (x.gf == 3 - x.level))]) ∧ Below w.heap.size w w' := by
 have hI := held_in x s w hx
 obtain ⟨W0, hW0⟩ : ∃ W0, w.alloc (.cells #[.int .i64 x.kind, .int .i64 x.level, .slice s.ea s.el s.ec, .int .i64 x.hb, .string x.hr, .int .i64 x.cr, .int .i64 x.cc, .slice s.ca s.cl s.cc, .int .i64 x.gf, .slice s.ga s.gl s.gc] 106) = W0 := ⟨_, rfl⟩
 rw [hW0] at hI
 obtain ⟨c0, c1, c2, c3, c4, c5, c6, c7, c8, c9⟩ := cl10 hI.box
 let Inv : World → Prop := HeldIn x s w
 have hgo : ∀ W W', Inv W → Below W.heap.size W W' → Inv W' := fun W W' h hb => HeldIn.go h hb
 have q0 : ∀ X : WIn Inv, X.world.cell? ⟨w.heap.size, 0, none⟩ = some (.int .i64 x.kind) := fun X => cCc X.ok.box 0
 have q1 : ∀ X : WIn Inv, X.world.cell? ⟨w.heap.size, 1, none⟩ = some (.int .i64 x.level) := fun X => cCc X.ok.box 1
 have q2 : ∀ X : WIn Inv, X.world.cell? ⟨w.heap.size, 2, none⟩ = some (.slice s.ea s.el s.ec) := fun X => cCc X.ok.box 2
 have q3 : ∀ X : WIn Inv, X.world.cell? ⟨w.heap.size, 3, none⟩ = some (.int .i64 x.hb) := fun X => cCc X.ok.box 3
 have q4 : ∀ X : WIn Inv, X.world.cell? ⟨w.heap.size, 4, none⟩ = some (.string x.hr) := fun X => cCc X.ok.box 4
 have q5 : ∀ X : WIn Inv, X.world.cell? ⟨w.heap.size, 5, none⟩ = some (.int .i64 x.cr) := fun X => cCc X.ok.box 5
 have q6 : ∀ X : WIn Inv, X.world.cell? ⟨w.heap.size, 6, none⟩ = some (.int .i64 x.cc) := fun X => cCc X.ok.box 6
 have q7 : ∀ X : WIn Inv, X.world.cell? ⟨w.heap.size, 7, none⟩ = some (.slice s.ca s.cl s.cc) := fun X => cCc X.ok.box 7
 have q8 : ∀ X : WIn Inv, X.world.cell? ⟨w.heap.size, 8, none⟩ = some (.int .i64 x.gf) := fun X => cCc X.ok.box 8
 have q9 : ∀ X : WIn Inv, X.world.cell? ⟨w.heap.size, 9, none⟩ = some (.slice s.ga s.gl s.gc) := fun X => cCc X.ok.box 9
 have K0 : Hid (∀ X : WIn Inv, Calls Tryz.prog 98 #[.agg #[.int .i64 x.gf, .slice s.ga s.gl s.gc]] X.world fun e w' => e = .returned (.bool (hiRight x.gf x.gl)) ∧ ∃ Y : WIn Inv, w' = Y.world) := fun X => calls_class_below hgo (hist_Right_any x.gf x.gl s.ga s.gl s.gc X.world (HeldIn.lists X.ok).g.1 (Nat.le_trans (HeldIn.lists X.ok).g.2.1 (HeldIn.lists X.ok).g.2.2.1) hb)
 have hfin : Hid (∀ X : WIn Inv, Below w.heap.size w X.world) := fun X => HeldIn.below X.ok
 have hI0 : Hid (Inv W0.drew) := hI.go (Below.refl _ _).drew
 have hne : Nonempty (WIn Inv) := ⟨⟨_, hI0.out⟩⟩
 have hw : IntKind.i64.wrap (3 - x.level) = 3 - x.level := IntWalk.i64_in _ (by omega)
 clear hx hI hgo hb
 clear_value Inv
 generalize hiRight x.gf x.gl = b1 at K0 ⊢
 have K1 := Lib.hid K0.out
 clear K0
 cases b1
 ·go_enter Tryz.func86, Tryz.ntmps86
  go_wp2_with fail
  refine wp_region_class Inv (by kernel_rfl) (by kernel_rfl) hI0.out ?_
  repeat (first | go_big_quiet_step ((go_at_call 98; with_reducible exact K1.out _)) | quiet_step ((go_at_call 98; with_reducible exact K1.out _)))
  refine wpQuiet_nil ?_
  rintro _ ⟨X, rfl⟩
  go_wp2_with fail
  go_ret2
  exact ⟨rfl, hfin.out X⟩
 ·go_enter Tryz.func86, Tryz.ntmps86
  go_wp2_with fail
  refine wp_region_class Inv (by kernel_rfl) (by kernel_rfl) hI0.out ?_
  repeat (first | go_big_quiet_step ((go_at_call 98; with_reducible exact K1.out _)) | quiet_step ((go_at_call 98; with_reducible exact K1.out _)))
  refine wpQuiet_nil ?_
  rintro _ ⟨X, rfl⟩
  go_wp2_with fail
  go_ret2
  exact ⟨by simp, hfin.out X⟩
def kindsMap : Array MapEntry := #[{ key := .int .i64 1, val := .func (.func 84) #[] #[], born := 0 }, { key := .int .i64 2, val := .func (.func 85) #[] #[], born := 1 }, { key := .int .i64 3, val := .func (.func 86) #[] #[], born := 2 }]
theorem und_kinds : Tryz.prog.underlying 102 = some (.map 3 100) := by kernel_rfl
theorem kinds_any (w : World) : Calls Tryz.prog 62 #[] w fun e w' => e = .returned (.map (some w.heap.size)) ∧ w' = w.alloc (.map kindsMap 3) := by
 have hmm := @run_makeMap Tryz.prog
 have u1 := mapUpd_alloc (P := Tryz.prog) w (clock := 0) (es := #[]) (n := 1) (.func (.func 84) #[] #[]) und_kinds Tryz.underlying3 rfl
 have u2 := mapUpd_alloc (P := Tryz.prog) w (clock := 1) (es := #[{ key := .int .i64 1, val := .func (.func 84) #[] #[], born := 0 }]) (n := 2) (.func (.func 85) #[] #[]) und_kinds Tryz.underlying3 rfl
 have u3 := mapUpd_alloc (P := Tryz.prog) w (clock := 2) (es := #[{ key := .int .i64 1, val := .func (.func 84) #[] #[], born := 0 }, { key := .int .i64 2, val := .func (.func 85) #[] #[], born := 1 }]) (n := 3) (.func (.func 86) #[] #[]) und_kinds Tryz.underlying3 rfl
 simp only [List.push_toArray, List.nil_append, List.cons_append, Nat.zero_add, Nat.reduceAdd] at u1 u2 u3
 go_enter Tryz.func62, Tryz.ntmps62
 go_wp2_with fail
 go_ret
 exact ⟨rfl, rfl⟩
end Go.Proofs.YtcbbenncdainfaaGreatDoor

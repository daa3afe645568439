/- Package exact: gather. The law of a range over an iterator that goes on for ever: the body leaves it by its label. ladder.levels. -/
import Derived.Test.YthbhmnakmhambaaGreatDoorZA2
import Derived.Test.YthbhmnakmhambaaGreatDoorZC0
namespace Go.Proofs.YthbhmnakmhambaaGreatDoor
open Go Go.RowKit Go.Shelf
attribute [local go_sem] Oper.semAt_some
theorem gm_len : ∀ (more l m : List Int), exGather l more = some m → l.length ≤ 64 → m.length ≤ 64
 | [], l, m, h, hl => by simp only [exGather, Option.some.injEq] at h; rw [← h]; exact hl
 | n :: r, l, m, h, hl => by
  simp only [exGather] at h
  split at h
  ·cases h
  ·exact gm_len r _ m h (by omega)
theorem gm_up : ∀ (more l m : List Int), exGather l more = some m → Up l → Up m
 | [], l, m, h, hl => by simp only [exGather, Option.some.injEq] at h; rw [← h]; exact hl
 | n :: r, l, m, h, hl => by
  simp only [exGather] at h
  split at h
  ·cases h
  ·exact gm_up r _ m h (by rw [exIns_eq l n hl]; exact insR_up l n hl)
theorem make_u64 (w : World) (len : Nat) (h : len ≤ 1000) : ∃ w1, (Instr.makeSlice 28 (.int .i64 (len : Int)) (.int .i64 (len : Int))).run Tryz.prog w = .ok (.slice (some ⟨w.heap.size, 0, none⟩) len len) w1 ∧ (∃ cur, w1.heap[w.heap.size]? = some (.cells cur 41 (0, 0)) ∧ cur.size = len) ∧ Below w.heap.size w w1 ∧ w1.heap.size = w.heap.size + 1 := by
 obtain ⟨i, hi, hz, hsize, hby⟩ := info_parts info_u64
 have hr := run_makeSlice (P := Tryz.prog) (w := w) 28 41 i _ und_u64 hi hz .i64 .i64 (len : Int) (len : Int) (by omega) (Int.le_refl _) (by rw [hsize]; omega) (by rw [hby]; omega) (by omega)
 rw [Int.toNat_natCast] at hr
 exact ⟨_, hr, ⟨_, World.alloc_heap_new _ _, by rw [size_madeCells, hsize]; simp⟩, (Below.refl _ w).alloc (Nat.le_refl _) _, by simp⟩
theorem cell_own {X Y : World} {row : Option Nat} {p : Addr} {v : Value} (hc : X.cell? p = some v) (hg : X.grownBy Y row) (hr : ∀ r, row = some r → ∃ o : Obj, X.heap[r]? = some o ∧ o.isCells = false) : Y.cell? p = some v := by
 have hlt := World.block_lt_of_cell? X _ hc
 refine (World.cell?_of_block (hg.block _ hlt (fun e => ?_))).trans hc
 obtain ⟨o, ho, h2⟩ := hr _ e.symm
 unfold World.cell? at hc
 rw [ho] at hc
 cases o <;> simp_all [Obj.isCells]
theorem ownSlC {C : Nat} {X Y : World} {row : Option Nat} {a : Option Addr} {len cap : Nat} {l : List Int} (hs : SlC encU 1 X.heap.size X a len cap l) (hg : X.grownBy Y row) (hr : ∀ r, row = some r → C ≤ r ∧ ∃ o : Obj, X.heap[r]? = some o ∧ o.isCells = false) : SlC encU 1 Y.heap.size Y a len cap l := by
 have h1 : SlC encU 1 X.heap.size Y a len cap l := ⟨⟨hs.1.1, fun j x hx => by
  obtain ⟨b, off, e, hb, hc⟩ := hs.1.2 j x hx
  refine ⟨b, off, e, hb, fun i hi => ?_⟩
  obtain rfl : i = 0 := by omega
  exact cell_own (hc 0 (by omega)) hg (fun r h => (hr r h).2)⟩, hs.2⟩
 exact h1.mono hg.size
def tooMany : ByteArray := ⟨#[116, 111, 111, 32, 109, 97, 110, 121, 32, 110, 117, 109, 98, 101, 114, 115]⟩
def GatherPost (l more : List Int) (w : World) (e : Ending) (w' : World) : Prop := Below w.heap.size w w' ∧ match exGather l more with
 | some m => ∃ a cap, e = .returned (.tuple #[.agg #[.slice a m.length cap], .nilIface]) ∧ SlC encU 1 w'.heap.size w' a m.length cap m ∧ (∀ x, a = some x → w.heap.size ≤ x.block)
 | none => e = .returned (.tuple #[.agg #[.slice none 0 0], .iface 322 (.agg #[.string tooMany])])
theorem wp_range_brk1 {α : Type} {P : Program} {g : Operand} {ps : Array Tmp} {assign body : Code} {Q : Exit → Act → World → Prop} {a : Act} {w : World} {id : Nat} (n₀ s1 : Nat) (v1 : α → Value)
  {gf : Nat} {lb : Array Value} (hg : a.eval g = .func (.func gf) #[] lb) (eg : ∀ args w, (callFunc gf args).run P w = .ok (.enter gf args) w)
  {encs : α → Array Value} {xs : List α} {N : Nat} {w0 : World} (hseq : SeqStopsK Fence.wide 8 P gf lb encs (Below n₀) (fun ys => ys = xs) (fun pre => pre <+: xs) N w0)
  (hn₀ : n₀ ≤ w.heap.size) (hb0 : Below w0.heap.size w0 w) (hps : ∀ x, (encs x).size = ps.size)
  (I Ib : List α → World → Prop) (hI : OwnFrom w.heap.size I) (hIb : OwnFrom w.heap.size Ib) (h0 : I [] w)
  (hassign : ∀ (l : Nat) (pre : List α) (x : α) (W : World) (K : Act → World → Prop), I pre W → (I pre W → K { tmps := ((ps.zip (encs x)).foldl (fun t (p, v) => t.setIfInBounds p v) a.tmps).setIfInBounds s1 (v1 x), defers := [] } W) →
   assign.wpIn (Fence.wide.inRound l) 7 P (Exit.then K (fun _ _ _ => False)) { tmps := (ps.zip (encs x)).foldl (fun t (p, v) => t.setIfInBounds p v) a.tmps, defers := [] } W)
  (hbody : ∀ (l : Nat) (pre : List α) (x : α) (W : World), I pre W → pre.length < N → body.wpIn (Fence.wide.inRound l) 7 P (ownPostG w.heap.size (Below n₀) I (fun c pre W => c = .exit id ∧ Ib pre W) (pre ++ [x]) W) { tmps := ((ps.zip (encs x)).foldl (fun t (p, v) => t.setIfInBounds p v) a.tmps).setIfInBounds s1 (v1 x), defers := [] } W)
  (hfin : ∀ (D : Nat) (W : World), w.heap.size ≤ D → (I xs W ∨ ∃ pre, pre <+: xs ∧ Ib pre W) → W.heap[D]? = some (.deferred (some [])) → Q .normal { a with defers := { target := .collected D, args := #[] } :: a.defers } W) :
  (Code.rangeFunc g ps assign body).wp P (Exit.inBlock id Q) a w :=
 wp_range_set s1 v1 hg eg hseq hn₀ hb0 hps I (fun c pre W => c = .exit id ∧ Ib pre W) hI (fun _ => (ownFrom_pure _ _).and hIb) h0 hassign hbody (fun D W hD hi hK => hfin D W hD (.inl hi) hK)
  (fun D c pre W hD hp hi hK => by obtain ⟨rfl, hi⟩ := hi; exact wp_exit (by show (if id = id then Q .normal _ _ else Q (.exit id) _ _); rw [if_pos rfl]; exact hfin D W hD (.inr ⟨pre, hp, hi⟩) hK))
theorem exGather_none : ∀ (pre r l : List Int), exGather l pre = none → exGather l (pre ++ r) = none
 | [], r, l, h => by simp [exGather] at h
 | x :: pre, r, l, h => by
  simp only [List.cons_append, exGather] at h ⊢
  split
  ·rfl
  ·rename_i h1
   rw [if_neg h1] at h
   exact exGather_none pre r _ h
def GI (l : List Int) (w : World) (pre : List Int) (W : World) : Prop := ∃ (cur : List Int) (a : Option Addr) (cap : Nat), exGather l pre = some cur ∧ Boxed W (w.heap.size + 2) 28 (.slice a cur.length cap) ∧ SlC encU 1 W.heap.size W a cur.length cap cur ∧
 (∀ x, a = some x → w.heap.size < x.block ∧ x.block ≠ w.heap.size + 2 ∧ x.block ≠ w.heap.size + 3) ∧ Boxed W (w.heap.size + 3) 110 .nilIface ∧ Boxed W w.heap.size 30 (.slice none 0 0) ∧ Below w.heap.size w W
def GIb (l : List Int) (w : World) (pre : List Int) (W : World) : Prop := exGather l pre = none ∧ Boxed W (w.heap.size + 3) 110 (.iface 322 (.agg #[.string tooMany])) ∧ Boxed W w.heap.size 30 (.slice none 0 0) ∧ Below w.heap.size w W
theorem gi_own (l : List Int) (w : World) (C : Nat) (hC : w.heap.size + 5 ≤ C) : OwnFrom C (GI l w) := fun pre X Y row hs hg hr => by
 obtain ⟨cur, a, cap, h1, h2, h3, h4, h5, h6, h7⟩ := hs
 exact ⟨cur, a, cap, h1, ownBox _ _ _ (fun _ => .slice a cur.length cap) () X Y row h2 hg hr, ownSlC h3 hg hr, h4, ownBox _ _ _ (fun _ => .nilIface) () X Y row h5 hg hr, ownBox _ _ _ (fun _ => .slice none 0 0) () X Y row h6 hg hr, ownFrom_below (β := Unit) (B := C) (Nat.le_refl _) (by omega) () X Y row h7 hg hr⟩
theorem gib_own (l : List Int) (w : World) (C : Nat) (hC : w.heap.size + 5 ≤ C) : OwnFrom C (GIb l w) := fun pre X Y row hs hg hr => by
 obtain ⟨h1, h5, h6, h7⟩ := hs
 exact ⟨h1, ownBox _ _ _ (fun _ => .iface 322 (.agg #[.string tooMany])) () X Y row h5 hg hr, ownBox _ _ _ (fun _ => .slice none 0 0) () X Y row h6 hg hr, ownFrom_below (β := Unit) (B := C) (Nat.le_refl _) (by omega) () X Y row h7 hg hr⟩
attribute [-go_sem] Builtin.append_
set_option maxRecDepth 100000 in
set_option maxHeartbeats 2000000 in
theorem gather_any (l more : List Int) (a : Option Addr) (len cap : Nat) (ma : Option Addr) (mlen mcap : Nat) (w : World) (hL : SlE encU 1 w.heap.size w a len l) (hM : SlE encU 1 w.heap.size w ma mlen more) (hu : Up l) (hl : len ≤ 64) (hm : mlen ≤ 1000) (hn : a = none → len = 0) :
  Calls Tryz.prog 200 #[.slice a len cap, .slice ma mlen mcap] w (GatherPost l more w) := by
 have hll := hL.1
 subst hll
 obtain ⟨Wr, hWr, hXr, hBr, hsr⟩ := boxes1 w #[.slice none 0 0] 30
 obtain ⟨W1, hmk, ⟨cur, hc1, hc2⟩, hB1, hs1⟩ := make_u64 Wr l.length (by omega)
 rw [hsr] at hc1 hmk hB1 hs1
 obtain ⟨W2, hW2, hX2, hB2, hs2⟩ := boxes1 W1 #[.slice (some ⟨w.heap.size + 1, 0, none⟩) l.length l.length] 28
 rw [hs1] at hX2 hB2 hs2
 have hb02 : Below w.heap.size w W2 := (hBr.trans (hB1.mono (by omega))).trans (hB2.mono (by omega))
 have hcw : W2.heap[w.heap.size + 1]? = some (.cells cur 41 (0, 0)) := (hB2.block _ (by omega)).trans hc1
 obtain ⟨W3, hcp, hX3, hB3, hs3, hk3⟩ := copy_u64 (cap := cap) hcw hc2 ((hL.below hb02)) hn
 have hb03 : Below w.heap.size w W3 := hb02.trans (hB3.mono (by omega))
 have hX32 : W3.heap[w.heap.size + 1 + 1]? = some (.cells #[.slice (some ⟨w.heap.size + 1, 0, none⟩) l.length l.length] 28 (0, 0)) := (hk3 _ (by omega)).trans hX2
 have k2 : W2.cell? ⟨w.heap.size + 1 + 1, 0, none⟩ = some (.slice (some ⟨w.heap.size + 1, 0, none⟩) l.length l.length) := cCc hX2 0
 refine calls_marks Tryz.func200 rfl ?_
 simp only [Tryz.ntmps200, List.size_toArray, List.length_cons, List.length_nil, Nat.reduceAdd, Nat.reduceSub, Array.replicate_succ, Array.replicate_zero, List.push_toArray, List.append_toArray, List.nil_append, List.cons_append]
 go_wp2_with fail
 go_step3
 go_wp2_with fail
 obtain ⟨W4, hW4, hX4, hB4, hs4⟩ := boxes1 W3 #[.nilIface] 110
 rw [hW4]
 have hs3' : W3.heap.size = w.heap.size + 3 := by omega
 obtain ⟨W5, hW5, hX5, hB5, hs5⟩ := boxes1 W4 #[.slice ma mlen mcap] 28
 have HW5 := Lib.hid hW5
 apply wp_label
 have hX32' := hX32
 have hB2' := hB2
 have hB1' := hB1
 clear hW4 hW5 hWr hmk hW2 hcp hX2 k2 hX32
 go_wp2_with (go_at_call 206; refine (exEach_any _ _ _ _).mono ?_; rintro e w' ⟨rfl, rfl⟩; rw [HW5.out])
 have hb05 : Below w.heap.size w W5 := (hb03.trans (hB4.mono (by omega))).trans (hB5.mono (by omega))
 have hS3 : SlC encU 1 W3.heap.size W3 (some ⟨w.heap.size + 1, 0, none⟩) l.length l.length l := by
  refine ⟨⟨rfl, fun j x hx => ⟨w.heap.size + 1, 0, rfl, by omega, fun i hi => ?_⟩⟩, Nat.le_refl _, by unfold maxLen; omega, (fun h => by cases h), fun x hx _ => by cases hx; exact ⟨rfl, by show w.heap.size + 1 < _; omega⟩⟩
  obtain rfl : i = 0 := by omega
  have h5 := flat_cell encU 1 (fun _ => rfl) l j 0 x hx (by omega)
  rw [cCc hX3, Nat.zero_add]
  simpa using h5
 have hG0 : GI l w [] W5 := by
  refine ⟨l, _, l.length, rfl, ?_, (hS3.go hB4).go hB5, (fun x hx => by cases hx; exact ⟨Nat.lt_succ_self _, by show w.heap.size + 1 ≠ _; omega, by show w.heap.size + 1 ≠ _; omega⟩), ?_, ?_, hb05⟩
  ·exact (hB5.block _ (by omega)).trans ((hB4.block _ (by omega)).trans hX32')
  ·refine (hB5.block _ (by omega)).trans ?_
   rw [hs3'] at hX4
   exact hX4
  ·refine (hB5.block _ (by omega)).trans ((hB4.block _ (by omega)).trans ((hk3 _ (by omega)).trans ((hB2'.block _ (by omega)).trans ?_)))
   exact (hB1'.block _ (by omega)).trans hXr
 rw [hs4, hs3'] at hX5
 have hC5 : w.heap.size + 5 ≤ W5.heap.size := by omega
 have hseq := values_u64 (w.heap.size + 3 + 1) w.heap.size ma mlen mcap more (by omega) W5 (by omega) (by omega) (cCc hX5 0) (hM.below hb05)
 have HU := Lib.hid hu
 have HLen := Lib.hid hl
 clear hc1 hcw hX3 hX4 hX5 hB1 hB2 hB3 hB4 hB5 hb02 hb03 hk3 hS3 hXr hX32' hB2' hB1' hL hM hu
 refine wp_range_brk1 w.heap.size 8 (fun x : Int => .int .u64 x) (gf := 208) (lb := #[.pointer (some ⟨w.heap.size + 3 + 1, 0, none⟩)]) rfl (enters_of Tryz.func208 (by kernel_rfl) rfl)
  hseq (by omega) (Below.refl _ _) (fun _ => rfl) (GI l w) (GIb l w) (gi_own l w _ hC5) (gib_own l w _ hC5) hG0 ?assign ?body ?fin
 case assign =>
  rintro l pre x W K hI hK
  simp only [List.zip_toArray, List.zip_cons_cons, List.zip_nil_right, List.size_toArray, List.foldl_toArray', List.foldl_cons, List.foldl_nil, List.setIfInBounds_toArray, List.set_cons_succ, List.set_cons_zero] at hK ⊢
  gi_wp2
  exact hI
 case body =>
  rintro lo pre x W ⟨cur, a1, cap1, hg, hb1, hS, hfar, hb2, hb3, hB⟩ hlt
  simp only [List.zip_toArray, List.zip_cons_cons, List.zip_nil_right, List.size_toArray, List.foldl_toArray', List.foldl_cons, List.foldl_nil, List.setIfInBounds_toArray, List.set_cons_succ, List.set_cons_zero]
  have c0 := hb1.cell
  have hcl := gm_len pre l cur hg HLen.out
  have hW := with_any cur a1 cur.length cap1 x W hS (gm_up pre l cur hg HU.out) (by omega)
  clear hS
  have hb1' := hb1
  have hb2' := hb2
  have hb3' := hb3
  clear hb1 hb2 hb3
  gi_wp2_with fail
  refine ⟨trivial, (CallsIn.inRound lo (callsIn_wide.2 hW)).mono ?_⟩
  rintro e W6 ⟨a6, cap6, rfl, hS6, hfar6, hB6⟩
  have hz : w.heap.size + 3 < W.heap.size := hb2'.lt
  have p1 : Boxed W6 (w.heap.size + 2) 28 (.slice a1 cur.length cap1) := (hB6.block _ (by omega)).trans hb1'
  have p2 : Boxed W6 (w.heap.size + 3) 110 .nilIface := (hB6.block _ (by omega)).trans hb2'
  have p3 : Boxed W6 w.heap.size 30 (.slice none 0 0) := (hB6.block _ (by omega)).trans hb3'
  have hf6 : ∀ y, a6 = some y → w.heap.size < y.block ∧ y.block ≠ w.heap.size + 2 ∧ y.block ≠ w.heap.size + 3 := by
   rcases hfar6 with rfl | h
   ·exact hfar
   ·intro y hy
    have := h y hy
    omega
  have q1 := p1.cell
  have q2 := p1.frozen
  have q3 := p2.cell
  have q4 := p2.frozen
  obtain ⟨W7, hW7, k7⟩ : ∃ W7, W6.setCell ⟨w.heap.size + 2, 0, none⟩ (.slice a6 (exIns cur x).length cap6) = W7 ∧ KeepsFrom W5.heap.size W6 W7 := ⟨_, rfl, (KeepsOthers.setCell W6 _ _).from _⟩
  have r1 : Boxed W7 (w.heap.size + 2) 28 (.slice a6 (exIns cur x).length cap6) := by rw [← hW7]; exact p1.set _
  have r2 : Boxed W7 (w.heap.size + 3) 110 .nilIface := by rw [← hW7]; exact p2.other (by omega) _
  have r3 : Boxed W7 w.heap.size 30 (.slice none 0 0) := by rw [← hW7]; exact p3.other (by omega) _
  have rS : SlC encU 1 W7.heap.size W7 a6 (exIns cur x).length cap6 (exIns cur x) := by
   have hzz : W7.heap.size = W6.heap.size := by rw [← hW7]; simp
   rw [hzz, ← hW7]
   exact hS6.set_far (fun y hy => by have := hf6 y hy; show w.heap.size + 2 ≠ _; omega) _
  have rB : Below w.heap.size W W7 := by rw [← hW7]; exact (hB6.mono (by omega)).setCell (p := ⟨w.heap.size + 2, 0, none⟩) (by show _ ≤ _ + 2; omega) _
  have s1 := r1.cell
  have s3 := r2.cell
  have s4 := r2.frozen
  have hk67 : KeepsFrom W5.heap.size W W7 := (bKeeps hB6 (Nat.le_refl _)).trans k7
  have hgs := exGather_snoc pre l x
  rw [hg] at hgs
  have hgs' : exGather l (pre ++ [x]) = if 64 < (exIns cur x).length then none else some (exIns cur x) := hgs
  have HX := Lib.hid (And.intro p1 (And.intro p2 p3))
  clear p1 p2 p3 hb1' hb2' hb3' hgs hg q3 q4
  by_cases hbig : 64 < (exIns cur x).length
  ·have hbig' : (64 : Int) < ((exIns cur x).length : Int) := by omega
   rw [if_pos hbig] at hgs'
   gi_wp2_with fail
   refine ⟨hk67.trans ((KeepsOthers.setCell W7 _ _).from _), rfl, hgs', r2.set _, r3.other (by omega) _, (hB.trans rB).setCell (p := ⟨w.heap.size + 3, 0, none⟩) (by show _ ≤ _ + 3; omega) _⟩
  ·have hbig' : ¬ (64 : Int) < ((exIns cur x).length : Int) := by omega
   rw [if_neg hbig] at hgs'
   gi_wp2_with fail
   exact ⟨hk67, rB, exIns cur x, a6, cap6, hgs', r1, rS, hf6, r2, r3, hB.trans rB⟩
 case fin =>
  rintro D W hD hi hK
  rcases hi with ⟨cur, a1, cap1, hg, hb1, hS, hfar, hb2, hb3, hB⟩ | ⟨pre, hpre, hg, hb2, hb3, hB⟩
  ·have q1 := hb1.cell
   have q2 := hb2.cell
   have q3 := hb3.cell
   have q4 := hb3.frozen
   go_wp2_with fail
   rw [Exit.noGoto_ret]
   have hKs := dfSet hK ⟨w.heap.size, 0, none⟩ (.slice a1 cur.length cap1)
   have hBs : Below w.heap.size w (W.setCell ⟨w.heap.size, 0, none⟩ (.slice a1 cur.length cap1)) := hB.setCell (p := ⟨w.heap.size, 0, none⟩) (Nat.le_refl _) _
   have hzz : (W.setCell ⟨w.heap.size, 0, none⟩ (.slice a1 cur.length cap1)).heap.size = W.heap.size := by simp
   have hSs : SlC encU 1 (W.setCell ⟨w.heap.size, 0, none⟩ (.slice a1 cur.length cap1)).heap.size (W.setCell ⟨w.heap.size, 0, none⟩ (.slice a1 cur.length cap1)) a1 cur.length cap1 cur := by
    rw [hzz]
    exact hS.set_far (fun y hy => by have := hfar y hy; show w.heap.size ≠ _; omega) _
   have hne : some w.heap.size ≠ some D := fun e => by cases e; omega
   have e1 := ((hb3.set (.slice a1 cur.length cap1)).kept (grownBy_putObj' _ D (.deferred none)) hne).cell
   refine marks_ret1 (v := .tuple #[.agg #[.slice a1 cur.length cap1], .nilIface]) hKs ?_ ?_
   ·simp [results, Tryz.f200, go_sem, e1]
   ·refine ⟨bPutD hBs (by omega) hKs, ?_⟩
    rw [hg]
    exact ⟨a1, cap1, rfl, ownSlC (C := 0) hSs (grownBy_putObj' _ D _) (fun r e => by cases e; exact ⟨Nat.zero_le _, _, hKs, rfl⟩), fun y hy => by have := hfar y hy; omega⟩
  ·have q2 := hb2.cell
   have q3 := hb3.cell
   have q4 := hb3.frozen
   go_wp2_with fail
   go_region
   have hKs : (W.setCell ⟨w.heap.size, 0, none⟩ (.slice none 0 0)).drew.heap[D]? = some (.deferred (some [])) := dfSet hK ⟨w.heap.size, 0, none⟩ (.slice none 0 0)
   have hBs : Below w.heap.size w (W.setCell ⟨w.heap.size, 0, none⟩ (.slice none 0 0)).drew := (hB.setCell (p := ⟨w.heap.size, 0, none⟩) (Nat.le_refl _) _).drew
   have hne : some w.heap.size ≠ some D := fun e => by cases e; omega
   have hb4 : Boxed (W.setCell ⟨w.heap.size, 0, none⟩ (.slice none 0 0)).drew w.heap.size 30 (.slice none 0 0) := hb3.set _
   have e1 := (hb4.kept (grownBy_putObj' _ D (.deferred none)) hne).cell
   go_wp2_with fail
   rw [Exit.noGoto_ret]
   refine marks_ret1 (v := .tuple #[.agg #[.slice none 0 0], .iface 322 (.agg #[.string tooMany])]) hKs ?_ ?_
   ·simp [results, Tryz.f200, go_sem, e1]
   ·refine ⟨bPutD hBs (by omega) hKs, ?_⟩
    have hgn : exGather l more = none := by
     obtain ⟨r, rfl⟩ := hpre
     exact exGather_none pre r l hg
    rw [hgn]
end Go.Proofs.YthbhmnakmhambaaGreatDoor
namespace Go.Proofs.YthbhmnakmhambaaGreatDoor
open Go Go.RowKit Go.Shelf
attribute [local go_sem] Oper.semAt_some
def Counts (P : Program) (gf : Nat) (lb : Array Value) (enc : Nat → Value) (L : List Nat) (M : Nat) (w : World) : Prop :=
 ∀ (l : Nat) (J : Nat → World → Prop) (Jx : World → Prop) (W : World), Below w.heap.size w W → (∀ k W1, J k W1 → k < M) →
  (∀ k W1, J k W1 → YieldAt Fence.wide 7 P l #[enc k] W1 fun e W' => (e = .returned (.bool true) ∧ J (k + 1) W' ∧ KL L W1 W') ∨ (e = .returned (.bool false) ∧ Jx W')) →
  J 0 W → CallsIn Fence.wide 8 P gf (#[.func (.yield l) #[] #[]] ++ lb) W fun e W' => (∃ v, e = .returned v) ∧ Jx W'
theorem wp_range_count {P : Program} {g : Operand} {ps : Array Tmp} {assign body : Code} {Q : Exit → Act → World → Prop} {a : Act} {w : World} {id : Nat} (L : List Nat) (T : Nat → Array Value)
  {gf : Nat} {lb : Array Value} (hg : a.eval g = .func (.func gf) #[] lb) (eg : ∀ args w, (callFunc gf args).run P w = .ok (.enter gf args) w)
  {enc : Nat → Value} {M : Nat} (hseq : Counts P gf lb enc L M w) (hL : ∀ b ∈ L, b < w.heap.size) (hps : ps.size = 1)
  (I : Nat → World → Prop) (Ib : World → Prop) (hI : OwnFrom w.heap.size I) (hIb : OwnFrom w.heap.size (fun (_ : Unit) W => Ib W)) (hM : ∀ k W, I k W → k < M) (h0 : I 0 w)
  (hassign : ∀ (l k : Nat) (W : World) (K : Act → World → Prop), I k W → K { tmps := T k, defers := [] } W →
   assign.wpIn (Fence.wide.inRound l) 7 P (Exit.then K (fun _ _ _ => False)) { tmps := (ps.zip #[enc k]).foldl (fun t (p, v) => t.setIfInBounds p v) a.tmps, defers := [] } W)
  (hbody : ∀ (l k : Nat) (W : World), I k W → body.wpIn (Fence.wide.inRound l) 7 P (ownPostG w.heap.size (KL L) (fun (_ : List Unit) => I (k + 1)) (fun c (_ : List Unit) W => c = .exit id ∧ Ib W) [] W) { tmps := T k, defers := [] } W)
  (hfin : ∀ (D : Nat) (W : World), w.heap.size ≤ D → Ib W → W.heap[D]? = some (.deferred (some [])) → Q .normal { a with defers := { target := .collected D, args := #[] } :: a.defers } W) :
  (Code.rangeFunc g ps assign body).wp P (Exit.inBlock id Q) a w := by
 refine (wpIn_wide (n := 9)).1 (wpIn_rangeFunc fun fn hfn => ?_)
 obtain ⟨rc, hrc⟩ : ∃ rc : LoopState → Option Code → Loop, rc = fun st pe => { state := st, pending := pe, fn, tmps := a.tmps, params := ps, assign, body, defers := w.heap.size } := ⟨_, rfl⟩
 obtain ⟨V0, hV0, hd0, hB0, hz0⟩ : ∃ V0, w.alloc (.deferred (some [])) = V0 ∧ V0.heap[w.heap.size]? = some (.deferred (some [])) ∧ Below w.heap.size w V0 ∧ V0.heap.size = w.heap.size + 1 := ⟨_, rfl, World.alloc_heap_new _ _, (Below.refl _ w).alloc (Nat.le_refl _) _, by simp⟩
 obtain ⟨V1, hV1, hl1, hB1, hz1⟩ : ∃ V1, V0.alloc (.loop (rc .ready none)) = V1 ∧ V1.heap[w.heap.size + 1]? = some (.loop (rc .ready none)) ∧ Below V0.heap.size V0 V1 ∧ V1.heap.size = w.heap.size + 2 := ⟨_, rfl, by rw [← hz0]; exact World.alloc_heap_new _ _, (Below.refl _ V0).alloc (Nat.le_refl _) _, by simp [hz0]⟩
 have hd1 : V1.heap[w.heap.size]? = some (.deferred (some [])) := (hB1.block _ (by omega)).trans hd0
 have hi1 : I 0 V1 := by rw [← hV1, ← hV0]; exact hI.alloc _ (hI.alloc _ h0)
 have hb1 : Below w.heap.size w V1 := hB0.trans (hB1.mono (by omega))
 refine ⟨w.heap.size + 1, [{ target := .collected w.heap.size, args := #[] }], V1, { target := .fn (.func gf) lb, args := #[.func (.yield (w.heap.size + 1)) #[] #[]] }, V1, gf, #[.func (.yield (w.heap.size + 1)) #[] #[]] ++ lb, V1, ?_, ?_, fun f' hf' => trivial, ?_, (fun _ => by decide), ?_⟩
 ·rw [← hV1, ← hV0, hrc]; exact run_enterLoop_outer _ _ _ _ _
 ·simp only [resolve, hg]
  simp [go_sem]
 ·simp [invoke, go_sem, eg]
 refine (hseq (w.heap.size + 1) (fun k W => I k W ∧ W.heap[w.heap.size + 1]? = some (.loop (rc .ready none)) ∧ W.heap[w.heap.size]? = some (.deferred (some [])))
  (fun W => Ib W ∧ W.heap[w.heap.size + 1]? = some (.loop (rc .done (some (.exit id)))) ∧ W.heap[w.heap.size]? = some (.deferred (some []))) V1 hb1 (fun k W1 h => hM k W1 h.1) ?_ ⟨hi1, hl1, hd1⟩).mono ?_
 ·rintro k W ⟨hi, hl, hk⟩
  have hlt := (Array.getElem?_eq_some_iff.1 hl).1
  have hy := run_yield (P := P) (args := #[enc k]) hl (by rw [hrc]; exact hps.symm)
  rw [hrc] at hy
  refine ⟨fn, _, assign, body, hy, roundIn_of_wpIn hfn (hassign _ k W _ hi ?_)⟩
  obtain ⟨W2, hW2⟩ : ∃ W2, W.putObj (w.heap.size + 1) (.loop { rc .ready none with state := .busy }) = W2 := ⟨_, rfl⟩
  have hl2 : W2.heap[w.heap.size + 1]? = some (.loop { rc .ready none with state := .busy }) := by rw [← hW2]; exact World.putObj_heap_same hlt
  have hk2 : W2.heap[w.heap.size]? = some (.deferred (some [])) := by rw [← hW2]; exact (World.putObj_heap_other (by omega)).trans hk
  have hi2 : I k W2 := by rw [← hW2]; exact hI.putObj _ hi (by omega) hl rfl
  have hp2 : KL L W W2 := by rw [← hW2]; exact fun b hb o ho => (World.putObj_heap_other (by have := hL b hb; omega)).trans ho
  refine ⟨W2, by rw [← hW2]; exact run_beginRound hl (by rw [hrc]), wpIn_mono (hbody _ k W2 hi2) ?_⟩
  have ends : ∀ (jump : Option Code) (W3 : World), KeepsFrom w.heap.size W2 W3 → (Instr.endRound (w.heap.size + 1) jump).run P W3 = .ok (.bool jump.isNone) (W3.putObj (w.heap.size + 1) (.loop (rc (if jump.isNone then .ready else .done) jump))) ∧
    W3.heap[w.heap.size + 1]? = some (.loop { rc .ready none with state := .busy }) ∧ W3.heap[w.heap.size]? = some (.deferred (some [])) := fun jump W3 h3 => by
   have hl3 := h3.same _ _ (by omega) hl2 rfl
   have h := run_endRound (P := P) jump hl3
   rw [hrc] at h hl3 ⊢
   exact ⟨h, hl3, h3.same _ _ (Nat.le_refl _) hk2 rfl⟩
  rintro e a3 W3 hp
  cases e with
  | normal =>
   obtain ⟨h3, hp3, hi3⟩ := hp
   obtain ⟨hr, hl3, hk3⟩ := ends none W3 h3
   have hz3 := (Array.getElem?_eq_some_iff.1 hl3).1
   exact ⟨_, _, hr, .inl ⟨rfl, ⟨hI.putObj _ hi3 (by omega) hl3 rfl, World.putObj_heap_same hz3, (World.putObj_heap_other (by omega)).trans hk3⟩, (hp2.trans hp3).trans fun b hb o ho => (World.putObj_heap_other (by have := hL b hb; omega)).trans ho⟩⟩
  | exit i =>
   obtain ⟨h3, he, hi3⟩ := hp
   obtain rfl : i = id := by simpa using he
   obtain ⟨hr, hl3, hk3⟩ := ends (some (.exit i)) W3 h3
   have hz3 := (Array.getElem?_eq_some_iff.1 hl3).1
   exact ⟨_, _, hr, .inr ⟨rfl, hIb.putObj (s := ()) _ hi3 (by omega) hl3 rfl, World.putObj_heap_same hz3, (World.putObj_heap_other (by omega)).trans hk3⟩⟩
  | ret => obtain ⟨_, he, _⟩ := hp; cases he
  | goto t => obtain ⟨_, he, _⟩ := hp; cases he
  | panic ch => exact hp.elim
  | outgrown => exact hp.elim
 ·rintro e W2 ⟨⟨v, rfl⟩, hi, hl, hk⟩
  refine ⟨some (.exit id), _, by have h := run_endLoop (P := P) hl (by rw [hrc]; simp); rw [hrc] at h; exact h, ?_⟩
  refine wpIn_wide.2 (wp_exit ?_)
  show (if id = id then Q .normal _ _ else Q (.exit id) _ _)
  rw [if_pos rfl]
  exact hfin _ _ (Nat.le_refl _) (hIb.putObj (s := ()) _ hi (by omega) hl rfl) ((World.putObj_heap_other (by omega)).trans hk)
theorem levels_any (n : Int) (w : World) :
  Calls Tryz.prog 145 #[.int .i64 n] w fun e w' => e = .returned (.func (.func 160) #[] #[.pointer (some ⟨w.heap.size, 0, none⟩)]) ∧ w' = w.alloc (.cells #[.int .i64 n] 3) := by
 go_enter Tryz.func145, Tryz.ntmps145
 go_wp2
 go_ret
 exact ⟨rfl, rfl⟩
set_option maxRecDepth 100000 in
set_option maxHeartbeats 1000000 in
theorem levels_counts (Bs n M : Nat) (w : World) (hB : w.heap[Bs]? = some (.cells #[.int .i64 n] 3 (0, 0))) (hn : n + M ≤ 1000) :
  Counts Tryz.prog 160 #[.pointer (some ⟨Bs, 0, none⟩)] (fun k => .int .i64 ((n : Int) + (k : Int))) [] M w := by
 intro l J Jx W hW hM hY h0
 refine callsIn_of_wp Tryz.func160 rfl trivial ?_ rfl
 simp only [Tryz.ntmps160, List.size_toArray, List.length_cons, List.length_nil, Nat.reduceAdd, Nat.reduceSub, Array.replicate_succ, Array.replicate_zero, List.push_toArray, List.append_toArray, List.nil_append, List.cons_append]
 have c9 : W.cell? ⟨Bs, 0, none⟩ = some (.int .i64 n) := cCc (known hW (Nat.le_refl _) hB) 0
 gi_wp2
 gi_loopw [3] (fun i wr => ∃ k : Nat, i = .int .i64 ((n : Int) + (k : Int)) ∧ J k wr) (fun i _ => M + n - (intOf i).toNat)
 case atStart => exact ⟨0, rfl, h0⟩
 case round =>
  obtain ⟨k, rfl, hJ⟩ := hrel
  have hk := hM k _ hJ
  have hk1 : (n : Int) + (k : Int) + 1 ≤ 1000 := by omega
  obtain ⟨fn, tmps, assign, body, hy, hR⟩ := hY k _ hJ
  gi_wp2
  refine hR.mono ?_
  rintro e W3 (⟨rfl, hJ3, -⟩ | ⟨rfl, hJx⟩)
  ·have hw : IntKind.i64.wrap ((n : Int) + (k : Int) + 1) = (n : Int) + ((k : Int) + 1) := by rw [IntWalk.i64_in _ (by omega)]; omega
   have hw2 : wrap64 ((n : Int) + (k : Int) + 1) = (n : Int) + ((k : Int) + 1) := by unfold wrap64; omega
   gi_wp2
   go_roundw
   case rel => exact ⟨k + 1, by simp, hJ3⟩
   case measure => simp [intOf]; omega
  ·gi_wp2
   go_end0
   exact ⟨⟨_, rfl⟩, hJx⟩
end Go.Proofs.YthbhmnakmhambaaGreatDoor

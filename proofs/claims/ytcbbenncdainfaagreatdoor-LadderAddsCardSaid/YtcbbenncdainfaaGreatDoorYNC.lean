/- Package hll: Count. Package cms: Count (how often a number came at most). The reference of layer 8: Plus, New, Col, Add, Merge, Lower, Count, at counters that are right. Package hist: sums (how many values are in the bins up to each), saturated. -/
import Derived.RegionIn
import Derived.Test.YtcbbenncdainfaaGreatDoorYRKw
namespace Go.Proofs.YtcbbenncdainfaaGreatDoor
open Go Go.RowKit Go.Shelf
attribute [local go_sem] Oper.semAt_some
def hcTerm (r : Nat) : Nat := 2 ^ (32 - min r 32)
def hcSum (l : List (Nat × UInt8)) : Nat := l.foldl (fun a p => a + hcTerm p.2.toNat) 0
def hcSome (l : List (Nat × UInt8)) : Bool := l.any fun p => p.2.toNat != 0
theorem hcSum_snoc (l : List (Nat × UInt8)) (x : Nat × UInt8) : hcSum (l ++ [x]) = hcSum l + hcTerm x.2.toNat := by unfold hcSum; rw [List.foldl_append]; rfl
theorem hcSome_snoc (l : List (Nat × UInt8)) (x : Nat × UInt8) : hcSome (l ++ [x]) = (hcSome l || (x.2.toNat != 0)) := by simp [hcSome]
theorem hcTerm_le (r : Nat) : 1 ≤ hcTerm r ∧ hcTerm r ≤ 4294967296 := by
 unfold hcTerm
 have h1 : 2 ^ (32 - min r 32) ≤ 2 ^ 32 := Nat.pow_le_pow_right (by omega) (by omega)
 exact ⟨Nat.one_le_two_pow, h1⟩
theorem hcSum_le (l : List (Nat × UInt8)) : l.length ≤ hcSum l ∧ hcSum l ≤ l.length * 4294967296 := by
 have key : ∀ (m : List (Nat × UInt8)), m.length ≤ hcSum m.reverse ∧ hcSum m.reverse ≤ m.length * 4294967296 := by
  intro m
  induction m with
  | nil => exact ⟨Nat.le_refl _, Nat.le_refl _⟩
  | cons x m ih =>
   rw [List.reverse_cons, hcSum_snoc, List.length_cons]
   have := hcTerm_le x.2.toNat
   omega
 have h := key l.reverse
 rw [List.reverse_reverse, List.length_reverse] at h
 exact h
def NI (m n : Nat) (w w1 : World) (pre : List (Nat × UInt8)) (W : World) : Prop := Boxed W m 4 (.bool (hcSome pre)) ∧ Boxed W (m + 1) 43 (.int .u64 (hcSum pre : Nat)) ∧ (∀ k, k < w1.heap.size → k ≠ m → k ≠ m + 1 → W.heap[k]? = w1.heap[k]?) ∧ Below n w W
theorem ni_own (m n : Nat) (w w1 : World) (hn : n ≤ w.heap.size) (C : Nat) (hC : w1.heap.size ≤ C) (hC2 : n ≤ C) : OwnFrom C (NI m n w w1) := fun pre X Y row hs hg hr => by
 obtain ⟨h1, h2, h3, h4⟩ := hs
 have hr' : ∀ r, row = some r → ∃ o : Obj, X.heap[r]? = some o ∧ o.isCells = false := fun r e => (hr r e).2
 refine ⟨ownBlk h1 hg hr', ownBlk h2 hg hr', fun k hk e1 e2 => ?_, ownFrom_below (β := Unit) (B := C) hn hC2 () X Y row h4 hg hr⟩
 have h5 := h3 k hk e1 e2
 refine (hg.block k ?_ (fun e => ?_)).trans h5
 ·have h6 : w1.heap[k]? ≠ none := by rw [Array.getElem?_eq_getElem hk]; simp
  rw [← h5] at h6
  rcases Nat.lt_or_ge k X.heap.size with h | h
  ·exact h
  ·exact absurd (Array.getElem?_eq_none h) h6
 ·have := (hr k e.symm).1
  omega
theorem hc_step (pre : List (Nat × UInt8)) (x : Nat × UInt8) (h : pre.length < 256) : IntKind.u64.wrap ((hcSum pre : Nat) + IntKind.u64.wrap (2 ^ (32 - min (x.2.toNat : Int) 32).toNat)) = ((hcSum pre + hcTerm x.2.toNat : Nat) : Int) := by
 have h1 := hcSum_le pre
 have h2 := hcTerm_le x.2.toNat
 have h3 : (32 - min (x.2.toNat : Int) 32).toNat = 32 - min x.2.toNat 32 := by omega
 rw [h3, show (2 : Int) ^ (32 - min x.2.toNat 32) = ((hcTerm x.2.toNat : Nat) : Int) from by unfold hcTerm; rw [Int.natCast_pow]; rfl]
 rw [show IntKind.u64.wrap ((hcTerm x.2.toNat : Nat) : Int) = ((hcTerm x.2.toNat : Nat) : Int) from u64_small _ (by omega) (by omega)]
 rw [show ((hcSum pre : Nat) : Int) + ((hcTerm x.2.toNat : Nat) : Int) = ((hcSum pre + hcTerm x.2.toNat : Nat) : Int) from (Int.natCast_add _ _).symm]
 exact u64_small _ (by omega) (by omega)
theorem hc_quo (m S : Nat) (hm : m ≤ 256) :
  IntKind.u64.wrap ((IntKind.u64.wrap (IntKind.u64.wrap (IntKind.u64.wrap (7 * IntKind.u64.wrap (m : Int)) * IntKind.u64.wrap (m : Int)) * 4294967296)).tdiv (10 * (S : Int))) = ((7 * m * m * 4294967296 / (10 * S) : Nat) : Int) := by
 have hmm : m * m ≤ 256 * 256 := Nat.mul_le_mul hm hm
 have hm7 : 7 * m * m = 7 * (m * m) := Nat.mul_assoc _ _ _
 rw [show IntKind.u64.wrap (m : Int) = (m : Int) from u64_small _ (by omega) (by omega)]
 rw [show IntKind.u64.wrap (7 * (m : Int)) = ((7 * m : Nat) : Int) from u64_small _ (by omega) (by omega)]
 rw [show ((7 * m : Nat) : Int) * (m : Int) = ((7 * m * m : Nat) : Int) from (Int.natCast_mul _ _).symm]
 rw [show IntKind.u64.wrap ((7 * m * m : Nat) : Int) = ((7 * m * m : Nat) : Int) from u64_small _ (by omega) (by omega)]
 rw [show ((7 * m * m : Nat) : Int) * 4294967296 = ((7 * m * m * 4294967296 : Nat) : Int) from (Int.natCast_mul _ _).symm]
 rw [show IntKind.u64.wrap ((7 * m * m * 4294967296 : Nat) : Int) = ((7 * m * m * 4294967296 : Nat) : Int) from u64_small _ (by omega) (by omega)]
 rw [show 10 * (S : Int) = ((10 * S : Nat) : Int) from (Int.natCast_mul _ _).symm]
 rw [show ((7 * m * m * 4294967296 : Nat) : Int).tdiv ((10 * S : Nat) : Int) = ((7 * m * m * 4294967296 / (10 * S) : Nat) : Int) from (Int.ofNat_tdiv _ _).symm ▸ rfl]
 have hle : 7 * m * m * 4294967296 / (10 * S) ≤ 7 * m * m * 4294967296 := Nat.div_le_self _ _
 generalize 7 * m * m * 4294967296 / (10 * S) = q at hle ⊢
 exact u64_small _ (by omega) (by omega)
theorem ni_step {m n : Nat} {w w1 W : World} {pre : List (Nat × UInt8)} {x : Nat × UInt8} (hn : n ≤ m) (h : NI m n w w1 pre W) (v u : Value) (hv : v = .bool (hcSome pre || (x.2.toNat != 0))) (hu : u = .int .u64 ((hcSum pre + hcTerm x.2.toNat : Nat) : Int)) :
  KeepsFrom w1.heap.size W ((W.setCell ⟨m, 0, none⟩ v).setCell ⟨m + 1, 0, none⟩ u) ∧ KL [m + 2] W ((W.setCell ⟨m, 0, none⟩ v).setCell ⟨m + 1, 0, none⟩ u) ∧ NI m n w w1 (pre ++ [x]) ((W.setCell ⟨m, 0, none⟩ v).setCell ⟨m + 1, 0, none⟩ u) := by
 obtain ⟨h1, h2, h3, h4⟩ := h
 have ho : ∀ k, k ≠ m → k ≠ m + 1 → ((W.setCell ⟨m, 0, none⟩ v).setCell ⟨m + 1, 0, none⟩ u).heap[k]? = W.heap[k]? := fun k e1 e2 =>
  (heap_set_other (p := ⟨m + 1, 0, none⟩) (fun e => e2 e.symm) u).trans (heap_set_other (p := ⟨m, 0, none⟩) (fun e => e1 e.symm) v)
 refine ⟨((KeepsOthers.setCell W _ v).from _).trans ((KeepsOthers.setCell _ _ u).from _), fun k hk o hO => ?_, ?_, ?_, fun k hk e1 e2 => (ho k e1 e2).trans (h3 k hk e1 e2), ?_⟩
 ·have : k = m + 2 := by simpa using hk
  exact (ho k (by omega) (by omega)).trans hO
 ·rw [hcSome_snoc, ← hv]
  exact (heap_set_other (p := ⟨m + 1, 0, none⟩) (by show m + 1 ≠ m; omega) u).trans (hSk h1 _)
 ·rw [hcSum_snoc, ← hu]
  exact hSk ((heap_set_other (p := ⟨m, 0, none⟩) (by show m ≠ m + 1; omega) v).trans h2) _
 ·exact (h4.setCell (p := ⟨m, 0, none⟩) (by show n ≤ m; omega) v).setCell (p := ⟨m + 1, 0, none⟩) (by show n ≤ m + 1; omega) u
def hlCount (b : Nat) (s : ByteArray) : Nat := if hcSome (octs s) then 7 * 2 ^ b * 2 ^ b * 4294967296 / (10 * hcSum (octs s)) else 0
set_option maxRecDepth 100000 in
set_option maxHeartbeats 2000000 in
theorem hCount_any (b : Nat) (r : List Nat) (w : World) (h1 : 3 ≤ b) (h2 : b ≤ 8) (hl : r.length = 2 ^ b) (hr : ∀ i, r.getD i 0 ≤ 65 - b) :
  Calls Tryz.prog 166 #[.agg #[.int .i64 b, .string (hlStr r)]] w fun e w' => e = .returned (.int .u64 (hlCount b (hlStr r) : Nat)) ∧ Below w.heap.size w w' := by
 have hR : Hid (∀ w1, Calls Tryz.prog 96 #[.agg #[.int .i64 b, .string (hlStr r)]] w1 fun e w' => e = .returned (.bool true) ∧ Below w1.heap.size w1 w') := fun w1 => (hll_Right_any b (hlStr r) w1).mono fun e w' h => ⟨by rw [h.1, hlRight_str b r h1 h2 hl hr], h.2⟩
 have hsz : (hlStr r).size = 2 ^ b := by rw [hlStr_size, hl]
 generalize hlStr r = s at hR hsz ⊢
 have h256 : 2 ^ b ≤ 256 := Nat.pow_le_pow_right (by omega) h2
 have h8 : 8 ≤ 2 ^ b := show 2 ^ 3 ≤ 2 ^ b from Nat.pow_le_pow_right (by omega) h1
 have HSZ := Lib.hid hsz
 have H256 := Lib.hid (And.intro h8 h256)
 clear hl hr h1 h2 hsz h256 h8
 obtain ⟨W0, hW0, hX0, hB0, hs0⟩ := boxes1 w #[.int .i64 b, .string s] 26
 have HX0 := Lib.hid hX0
 have HB0 := Lib.hid hB0
 obtain ⟨c0, c1⟩ := cl2 hX0
 clear hX0 hB0
 refine calls_marks Tryz.func166 rfl ?_
 simp only [Tryz.ntmps166, List.size_toArray, List.length_cons, List.length_nil, Nat.reduceAdd, Nat.reduceSub, Array.replicate_succ, Array.replicate_zero, List.push_toArray, List.append_toArray, List.nil_append, List.cons_append]
 go_wp2_with fail
 refine (hR.out _).mono ?_
 rintro e w1 ⟨rfl, hb1⟩
 have hX1 := known hb1 (Nat.le_refl _) HX0.out
 obtain ⟨d0, d1⟩ := cl2 hX1
 obtain ⟨W2, hW2, hb3, hb4, hB2, hs2⟩ := boxes2 w1 #[.bool false] 4 #[.int .u64 0] 43
 have hX2 := known hB2 (Nat.le_refl _) hX1
 obtain ⟨e0, e1⟩ := cl2 hX2
 have z1 : W2.setCell ⟨w1.heap.size, 0, none⟩ (.bool false) = W2 := set_same hb3 rfl
 have z2 : W2.setCell ⟨w1.heap.size + 1, 0, none⟩ (.int .u64 0) = W2 := set_same hb4 rfl
 have y0 : W2.cell? ⟨w1.heap.size, 0, none⟩ = some (.bool false) := cCc hb3 0
 have z0 : W2.cell? ⟨w1.heap.size + 1, 0, none⟩ = some (.int .u64 0) := cCc hb4 0
 have y9 : W2.frozen? ⟨w1.heap.size, 0, none⟩ = false := cFz hb3 0
 have z9 : W2.frozen? ⟨w1.heap.size + 1, 0, none⟩ = false := cFz hb4 0
 obtain ⟨W3, hW3, hX3, hB3, hs3⟩ := boxes1 W2 #[.string s] 9
 have HW3 := Lib.hid hW3
 have hz1 : w.heap.size + 1 ≤ w1.heap.size := by have := hb1.size; omega
 have hBw3 : Below w.heap.size w W3 := HB0.out.trans ((hb1.trans ((hB2.trans (hB3.mono hB2.size)).mono hb1.size)).mono HB0.out.size)
 have h0 : NI w1.heap.size w.heap.size w W3 [] W3 := ⟨known hB3 (Nat.le_refl _) hb3, known hB3 (Nat.le_refl _) hb4, fun _ _ _ _ => rfl, hBw3⟩
 have H0 := Lib.hid h0
 have HX3 := Lib.hid (known hB3 (Nat.le_refl _) hX2)
 have HXs := Lib.hid (show W3.heap[w1.heap.size + 2]? = _ from hs2 ▸ hX3)
 have HS23 : Hid (W2.heap.size = w1.heap.size + 2 ∧ W3.heap.size = W2.heap.size + 1) := ⟨hs2, hs3⟩
 clear hW3 hX1 hX2 hX3 hb3 hb4 hB2 hB3 hb1 hBw3 h0 d0 d1 hs3
 go_wp2_with (go_at_call 104; refine (ranks_any _ _).mono ?_; rintro e w' ⟨rfl, rfl⟩; rw [HW3.out])
 have hzz : w1.heap.size + 2 < W3.heap.size := by have := HS23.out; omega
 refine wp_range_all1 [w1.heap.size + 2] 6 (fun x : Nat × UInt8 => .int .u8 x.2.toNat) (gf := 110) (lb := #[.pointer (some ⟨w1.heap.size + 2, 0, none⟩)]) rfl (enters_of Tryz.func110 (by kernel_rfl) rfl)
  (ranks_kl (fun x : Nat × UInt8 => x) (w1.heap.size + 2) s (by have := HSZ.out; have := H256.out.2; omega) (octs s) (List.map_id' _) W3 HXs.out) (by intro k hk; simp at hk; omega) (Below.refl _ _) (fun _ => rfl) (NI w1.heap.size w.heap.size w W3) (ni_own w1.heap.size w.heap.size w W3 (Nat.le_refl _) _ (Nat.le_refl _) (by omega)) H0.out ?assign ?body ?fin
 case assign =>
  rintro l pre x W K hI hK
  simp only [List.zip_toArray, List.zip_cons_cons, List.zip_nil_right, List.size_toArray, List.foldl_toArray', List.foldl_cons, List.foldl_nil, List.setIfInBounds_toArray, List.set_cons_succ, List.set_cons_zero] at hK ⊢
  gi_wp2
  exact hI
 case body =>
  rintro lo pre x W hN hlt
  obtain ⟨hN1, hN2, hN3, hN4⟩ := id hN
  simp only [List.zip_toArray, List.zip_cons_cons, List.zip_nil_right, List.size_toArray, List.foldl_toArray', List.foldl_cons, List.foldl_nil, List.setIfInBounds_toArray, List.set_cons_succ, List.set_cons_zero]
  have q1 := hN1.cell
  have q2 := hN1.frozen
  obtain ⟨V1, hV1⟩ : ∃ V1, W.setCell ⟨w1.heap.size, 0, none⟩ (.bool (hcSome pre || (x.2.toNat != 0))) = V1 := ⟨_, rfl⟩
  have hO1 : OnlyAt w1.heap.size W V1 := by rw [← hV1]; exact (OnlyAt.refl _ _).set _ _
  have hM1 : V1.heap[w1.heap.size]? = some (.cells #[.bool (hcSome pre || (x.2.toNat != 0))] 4 (0, 0)) := by rw [← hV1]; exact hSk hN1 _
  have hM2 : Boxed V1 (w1.heap.size + 1) 43 (.int .u64 (hcSum pre : Nat)) := (hO1.2 _ (by omega)).trans hN2
  have q3 := hM2.cell
  have q4 := hM2.frozen
  have hx8 := UInt8.toNat_lt x.2
  generalize hsm : hcSome pre = sm at q1 hV1 hM1
  have hl2 : pre.length < 256 := by have := HSZ.out; have := H256.out.2; have := octs_len s; omega
  cases sm with
  | true =>
   simp only [Bool.true_or] at hV1 hM1
   gi_wp2_with fail
   rw [← hV1]
   exact ni_step (by omega) hN _ _ (by rw [hsm]; rfl) (by rw [hc_step pre x hl2])
  | false =>
   have hs1 := hc_step pre x hl2
   rcases Nat.eq_zero_or_pos x.2.toNat with e | e
   ·have hv : (false || (x.2.toNat != 0)) = false := by simp [e]
    rw [hv] at hV1 hM1
    gi_wp2_with fail
    rw [← hV1]
    refine ni_step (by omega) hN _ _ (by rw [hsm, hv]) ?_
    rw [e] at hs1 ⊢
    rw [← hs1]
    rfl
   ·have hv : (false || (x.2.toNat != 0)) = true := by simp; omega
    rw [hv] at hV1 hM1
    have e1 : ((x.2.toNat : Int) != 0) = true := by simp; omega
    gi_wp2_with fail
    rw [← hV1]
    exact ni_step (by omega) hN _ _ (by rw [hsm, hv]) (by rw [Int.natCast_add])
 case fin =>
  rintro D W hD ⟨hN1, hN2, hN3, hN4⟩ hK
  have q1 := hN1.cell
  have q2 := hN2.cell
  have hX0 := (hN3 w.heap.size (by omega) (by omega) (by omega)).trans HX3.out
  obtain ⟨k0, k1⟩ := cl2 hX0
  have hle := hcSum_le (octs s)
  rw [octs_len, HSZ.out] at hle
  have H6 := H256.out
  generalize hsm : hcSome (octs s) = sm at q1
  cases sm with
  | false =>
   go_wp2_with fail
   refine marks_ret1 (v := .int .u64 0) hK (by simp [results, Tryz.f166, go_sem]) ⟨?_, bPutD hN4 (by omega) hK⟩
   rw [hlCount, hsm]
   rfl
  | true =>
   have hq : IntKind.u64.wrap ((IntKind.u64.wrap (IntKind.u64.wrap (IntKind.u64.wrap (7 * IntKind.u64.wrap (s.size : Nat)) * IntKind.u64.wrap (s.size : Nat)) * 4294967296)).tdiv (10 * ((hcSum (octs s) : Nat) : Int))) = ((hlCount b s : Nat) : Int) := by
    rw [hlCount, hsm, HSZ.out]
    exact hc_quo _ _ H6.2
   go_wp2_with fail
   refine marks_ret1 (v := .int .u64 (hlCount b s : Nat)) hK (by simp [results, Tryz.f166, go_sem]) ⟨rfl, bPutD hN4 (by omega) hK⟩
end Go.Proofs.YtcbbenncdainfaaGreatDoor
namespace Go.Proofs.YtcbbenncdainfaaGreatDoor
open Go Go.RowKit Go.Shelf
attribute [local go_sem] Oper.semAt_some
theorem wp_range_brkL {α : Type} {P : Program} {g : Operand} {ps : Array Tmp} {assign body : Code} {Q : Exit → Act → World → Prop} {a : Act} {w : World} {id : Nat} (L : List Nat) (s1 : Nat) (v1 : α → Value)
  {gf : Nat} {lb : Array Value} (hg : a.eval g = .func (.func gf) #[] lb) (eg : ∀ args w, (callFunc gf args).run P w = .ok (.enter gf args) w)
  {encs : α → Array Value} {xs : List α} {N : Nat} {w0 : World} (hseq : SeqStopsK Fence.wide 8 P gf lb encs (KL L) (fun ys => ys = xs) (fun pre => pre <+: xs) N w0)
  (hL : ∀ b ∈ L, b < w.heap.size) (hb0 : Below w0.heap.size w0 w) (hps : ∀ x, (encs x).size = ps.size)
  (I Ib : List α → World → Prop) (hI : OwnFrom w.heap.size I) (hIb : OwnFrom w.heap.size Ib) (h0 : I [] w)
  (hassign : ∀ (l : Nat) (pre : List α) (x : α) (W : World) (K : Act → World → Prop), I pre W → (I pre W → K { tmps := ((ps.zip (encs x)).foldl (fun t (p, v) => t.setIfInBounds p v) a.tmps).setIfInBounds s1 (v1 x), defers := [] } W) →
   assign.wpIn (Fence.wide.inRound l) 7 P (Exit.then K (fun _ _ _ => False)) { tmps := (ps.zip (encs x)).foldl (fun t (p, v) => t.setIfInBounds p v) a.tmps, defers := [] } W)
  (hbody : ∀ (l : Nat) (pre : List α) (x : α) (W : World), I pre W → pre.length < N → body.wpIn (Fence.wide.inRound l) 7 P (ownPostG w.heap.size (KL L) I (fun c pre W => c = .exit id ∧ Ib pre W) (pre ++ [x]) W) { tmps := ((ps.zip (encs x)).foldl (fun t (p, v) => t.setIfInBounds p v) a.tmps).setIfInBounds s1 (v1 x), defers := [] } W)
  (hfin : ∀ (D : Nat) (W : World), w.heap.size ≤ D → (I xs W ∨ ∃ pre, pre <+: xs ∧ Ib pre W) → W.heap[D]? = some (.deferred (some [])) → Q .normal { a with defers := { target := .collected D, args := #[] } :: a.defers } W) :
  (Code.rangeFunc g ps assign body).wp P (Exit.inBlock id Q) a w :=
 (wpIn_wide (n := 9)).1 (wpIn_rangeFunc_ownH rfl (by omega) hg trivial eg hseq (fun h k => h.trans k)
  (fun W l o o' hl h _ _ => KL.grown (grownBy_putObj' W l o') (fun k hk e => by cases e; have := hL _ hk; omega)) hb0 hps I (fun c pre W => c = .exit id ∧ Ib pre W) hI (fun _ => (ownFrom_pure _ _).and hIb) h0
  (fun x a' _ => a' = { tmps := ((ps.zip (encs x)).foldl (fun t (p, v) => t.setIfInBounds p v) a.tmps).setIfInBounds s1 (v1 x), defers := [] }) (fun _ _ => ownFrom_pure _ _)
  (fun l pre x W K hi hK => hassign l pre x W K hi (fun hi' => hK _ _ (KeepsFrom.refl _ _) (KL.refl _ _) hi' rfl))
  (fun l pre x a' W _ _ hi hax hlt => by subst hax; exact hbody l pre x W hi hlt) (fun D ys W hD e hi hK => by subst e; exact hfin D W hD (.inl hi) hK)
  (fun D c pre W hD hp hi hK => by obtain ⟨rfl, hi⟩ := hi; exact wpIn_wide.2 (wp_exit (by show (if id = id then Q .normal _ _ else Q (.exit id) _ _); rw [if_pos rfl]; exact hfin D W hD (.inr ⟨pre, hp, hi⟩) hK))))
def cmLeast {n : Nat} (l : List Int) (pre : List { k : Nat // k < n }) : Int := pre.foldl (fun m x => min m (l.getD x.1 0)) 18446744073709551615
theorem cmLeast_snoc {n : Nat} (l : List Int) (pre : List { k : Nat // k < n }) (x : { k : Nat // k < n }) : cmLeast l (pre ++ [x]) = min (cmLeast l pre) (l.getD x.1 0) := by unfold cmLeast; rw [List.foldl_append]; rfl
theorem cmLeast_u64 {n : Nat} (l : List Int) (hl : U64s l) (pre : List { k : Nat // k < n }) : U64 (cmLeast l pre) := by
 have key : ∀ (m : List { k : Nat // k < n }), U64 (cmLeast l m.reverse) := by
  intro m
  induction m with
  | nil => exact ⟨by show (0 : Int) ≤ 18446744073709551615; omega, by show (18446744073709551615 : Int) ≤ 18446744073709551615; omega⟩
  | cons x m ih =>
   rw [List.reverse_cons, cmLeast_snoc]
   have := getD_u64 l hl x.1
   unfold U64 at *
   omega
 have h := key pre.reverse
 rwa [List.reverse_reverse] at h
theorem cmLeast_zero {n : Nat} (l : List Int) (hl : U64s l) (pre r : List { k : Nat // k < n }) (h : cmLeast l pre = 0) : cmLeast l (pre ++ r) = 0 := by
 have key : ∀ (m : List { k : Nat // k < n }), cmLeast l (pre ++ m.reverse) = 0 := by
  intro m
  induction m with
  | nil => rw [List.reverse_nil, List.append_nil]; exact h
  | cons x m ih =>
   rw [List.reverse_cons, ← List.append_assoc, cmLeast_snoc, ih]
   have := getD_u64 l hl x.1
   unfold U64 at this
   omega
 have h := key r.reverse
 rwa [List.reverse_reverse] at h
def KI {n : Nat} (l : List Int) (m N : Nat) (w w1 : World) (pre : List { k : Nat // k < n }) (W : World) : Prop := Boxed W m 43 (.int .u64 (cmLeast l pre)) ∧ (∀ k, k < w1.heap.size → k ≠ m → W.heap[k]? = w1.heap[k]?) ∧ Below N w W
theorem ki_own {n : Nat} (l : List Int) (m N : Nat) (w w1 : World) (hn : N ≤ w.heap.size) (C : Nat) (hC : w1.heap.size ≤ C) (hC2 : N ≤ C) : OwnFrom C (KI (n := n) l m N w w1) := fun pre X Y row hs hg hr => by
 obtain ⟨h1, h3, h4⟩ := hs
 have hr' : ∀ r, row = some r → ∃ o : Obj, X.heap[r]? = some o ∧ o.isCells = false := fun r e => (hr r e).2
 refine ⟨ownBlk h1 hg hr', fun k hk e1 => ?_, ownFrom_below (β := Unit) (B := C) hn hC2 () X Y row h4 hg hr⟩
 have h5 := h3 k hk e1
 refine (hg.block k ?_ (fun e => ?_)).trans h5
 ·have h6 : w1.heap[k]? ≠ none := by rw [Array.getElem?_eq_getElem hk]; simp
  rw [← h5] at h6
  rcases Nat.lt_or_ge k X.heap.size with h | h
  ·exact h
  ·exact absurd (Array.getElem?_eq_none h) h6
 ·have := (hr k e.symm).1
  omega
def KIb {n : Nat} (l : List Int) (m N : Nat) (w w1 : World) (pre : List { k : Nat // k < n }) (W : World) : Prop := cmLeast l pre = 0 ∧ KI l m N w w1 pre W
def cmCount (c : Nat) (l : List Int) (h : Nat) : Int := min (l.getD (cmPl c 0 h) 0) (l.getD (cmPl c 1 h) 0)
set_option maxRecDepth 100000 in
set_option maxHeartbeats 2000000 in
theorem cCount_any (c h : Nat) (l : List Int) (a : Option Addr) (len cap : Nat) (w : World) (hs : isShapeB 2 c = true) (hc : 0 < c) (h2 : c ≤ 32) (hh : h < 2 ^ 64) (hL : SlE encU 1 w.heap.size w a len l) (hl : l.length = 2 * c) (hlu : U64s l) :
  Calls Tryz.prog 176 #[.agg #[.int .i64 2, .int .i64 c, .slice a len cap], .int .u64 h] w fun e w' => e = .returned (.int .u64 (cmCount c l h)) ∧ Below w.heap.size w w' := by
 have hR : Hid (∀ w1, Calls Tryz.prog 97 #[.agg #[.int .i64 2, .int .i64 c, .slice a len cap]] w1 fun e w' => e = .returned (.bool true) ∧ Below w1.heap.size w1 w') := fun w1 => (cms_Right_any 2 c l a len cap w1 hL.1).mono fun e w' h => ⟨by rw [h.1]; simp [cmRight, hs, hl], h.2⟩
 have HF : Hid (cmLeast l (toldPl c h hc) = cmCount c l h) := by
  have h1 := getD_u64 l hlu (cmPl c 0 h)
  show min (min 18446744073709551615 (l.getD (cmPl c 0 h) 0)) (l.getD (cmPl c 1 h) 0) = min (l.getD (cmPl c 0 h) 0) (l.getD (cmPl c 1 h) 0)
  unfold U64 at h1
  omega
 have HSL : Hid (∀ x : { k : Nat // k < 2 * c }, ∃ b off, a = some ⟨b, off, none⟩ ∧ b < w.heap.size ∧ w.cell? ⟨b, off + x.1, none⟩ = some (.int .u64 (l.getD x.1 0))) := fun x => by
  obtain ⟨y, hy⟩ : ∃ y, l[x.1]? = some y := ⟨_, List.getElem?_eq_getElem (by have := x.2; omega)⟩
  obtain ⟨b, off, e, hb, hcc⟩ := hL.2 x.1 y hy
  have h1 := hcc 0 (by omega)
  rw [Nat.mul_one] at h1
  refine ⟨b, off, e, hb, ?_⟩
  rw [List.getD_eq_getElem?_getD, hy]
  exact h1
 have HLL : Hid (len = 2 * c) := hL.1.trans hl
 have HU := Lib.hid hlu
 obtain ⟨W0, hW0, hX0, hB0, hs0⟩ := boxes1 w #[.int .i64 2, .int .i64 c, .slice a len cap] 28
 have HX0 := Lib.hid hX0
 have HB0 := Lib.hid hB0
 obtain ⟨k0, k1, k2⟩ := cl3 hX0
 clear hX0 hB0 hL hl hlu
 refine calls_marks Tryz.func176 rfl ?_
 simp only [Tryz.ntmps176, List.size_toArray, List.length_cons, List.length_nil, Nat.reduceAdd, Nat.reduceSub, Array.replicate_succ, Array.replicate_zero, List.push_toArray, List.append_toArray, List.nil_append, List.cons_append]
 go_wp2_with fail
 go_step3
 go_wp2_with fail
 refine (hR.out _).mono ?_
 rintro e w1 ⟨rfl, hb1⟩
 have hX1 := known hb1 (Nat.le_refl _) HX0.out
 obtain ⟨d0, d1, d2⟩ := cl3 hX1
 obtain ⟨W2, hW2, hY2, hB2, hs2⟩ := boxes1 w1 #[.int .u64 0] 43
 obtain ⟨V2, hV2⟩ : ∃ V2, W2.setCell ⟨w1.heap.size, 0, none⟩ (.int .u64 18446744073709551615) = V2 := ⟨_, rfl⟩
 have y9 : W2.frozen? ⟨w1.heap.size, 0, none⟩ = false := cFz hY2 0
 have y0 : W2.cell? ⟨w1.heap.size, 0, none⟩ = some (.int .u64 0) := cCc hY2 0
 have hbV : Below w1.heap.size w1 V2 := by rw [← hV2]; exact hB2.setCell (p := ⟨w1.heap.size, 0, none⟩) (Nat.le_refl _) _
 have hzV : V2.heap.size = w1.heap.size + 1 := by rw [← hV2, size_set]; exact hs2
 have hYV : Boxed V2 w1.heap.size 43 (.int .u64 18446744073709551615) := by rw [← hV2]; exact hSk hY2 _
 have hXV := known hbV (Nat.le_refl _) hX1
 obtain ⟨e0, e1, e2⟩ := cl3 hXV
 go_wp2_with fail
 obtain ⟨W3, hW3, hP3, hQ3, hB3, hs3⟩ := boxes2 V2 #[.int .i64 2, .int .i64 c, .slice a len cap] 135 #[.int .u64 h] 43
 have HW3 := Lib.hid hW3
 have hBw3 : Below w.heap.size w W3 := HB0.out.trans ((hb1.trans ((hbV.trans (hB3.mono hbV.size)).mono hb1.size)).mono HB0.out.size)
 have hI0 : KI l w1.heap.size w.heap.size w W3 ([] : List { k : Nat // k < 2 * c }) W3 := ⟨known hB3 (Nat.le_refl _) hYV, fun _ _ _ => rfl, hBw3⟩
 have H0 := Lib.hid hI0
 have HX3 := Lib.hid (known hB3 (Nat.le_refl _) hXV)
 rw [hzV] at hP3 hQ3
 have HP := Lib.hid hP3
 have HQ := Lib.hid hQ3
 have HS : Hid (w.heap.size < w1.heap.size ∧ V2.heap.size = w1.heap.size + 1 ∧ W3.heap.size = V2.heap.size + 2) := ⟨by have := hb1.size; omega, hzV, hs3⟩
 apply wp_label
 clear hW3 hX1 hXV hY2 hB2 hB3 hb1 hBw3 hI0 hbV hYV hP3 hQ3 hs3 hs2
 go_wp2_with (go_at_call 181; refine (told_any _ _ _ _ _).mono ?_; rintro e w' ⟨rfl, rfl⟩; rw [HW3.out])
 have hz3 : W3.heap.size = w1.heap.size + 3 := by have := HS.out; omega
 have hzw : w.heap.size < w1.heap.size := HS.out.1
 refine wp_range_brkL [w1.heap.size + 1, w1.heap.size + 1 + 1] 6 (fun x : { k : Nat // k < 2 * c } => .int .i64 (x.1 : Nat)) (gf := 187) (lb := #[.pointer (some ⟨w1.heap.size + 1, 0, none⟩), .pointer (some ⟨w1.heap.size + 1 + 1, 0, none⟩)]) rfl (enters_of Tryz.func187 (by kernel_rfl) rfl)
  (told_seq (w1.heap.size + 1) (w1.heap.size + 1 + 1) c h (.slice a len cap) hc h2 hh W3 HP.out HQ.out) (by intro k hk; simp at hk; omega) (Below.refl _ _) (fun _ => rfl) (KI l w1.heap.size w.heap.size w W3) (KIb l w1.heap.size w.heap.size w W3) (ki_own l w1.heap.size w.heap.size w W3 (Nat.le_refl _) _ (Nat.le_refl _) (by omega)) ((ownFrom_pure _ _).and (ki_own l w1.heap.size w.heap.size w W3 (Nat.le_refl _) _ (Nat.le_refl _) (by omega))) H0.out ?assign ?body ?fin
 case assign =>
  rintro lo pre x W K hI hK
  simp only [List.zip_toArray, List.zip_cons_cons, List.zip_nil_right, List.size_toArray, List.foldl_toArray', List.foldl_cons, List.foldl_nil, List.setIfInBounds_toArray, List.set_cons_succ, List.set_cons_zero] at hK ⊢
  gi_wp2
  exact hI
 case body =>
  rintro lo pre x W hN hlt
  obtain ⟨hN1, hN3, hN4⟩ := id hN
  simp only [List.zip_toArray, List.zip_cons_cons, List.zip_nil_right, List.size_toArray, List.foldl_toArray', List.foldl_cons, List.foldl_nil, List.setIfInBounds_toArray, List.set_cons_succ, List.set_cons_zero]
  obtain ⟨sb, off, rfl, hsb, hcell⟩ := HSL.out x
  have q0 := hN1.cell
  have q1 := hN1.frozen
  have hXW := (hN3 w.heap.size (by omega) (by omega)).trans HX3.out
  obtain ⟨u0, u1, u2⟩ := cl3 hXW
  have q2 : W.cell? ⟨sb, off + x.1, none⟩ = some (.int .u64 (l.getD x.1 0)) := (hN4.cell (p := ⟨sb, off + x.1, none⟩) hsb).trans hcell
  have hx2 := x.2
  have hx3 : (x.1 : Int) < (len : Int) := by have := HLL.out; omega
  have hx4 : (0 : Int) ≤ (x.1 : Int) := by omega
  have hlu := HU.out
  have hu1 := cmLeast_u64 l hlu pre
  have hu2 := getD_u64 l hlu x.1
  have hsn := cmLeast_snoc l pre x
  generalize l.getD x.1 0 = v at q2 hu2 hsn
  generalize hm0 : cmLeast l pre = m0 at q0 hu1 hsn
  obtain ⟨V, hV⟩ : ∃ V, (W.setCell ⟨w1.heap.size, 0, none⟩ (.int .u64 (min m0 v))).drew = V := ⟨_, rfl⟩
  have ho : ∀ k, k ≠ w1.heap.size → V.heap[k]? = W.heap[k]? := fun k e1 => by
   rw [← hV]
   exact heap_set_other (p := ⟨w1.heap.size, 0, none⟩) (fun e => e1 e.symm) _
  have hbx : Boxed V w1.heap.size 43 (.int .u64 (min m0 v)) := by rw [← hV]; exact hSk hN1 _
  have hkf : KeepsFrom W3.heap.size W V := by rw [← hV]; exact ((KeepsOthers.setCell W _ _).from _).trans ((KeepsOthers.drew _).from _)
  have hKI : KI l w1.heap.size w.heap.size w W3 (pre ++ [x]) V := ⟨by rw [hsn]; exact hbx, fun k hk e1 => (ho k e1).trans (hN3 k hk e1), by rw [← hV]; exact (hN4.setCell (p := ⟨w1.heap.size, 0, none⟩) (by show w.heap.size ≤ w1.heap.size; omega) _).drew⟩
  have hkl : KL [w1.heap.size + 1, w1.heap.size + 1 + 1] W V := fun k hk o hO => by
   have : k = w1.heap.size + 1 ∨ k = w1.heap.size + 1 + 1 := by simpa using hk
   exact (ho k (by omega)).trans hO
  have r0 := hbx.cell
  have hR : Hid (KeepsFrom W3.heap.size W V ∧ KL [w1.heap.size + 1, w1.heap.size + 1 + 1] W V ∧ KI l w1.heap.size w.heap.size w W3 (pre ++ [x]) V ∧ cmLeast l (pre ++ [x]) = min m0 v) := ⟨hkf, hkl, hKI, hsn⟩
  have HV := Lib.hid hV
  clear hN hN1 hN3 hN4 hXW hcell hlu hsn hV ho hbx hkf hkl hKI hm0
  gi_wp2_with fail
  gi_region
  all_goals
   rw [HV.out]
   by_cases hz : min m0 v = 0
   ·have hz2 : (min m0 v == 0) = true := by simp [hz]
    gi_wp2_with fail
    exact ⟨hR.out.1, rfl, hR.out.2.2.2.trans hz, hR.out.2.2.1⟩
   ·have hz2 : (min m0 v == 0) = false := by simp [hz]
    gi_wp2_with fail
    exact ⟨hR.out.1, hR.out.2.1, hR.out.2.2.1⟩
 case fin =>
  rintro D W hD hI hK
  obtain ⟨hv, hk⟩ : Boxed W w1.heap.size 43 (.int .u64 (cmCount c l h)) ∧ Below w.heap.size w W := by
   rcases hI with hI | ⟨pre, hp, hz, hI⟩
   ·rw [← HF.out]
    exact ⟨hI.1, hI.2.2⟩
   ·obtain ⟨r, hr⟩ := hp
    have h1 := cmLeast_zero l HU.out pre r hz
    rw [hr, HF.out] at h1
    rw [h1, ← hz]
    exact ⟨hI.1, hI.2.2⟩
  have q0 := hv.cell
  go_wp2_with fail
  rw [Exit.noGoto_ret]
  exact marks_ret1 (v := .int .u64 (cmCount c l h)) hK (by simp [results, Tryz.f176, go_sem]) ⟨rfl, bPutD hk (by omega) hK⟩
end Go.Proofs.YtcbbenncdainfaaGreatDoor
namespace Go.Proofs.YtcbbenncdainfaaGreatDoor
open Go Go.RowKit Go.Shelf
theorem ref08_Plus_any (a b : Int) (w : World) (ha : U64 a) (hb : U64 b) : Calls Tryz.prog 72 #[.int .u64 a, .int .u64 b] w fun e w' => e = .returned (.int .u64 (satI a b)) ∧ w' = w := by
 obtain ⟨a0, a1⟩ := ha
 obtain ⟨b0, b1⟩ := hb
 by_cases hc : 18446744073709551615 - a < b
 ·have hs : satI a b = 18446744073709551615 := by unfold satI; rw [if_pos hc]
  rw [hs]
  have t1 : 18446744073709551615 - b < a := by omega
  clear hc hs
  go_enter Tryz.func72, Tryz.ntmps72
  go_wp2_with fail
  go_ret
  exact ⟨rfl, rfl⟩
 ·have hs : satI a b = a + b := by unfold satI; rw [if_neg hc]
  rw [hs]
  have t1 : ¬ 18446744073709551615 - b < a := by omega
  have t2 : IntKind.u64.wrap (a + b) = a + b := u64_small _ (by omega) (by omega)
  clear hc hs
  go_enter Tryz.func72, Tryz.ntmps72
  go_wp2_with fail
  go_ret
  exact ⟨rfl, rfl⟩
def CmsPost (c : Nat) (l : List Int) (w : World) (e : Ending) (w' : World) : Prop := ∃ a cap, e = .returned (.tuple #[.agg #[.int .i64 2, .int .i64 c, .slice a l.length cap], .int .i64 0]) ∧ SlC encU 1 w'.heap.size w' a l.length cap l ∧ Below w.heap.size w w'
theorem ref08_Right_ok (c : Nat) (l : List Int) (a : Option Addr) (len cap : Nat) (w : World) (hc : c = 4 ∨ c = 8 ∨ c = 16 ∨ c = 32) (hl : len = l.length) (hn : l.length = c + c) :
  Calls Tryz.prog 56 #[.agg #[.int .i64 2, .int .i64 c, .slice a len cap]] w fun e w' => e = .returned (.bool true) ∧ Below w.heap.size w w' := by
 have h := ref08_Right_any 2 c a len cap l w (by rcases hc with rfl | rfl | rfl | rfl <;> exact ⟨by decide, by decide⟩) hl
 have hr : cmRight 2 c l = true := by
  unfold cmRight
  rw [hn, Bool.and_eq_true]
  exact ⟨shape_any c hc, by rw [beq_iff_eq]; omega⟩
 rw [hr] at h
 exact h
theorem store3c {W : World} {b : Nat} {x y z : Value} {t : TypeId} (u v q : Value) (h : W.heap[b]? = some (.cells #[x, y, z] t (0, 0))) :
  ∃ V, ((W.setCell ⟨b, 0, none⟩ u).setCell ⟨b, 1, none⟩ v).setCell ⟨b, 2, none⟩ q = V ∧ V.heap[b]? = some (.cells #[u, v, q] t (0, 0)) ∧ OnlyAt b W V ∧ (∀ n w0, Below n w0 W → n ≤ b → Below n w0 V) :=
 ⟨_, rfl, hSk (hSk (hSk h _) _) _, (((OnlyAt.refl _ _).set _ _).set _ _).set _ _, fun _ _ hb hn => ((hb.setCell (p := ⟨b, 0, none⟩) hn _).setCell (p := ⟨b, 1, none⟩) hn _).setCell (p := ⟨b, 2, none⟩) hn _⟩
set_option maxRecDepth 100000 in
set_option maxHeartbeats 1000000 in
theorem ref08_New_any (w : World) : Calls Tryz.prog 53 #[.int .i64 2, .int .i64 32] w (CmsPost 32 (cmNone 32) w) := by
 have hib : ∀ w, Calls Tryz.prog 81 #[.int .i64 2, .int .i64 32] w fun e w' => e = .returned (.bool true) ∧ w' = w := fun w => (ref08_is_any 2 32 w).mono fun e w' ⟨h1, h2⟩ => ⟨by rw [h1]; rfl, h2⟩
 obtain ⟨W0, hW0, hX0, hB0, hs0⟩ := boxes1 w #[.int .i64 0, .int .i64 0, .slice none 0 0] 28
 obtain ⟨W1, hmk, hr1, hB1, hs1⟩ := make_nums W0 64 (by omega)
 have hX1 := (hB1.block _ (by omega)).trans hX0
 rw [hs0] at hmk hr1
 rw [show ((64 : Nat) : Int) = 64 from rfl] at hmk
 obtain ⟨d0, d1, d2⟩ := cl3 hX1
 obtain ⟨f0, f1, f2⟩ := cz3 hX1
 obtain ⟨V, hV, hXV, hOV, hBV⟩ := store3c (.int .i64 2) (.int .i64 32) (.slice (some ⟨w.heap.size + 1, 0, none⟩) 64 64) hX1
 obtain ⟨k0, k1, k2⟩ := cl3 hXV
 have HB : Hid (Below w.heap.size w V) := hBV _ _ (hB0.trans (hB1.mono hB0.size)) (Nat.le_refl _)
 have HR : Hid (NumsAt V (w.heap.size + 1) (List.replicate 64 0)) := hr1.block (hOV.2 _ (by omega))
 clear hX0 hX1 hr1 hB0 hB1 hs1 hXV hOV hBV
 go_enter Tryz.func53, Tryz.ntmps53
 go_wp2_with (go_at_call 81; refine (hib _).mono ?_; rintro e w' ⟨rfl, rfl⟩)
 refine bodyPost_ret (v := .tuple #[.agg #[.int .i64 2, .int .i64 32, .slice (some ⟨w.heap.size + 1, 0, none⟩) 64 64], .int .i64 0]) (by simp [results, Tryz.f53, go_sem, k0, k1, k2]) rfl ⟨_, 64, rfl, ?_, HB.out⟩
 exact nums_slC (n := 64) HR.out (List.length_replicate ..) (by unfold maxLen; omega)
set_option maxRecDepth 100000 in
set_option maxHeartbeats 1000000 in
theorem ref08_Col_any (c row h : Nat) (l : List Int) (a : Option Addr) (len cap : Nat) (w : World) (hc : c = 4 ∨ c = 8 ∨ c = 16 ∨ c = 32) (hl : len = l.length) (hn : l.length = c + c) (hr : row < 2) (hh : h < 2 ^ 64) :
  Calls Tryz.prog 77 #[.agg #[.int .i64 2, .int .i64 c, .slice a len cap], .int .i64 row, .int .u64 h] w fun e w' => e = .returned (.int .i64 (((h / 4294967296 + row * (h % 4294967296)) % c : Nat) : Int)) ∧ Below w.heap.size w w' := by
 have HE := Lib.hid (col_eq row h c (by omega) hh (by omega) (by omega))
 obtain ⟨W0, hW0, hX0, hB0, hs0⟩ := boxes1 w #[.int .i64 2, .int .i64 c, .slice a len cap] 28
 have hRt := ref08_Right_ok c l a len cap W0 hc hl hn
 have HX0 := Lib.hid hX0
 have HB0 := Lib.hid hB0
 obtain ⟨d0, d1, d2⟩ := cl3 hX0
 have r0 : ¬ ((row : Int) < 0) := by omega
 have r1 : ¬ ((2 : Int) ≤ (row : Int)) := by omega
 have c0 : ¬ (c : Int) = 0 := by omega
 have c1 : IntKind.u64.wrap (c : Int) = (c : Int) := u64_small _ (by omega) (by omega)
 clear hX0 hB0 hl hn hr hc
 go_enter Tryz.func77, Tryz.ntmps77
 go_wp2_with fail
 refine hRt.mono ?_
 rintro e w1 ⟨rfl, hb1⟩
 have hX1 := known hb1 (Nat.le_refl _) HX0.out
 obtain ⟨e0, e1, e2⟩ := cl3 hX1
 have HB1 := Lib.hid hb1
 clear hX1 hb1 hRt
 go_wp2_with fail
 go_ret
 exact ⟨by rw [Int.natCast_emod, ← HE.out]; rfl, HB0.out.trans (HB1.out.mono HB0.out.size)⟩
theorem wrap_small {n : Nat} (h : n < 1000) : wrap64 (n : Int) = (n : Int) := wrap64_nat n (by omega)
theorem slC_cell {l : List Int} {a : Option Addr} {len cap n i : Nat} {w : World} (h : SlC encU 1 n w a len cap l) (hi : i < l.length) : ∃ b off, a = some ⟨b, off, none⟩ ∧ b < n ∧ w.cell? ⟨b, off + i, none⟩ = some (.int .u64 (l.getD i 0)) := by
 obtain ⟨y, hy⟩ : ∃ y, l[i]? = some y := ⟨_, List.getElem?_eq_getElem hi⟩
 obtain ⟨b, off, e, hb, hc⟩ := h.1.2 i y hy
 have h1 := hc 0 (by omega)
 rw [Nat.mul_one] at h1
 refine ⟨b, off, e, hb, ?_⟩
 rw [List.getD_eq_getElem?_getD, hy]
 exact h1
set_option maxRecDepth 100000 in
set_option maxHeartbeats 2000000 in
theorem ref08_Count_any (c h : Nat) (l : List Int) (a : Option Addr) (len cap : Nat) (w : World) (hc : c = 4 ∨ c = 8 ∨ c = 16 ∨ c = 32) (hS : SlC encU 1 w.heap.size w a len cap l) (hn : l.length = c + c) (hlu : U64s l) (hh : h < 2 ^ 64) :
  Calls Tryz.prog 60 #[.agg #[.int .i64 2, .int .i64 c, .slice a len cap], .int .u64 h] w fun e w' => e = .returned (.int .u64 (cmCount c l h)) ∧ Below w.heap.size w w' := by
 have hll := hS.1.1
 obtain ⟨W0, hW0, hX0, hB0, hs0⟩ := boxes1 w #[.int .i64 2, .int .i64 c, .slice a len cap] 28
 have hRt := ref08_Right_ok c l a len cap W0 hc hll hn
 have HC0 : Hid (∀ W, Calls Tryz.prog 77 #[.agg #[.int .i64 2, .int .i64 c, .slice a len cap], .int .i64 0, .int .u64 h] W fun e w' => e = .returned (.int .i64 (((h / 4294967296 + 0 * (h % 4294967296)) % c : Nat) : Int)) ∧ Below W.heap.size W w') := fun W => ref08_Col_any c 0 h l a len cap W hc hll hn (by omega) hh
 have HC1 : Hid (∀ W, Calls Tryz.prog 77 #[.agg #[.int .i64 2, .int .i64 c, .slice a len cap], .int .i64 1, .int .u64 h] W fun e w' => e = .returned (.int .i64 (((h / 4294967296 + 1 * (h % 4294967296)) % c : Nat) : Int)) ∧ Below W.heap.size W w') := fun W => ref08_Col_any c 1 h l a len cap W hc hll hn (by omega) hh
 have HS := Lib.hid (hS.go hB0)
 have p0b : cmPl c 0 h < 1000 := by have := cmPl_lt c 0 h (by omega) (by omega); omega
 have p1b : cmPl c 1 h < 1000 := by have := cmPl_lt c 1 h (by omega) (by omega); omega
 have l0 : cmPl c 0 h < l.length := by have := cmPl_lt c 0 h (by omega) (by omega); omega
 have l1 : cmPl c 1 h < l.length := by have := cmPl_lt c 1 h (by omega) (by omega); omega
 have HCo : Hid (cmCount c l h = min (l.getD (cmPl c 0 h) 0) (l.getD (cmPl c 1 h) 0)) := rfl
 have hq0 : 0 * c + (h / 4294967296 + 0 * (h % 4294967296)) % c = cmPl c 0 h := rfl
 have hq1 : 1 * c + (h / 4294967296 + 1 * (h % 4294967296)) % c = cmPl c 1 h := rfl
 generalize (h / 4294967296 + 0 * (h % 4294967296)) % c = q0 at HC0 hq0
 generalize (h / 4294967296 + 1 * (h % 4294967296)) % c = q1 at HC1 hq1
 generalize cmPl c 0 h = p0 at l0 HCo hq0 p0b
 generalize cmPl c 1 h = p1 at l1 HCo hq1 p1b
 generalize cmCount c l h = res at HCo ⊢
 obtain ⟨u0, u0'⟩ := getD_u64 l hlu p0
 obtain ⟨u1, u1'⟩ := getD_u64 l hlu p1
 have HX0 := Lib.hid hX0
 have HB0 := Lib.hid hB0
 obtain ⟨d0, d1, d2⟩ := cl3 hX0
 have i0 : (p0 : Int) < (len : Int) := by omega
 have i1 : (p1 : Int) < (len : Int) := by omega
 have eq0 : (q0 : Int) = (p0 : Int) := by omega
 have eq1 : (c : Int) + (q1 : Int) = (p1 : Int) := by omega
 have hc32 : (c : Int) ≤ 32 := by omega
 have hc0 : (0 : Int) < (c : Int) := by omega
 obtain ⟨bb, off, rfl, hbb, hv0⟩ := slC_cell HS.out l0
 obtain ⟨bb', off', e', -, hv1⟩ := slC_cell HS.out l1
 cases e'
 generalize l.getD p0 0 = v0 at u0 u0' HCo hv0
 generalize l.getD p1 0 = v1 at u1 u1' HCo hv1
 have HV : Hid (∀ W, Below W0.heap.size W0 W → W.cell? ⟨bb, off + p0, none⟩ = some (.int .u64 v0) ∧ W.cell? ⟨bb, off + p1, none⟩ = some (.int .u64 v1) ∧ W.heap[w.heap.size]? = some (.cells #[.int .i64 2, .int .i64 c, .slice (some ⟨bb, off, none⟩) len cap] 28 (0, 0))) := fun W hb => ⟨(hb.cell (p := ⟨bb, off + p0, none⟩) hbb).trans hv0, (hb.cell (p := ⟨bb, off + p1, none⟩) hbb).trans hv1, known hb (Nat.le_refl _) hX0⟩
 have mi : min (18446744073709551615 : Int) v0 = v0 := Int.min_eq_right u0'
 have j0 : wrap64 (q0 : Int) = (p0 : Int) := by rw [eq0]; exact wrap_small p0b
 have j1 : wrap64 ((c : Int) + (q1 : Int)) = (p1 : Int) := by rw [eq1]; exact wrap_small p1b
 have k0 : (0 : Int) ≤ (p0 : Int) := Int.natCast_nonneg _
 have k1 : (0 : Int) ≤ (p1 : Int) := Int.natCast_nonneg _
 clear hX0 hB0 hS hll hn hc l0 l1 hv0 hv1 hq0 hq1 eq0 eq1
 go_enter Tryz.func60, Tryz.ntmps60
 go_wp2_with fail
 refine hRt.mono ?_
 rintro e w1 ⟨rfl, hb1⟩
 obtain ⟨-, -, hX1⟩ := HV.out w1 hb1
 obtain ⟨y0, y1, y2⟩ := cl3 hX1
 have HBw1 := Lib.hid hb1
 clear hX1 hb1 hRt
 go_wp2_with fail
 refine wp_loop_rounds 3 ?_
 rw [rounds_succ]
 go_wp2_with fail
 let Inv0 : World → Prop := fun W => Below W0.heap.size W0 W
 have hgo : ∀ W W', Inv0 W → Below W.heap.size W W' → Inv0 W' := fun W W' h hb => Below.trans h (hb.mono (Below.size h))
 have q0' : ∀ X : WIn Inv0, X.world.cell? ⟨w.heap.size, 1, none⟩ = some (.int .i64 c) := fun X => cCc (HV.out X.world X.ok).2.2 1
 have q1' : ∀ X : WIn Inv0, X.world.cell? ⟨w.heap.size, 2, none⟩ = some (.slice (some ⟨bb, off, none⟩) len cap) := fun X => cCc (HV.out X.world X.ok).2.2 2
 have q2' : ∀ X : WIn Inv0, X.world.cell? ⟨w.heap.size, 0, none⟩ = some (.int .i64 2) := fun X => cCc (HV.out X.world X.ok).2.2 0
 have q3' : ∀ X : WIn Inv0, X.world.cell? ⟨bb, off + p0, none⟩ = some (.int .u64 v0) := fun X => (HV.out X.world X.ok).1
 have K1 : Hid (∀ X : WIn Inv0, Calls Tryz.prog 77 #[.agg #[.int .i64 2, .int .i64 c, .slice (some ⟨bb, off, none⟩) len cap], .int .i64 0, .int .u64 h] X.world fun e w' => e = .returned (.int .i64 (q0 : Nat)) ∧ ∃ Y : WIn Inv0, w' = Y.world) := fun X => calls_class_below hgo (HC0.out X.world)
 have HQ : Hid (∀ X : WIn Inv0, Below W0.heap.size W0 X.world) := fun X => X.ok
 have hI0 : Hid (Inv0 (World.drew w1)) := HBw1.out.drew
 have hne : Nonempty (WIn Inv0) := ⟨⟨_, hI0.out⟩⟩
 clear hgo
 clear_value Inv0
 refine wp_region_class Inv0 (by kernel_rfl) (by kernel_rfl) hI0.out ?_
 repeat (first | go_big_quiet_step ((go_at_call 77; with_reducible exact K1.out _)) | quiet_step ((go_at_call 77; with_reducible exact K1.out _)))
 refine wpQuiet_nil ?_
 rintro _ ⟨X, rfl⟩
 have HBw2 := HQ.out X
 obtain ⟨w2, hww2⟩ : ∃ w2, X.world = w2 := ⟨_, rfl⟩
 rw [hww2] at HBw2 ⊢
 clear q0' q1' q2' q3' HQ K1 hI0 hne hww2 X
 have hXw2 := (HV.out w2 HBw2).2.2
 have z00 : w2.cell? ⟨w.heap.size, 0, none⟩ = some (.int .i64 2) := cCc hXw2 0
 have z01 : w2.cell? ⟨w.heap.size, 1, none⟩ = some (.int .i64 c) := cCc hXw2 1
 have z02 : w2.cell? ⟨w.heap.size, 2, none⟩ = some (.slice (some ⟨bb, off, none⟩) len cap) := cCc hXw2 2
 have HBw2 := Lib.hid HBw2
 clear hXw2
 go_wp2_with fail
 rw [rounds_succ]
 go_wp2_with fail
 let Inv1 : World → Prop := fun W => Below W0.heap.size W0 W
 have hgo : ∀ W W', Inv1 W → Below W.heap.size W W' → Inv1 W' := fun W W' h hb => Below.trans h (hb.mono (Below.size h))
 have q0' : ∀ X : WIn Inv1, X.world.cell? ⟨w.heap.size, 1, none⟩ = some (.int .i64 c) := fun X => cCc (HV.out X.world X.ok).2.2 1
 have q1' : ∀ X : WIn Inv1, X.world.cell? ⟨w.heap.size, 2, none⟩ = some (.slice (some ⟨bb, off, none⟩) len cap) := fun X => cCc (HV.out X.world X.ok).2.2 2
 have q2' : ∀ X : WIn Inv1, X.world.cell? ⟨w.heap.size, 0, none⟩ = some (.int .i64 2) := fun X => cCc (HV.out X.world X.ok).2.2 0
 have q3' : ∀ X : WIn Inv1, X.world.cell? ⟨bb, off + p1, none⟩ = some (.int .u64 v1) := fun X => (HV.out X.world X.ok).2.1
 have K1 : Hid (∀ X : WIn Inv1, Calls Tryz.prog 77 #[.agg #[.int .i64 2, .int .i64 c, .slice (some ⟨bb, off, none⟩) len cap], .int .i64 1, .int .u64 h] X.world fun e w' => e = .returned (.int .i64 (q1 : Nat)) ∧ ∃ Y : WIn Inv1, w' = Y.world) := fun X => calls_class_below hgo (HC1.out X.world)
 have HQ : Hid (∀ X : WIn Inv1, Below W0.heap.size W0 X.world) := fun X => X.ok
 have hI0 : Hid (Inv1 (World.drew w2)) := HBw2.out.drew
 have hne : Nonempty (WIn Inv1) := ⟨⟨_, hI0.out⟩⟩
 clear hgo
 clear_value Inv1
 refine wp_region_class Inv1 (by kernel_rfl) (by kernel_rfl) hI0.out ?_
 repeat (first | go_big_quiet_step ((go_at_call 77; with_reducible exact K1.out _)) | quiet_step ((go_at_call 77; with_reducible exact K1.out _)))
 refine wpQuiet_nil ?_
 rintro _ ⟨X, rfl⟩
 have HBw3 := HQ.out X
 obtain ⟨w3, hww3⟩ : ∃ w3, X.world = w3 := ⟨_, rfl⟩
 rw [hww3] at HBw3 ⊢
 clear q0' q1' q2' q3' HQ K1 hI0 hne hww3 X
 have hXw3 := (HV.out w3 HBw3).2.2
 have z10 : w3.cell? ⟨w.heap.size, 0, none⟩ = some (.int .i64 2) := cCc hXw3 0
 have z11 : w3.cell? ⟨w.heap.size, 1, none⟩ = some (.int .i64 c) := cCc hXw3 1
 have z12 : w3.cell? ⟨w.heap.size, 2, none⟩ = some (.slice (some ⟨bb, off, none⟩) len cap) := cCc hXw3 2
 have HBw3 := Lib.hid HBw3
 clear hXw3
 go_wp2_with fail
 rw [rounds_succ]
 go_wp2_with fail
 go_ret
 exact ⟨by rw [HCo.out]; rfl, HB0.out.trans (HBw3.out.mono HB0.out.size)⟩
end Go.Proofs.YtcbbenncdainfaaGreatDoor
namespace Go.Proofs.YtcbbenncdainfaaGreatDoor
open Go Go.RowKit Go.Shelf
attribute [local go_sem] Oper.semAt_some
def hsSums : Int → List (Int × Int) → List ((Int × Int) × Int)
 | _, [] => []
 | s, b :: l => (b, satI s b.2) :: hsSums (satI s b.2) l
def hsTo (s : Int) (l : List (Int × Int)) : Int := l.foldl (fun t b => satI t b.2) s
theorem hsTo_u64 : ∀ (l : List (Int × Int)) (s : Int), BinsU l → U64 s → U64 (hsTo s l)
 | [], _, _, hs => hs
 | b :: l, _, h, hs => hsTo_u64 l _ (fun x hx => h x (List.mem_cons_of_mem _ hx)) (satI_u64 _ _ hs (h b (List.mem_cons_self ..)))
theorem hsTo_snoc (s : Int) (l : List (Int × Int)) (b : Int × Int) : hsTo s (l ++ [b]) = satI (hsTo s l) b.2 := by unfold hsTo; rw [List.foldl_append]; rfl
theorem hsSums_len : ∀ (l : List (Int × Int)) (s : Int), (hsSums s l).length = l.length
 | [], _ => rfl
 | _ :: l, _ => by simp only [hsSums, List.length_cons, hsSums_len l]
theorem hsSums_at : ∀ (l : List (Int × Int)) (s : Int) (k : Nat) (b : Int × Int), l[k]? = some b → (hsSums s l)[k]? = some (b, hsTo s (l.take (k + 1)))
 | [], _, k, b, h => by simp at h
 | x :: l, _, 0, b, h => by simp at h; subst h; rfl
 | x :: l, s, k + 1, b, h => by
  have h1 : l[k]? = some b := by simpa using h
  have h2 := hsSums_at l (satI s x.2) k b h1
  simp only [hsSums, List.getElem?_cons_succ, List.take_succ_cons]
  rw [h2]
  rfl
theorem sums_any (a : Option Addr) (len cap : Nat) (w : World) : Calls Tryz.prog 203 #[.slice a len cap] w fun e w' => e = .returned (.func (.func 208) #[] #[.pointer (some ⟨w.heap.size, 0, none⟩)]) ∧ w' = w.alloc (.cells #[.slice a len cap] 29) := by
 go_enter Tryz.func203, Tryz.ntmps203
 go_wp2
 go_ret
 exact ⟨rfl, rfl⟩
set_option maxRecDepth 100000 in
set_option maxHeartbeats 1000000 in
theorem sums1 (l Bs n₀ : Nat) (a : Option Addr) (cap : Nat) (ls : List (Int × Int)) (hreach : ls.length < 4294967281) (hu : BinsU ls) (J Jx : List ((Int × Int) × Int) → World → Prop)
  (hY : ∀ pre x W, J pre W → pre.length < ls.length → YieldAt Fence.wide 7 Tryz.prog l #[.agg #[.int .i64 x.1.1, .int .u64 x.1.2], .int .u64 x.2] W fun e W' =>
   (e = .returned (.bool true) ∧ J (pre ++ [x]) W' ∧ Below n₀ W W') ∨ (e = .returned (.bool false) ∧ Jx (pre ++ [x]) W'))
  (W : World) (hn₀ : n₀ ≤ W.heap.size) (hJ : AbidesFrom W.heap.size J) (hBs : W.cell? ⟨Bs, 0, none⟩ = some (.slice a ls.length cap)) (hc : SlE encB 2 n₀ W a ls.length ls) (h0 : J [] W) :
  CallsIn Fence.wide 8 Tryz.prog 208 #[.func (.yield l) #[] #[], .pointer (some ⟨Bs, 0, none⟩)] W fun e W' => (∃ v, e = .returned v) ∧
   ((∃ ys, ys = hsSums 0 ls ∧ J ys W') ∨ (∃ pre, pre <+: hsSums 0 ls ∧ Jx pre W')) := by
 refine callsIn_of_wp Tryz.func208 rfl trivial ?_ rfl
 simp only [Tryz.ntmps208, List.size_toArray, List.length_cons, List.length_nil, Nat.reduceAdd, Nat.reduceSub, Array.replicate_succ, Array.replicate_zero, List.push_toArray, List.append_toArray, List.nil_append, List.cons_append]
 have HU := Lib.hid hu
 gi_wp2
 gi_loopw [3, 8] (fun su i wr => ∃ k : Nat, k ≤ ls.length ∧ i = .int .i64 k ∧ su = .int .u64 (hsTo 0 (ls.take k)) ∧ J ((hsSums 0 ls).take k) wr ∧ Below n₀ W wr) (fun _ i _ => ls.length - (intOf i).toNat)
 case atStart => exact ⟨0, Nat.zero_le _, rfl, rfl, h0, Below.refl _ _⟩
 case round =>
  obtain ⟨k, hk, rfl, rfl, hJs, hnx⟩ := hrel
  by_cases hlt : k < ls.length
  ·obtain ⟨x, b1, o1, hx, ea, hb1, p0, p1⟩ := bin_cells (SlE.below hnx hc) hlt
   subst ea
   have hzn := hnx.size
   obtain ⟨W2, hW2, hX2, hB2, hs2⟩ := boxes1 wr #[.int .i64 x.1, .int .u64 x.2] 123
   obtain ⟨s0, hs0⟩ : ∃ s0, hsTo 0 (ls.take k) = s0 := ⟨_, rfl⟩
   have hs0u : U64 s0 := by rw [← hs0]; exact hsTo_u64 _ _ (fun y hy => HU.out y (List.mem_of_mem_take hy)) (by unfold U64; omega)
   have hxu : U64 x.2 := HU.out x (List.mem_of_getElem? hx)
   have hnext : hsTo 0 (ls.take (k + 1)) = satI s0 x.2 := by rw [List.take_add_one, hx, ← hs0]; exact hsTo_snoc _ _ _
   have hat := hsSums_at ls 0 k x hx
   rw [hnext] at hat
   obtain ⟨W3, hW3, hX3, hB3, hs3⟩ := boxes1 W2 #[.int .u64 s0, .int .u64 x.2] 43
   have hG3 : wr.grownBy W3 none := by rw [← hW3, ← hW2]; exact (World.grownBy_alloc _ _ _).trans (World.grownBy_alloc _ _ _)
   have hJ3 := hJ _ _ _ none hJs hG3 (fun r e => by cases e)
   have hBn : Below n₀ W W3 := hnx.trans ((hB2.trans (hB3.mono (by omega))).mono (by omega))
   have hT := htogether_any W2.heap.size s0 x.2 W3 (cCc hX3 0) (cCc hX3 1) hs0u hxu
   obtain ⟨fn, tmps, assign, body, hy, hR⟩ := hY _ (x, satI s0 x.2) W3 hJ3 (by rw [List.length_take, hsSums_len]; omega)
   have hX23 := known hB3 (Nat.le_refl _) hX2
   obtain ⟨q0, q1⟩ := cl2 hX23
   have r1 : W2.cell? ⟨wr.heap.size, 1, none⟩ = some (.int .u64 x.2) := cCc hX2 1
   rw [hs2] at hT
   have HA := Lib.hid (And.intro hat hBn)
   have HNX := Lib.hid hnext
   rw [hs0]
   clear hx hX2 hX3 hX23 hG3 hJ3 hat hBn hnext hJs hnx hB2 hB3
   gi_wp2_with fail
   refine ⟨trivial, (callsIn_wide.2 hT).mono ?_⟩
   rintro e w' ⟨rfl, rfl⟩
   gi_wp2_with fail
   refine hR.mono ?_
   rintro e W4 (⟨rfl, hJ4, hk4⟩ | ⟨rfl, hJx4⟩)
   ·gi_wp2
    go_roundw
    case rel => exact ⟨k + 1, by omega, by simp, by rw [HNX.out], by rw [List.take_add_one, HA.out.1]; exact hJ4, HA.out.2.trans hk4⟩
    case measure => simp [intOf]; omega
   ·gi_wp2
    refine bodyPost_ret (results_none rfl _ _ _) rfl ?_
    exact ⟨⟨_, rfl⟩, .inr ⟨_, by have h := List.take_prefix (k + 1) (hsSums 0 ls); rwa [List.take_add_one, HA.out.1] at h, hJx4⟩⟩
  ·obtain rfl : k = ls.length := by omega
   gi_wp2
   go_end0
   exact ⟨⟨_, rfl⟩, .inl ⟨_, by rw [← hsSums_len ls 0, List.take_length], hJs⟩⟩
theorem sums_seq (Bs n₀ : Nat) (a : Option Addr) (len cap : Nat) (ls : List (Int × Int)) (hreach : len < 4294967281) (hu : BinsU ls) (w : World) (hBs : Bs < w.heap.size) (hn₀ : n₀ ≤ w.heap.size)
  (hc : w.cell? ⟨Bs, 0, none⟩ = some (.slice a len cap)) (hI : SlE encB 2 n₀ w a len ls) :
  SeqStopsK Fence.wide 8 Tryz.prog 208 #[.pointer (some ⟨Bs, 0, none⟩)] (fun x : (Int × Int) × Int => #[.agg #[.int .i64 x.1.1, .int .u64 x.1.2], .int .u64 x.2]) (Below n₀) (fun ys => ys = hsSums 0 ls) (fun pre => pre <+: hsSums 0 ls) ls.length w := fun l J Jx W hW hJ _ hY h0 => by
 have hc' := (hW.cell (p := ⟨Bs, 0, none⟩) hBs).trans hc
 have hI' : SlE encB 2 n₀ W a len ls := hI.below (hW.mono hn₀)
 have hll := hI'.1
 rw [hll] at hc' hI'
 exact sums1 l Bs n₀ a cap ls (by omega) hu J Jx hY W (Nat.le_trans hn₀ hW.size) hJ hc' hI' h0
theorem wp_range_boxT {α : Type} {P : Program} {g : Operand} {ps : Array Tmp} {assign body : Code} {Q : Exit → Act → World → Prop} {a : Act} {w : World} {id : Nat} (t : TypeId) (cs : α → Array Value) (T : α → Nat → Array Value)
  {gf : Nat} {lb : Array Value} (hg : a.eval g = .func (.func gf) #[] lb) (eg : ∀ args w, (callFunc gf args).run P w = .ok (.enter gf args) w)
  {encs : α → Array Value} {n₀ : Nat} {xs : List α} {N : Nat} {w0 : World} (hseq : SeqStopsK Fence.wide 8 P gf lb encs (Below n₀) (fun ys => ys = xs) (fun pre => pre <+: xs) N w0)
  (hn₀ : n₀ ≤ w.heap.size) (hb0 : Below w0.heap.size w0 w) (hps : ∀ x, (encs x).size = ps.size)
  (I Ib : List α → World → Prop) (hI : OwnFrom w.heap.size I) (hIb : OwnFrom w.heap.size Ib) (h0 : I [] w)
  (hassign : ∀ (l : Nat) (pre : List α) (x : α) (W : World) (K : Act → World → Prop), I pre W → w.heap.size ≤ W.heap.size →
   (I pre (W.alloc (.cells (cs x) t)) → K { tmps := T x W.heap.size, defers := [] } (W.alloc (.cells (cs x) t))) →
   assign.wpIn (Fence.wide.inRound l) 7 P (Exit.then K (fun _ _ _ => False)) { tmps := (ps.zip (encs x)).foldl (fun t (p, v) => t.setIfInBounds p v) a.tmps, defers := [] } W)
  (hbody : ∀ (l : Nat) (pre : List α) (x : α) (W : World) (Bx : Nat), I pre W → w.heap.size ≤ Bx → Bx < W.heap.size → W.heap[Bx]? = some (.cells (cs x) t (0, 0)) → pre.length < N →
   body.wpIn (Fence.wide.inRound l) 7 P (ownPostG w.heap.size (Below n₀) I (fun c pre W => c = .exit id ∧ Ib pre W) (pre ++ [x]) W) { tmps := T x Bx, defers := [] } W)
  (hfin : ∀ (D : Nat) (W : World), w.heap.size ≤ D → (I xs W ∨ ∃ pre, pre <+: xs ∧ Ib pre W) → W.heap[D]? = some (.deferred (some [])) → Q .normal { a with defers := { target := .collected D, args := #[] } :: a.defers } W) :
  (Code.rangeFunc g ps assign body).wp P (Exit.inBlock id Q) a w :=
 wp_range hg eg hseq hn₀ hb0 hps (fun pre W => I pre W ∧ w.heap.size ≤ W.heap.size) (fun c pre W => c = .exit id ∧ Ib pre W) (hI.and (ownFrom_size _ _)) (fun _ => (ownFrom_pure _ _).and hIb) ⟨h0, Nat.le_refl _⟩
  (fun x a' W => ∃ Bx, w.heap.size ≤ Bx ∧ W.heap[Bx]? = some (.cells (cs x) t (0, 0)) ∧ a' = { tmps := T x Bx, defers := [] })
  (fun x a' u X Y row hs hg hr => by
   obtain ⟨Bx, h1, h2, h3⟩ := hs
   exact ⟨Bx, h1, ownCells w.heap.size Bx (fun _ => cs x) t u X Y row h2 hg hr, h3⟩)
  (fun l pre x W K hi hK => hassign l pre x W K hi.1 hi.2 (fun hi' => hK _ _ ((KeepsOthers.alloc _ _).from _) ((Below.refl _ W).alloc (Nat.le_trans hn₀ hi.2) _) ⟨hi', by simp; omega⟩ ⟨W.heap.size, hi.2, World.alloc_heap_new _ _, rfl⟩))
  (fun l pre x a' W hi hax hlt => by
   obtain ⟨Bx, h1, h2, rfl⟩ := hax
   refine wpIn_mono (hbody l pre x W Bx hi.1 h1 (Array.getElem?_eq_some_iff.1 h2).1 h2 hlt) ?_
   rintro e a3 W3 hp
   cases e with
   | normal => exact ⟨hp.1, hp.2.1, hp.2.2, Nat.le_trans hi.2 hp.1.size⟩
   | _ => exact hp)
  (fun D W hD hi hK => by exact hfin D W hD (.inl hi.1) hK)
  (fun D c pre W hD hp hi hK => by obtain ⟨rfl, hi⟩ := hi; exact wp_exit (by show (if id = id then Q .normal _ _ else Q (.exit id) _ _); rw [if_pos rfl]; exact hfin D W hD (.inr ⟨pre, hp, hi⟩) hK))
def rkGo (last : Int) : Int → List ((Int × Int) × Int) → Int
 | r, [] => r
 | r, x :: l => if last < x.1.1 then r else rkGo last x.2 l
def rkPre (r : Int) (pre : List ((Int × Int) × Int)) : Int := pre.foldl (fun _ x => x.2) r
theorem rkPre_snoc (r : Int) (pre : List ((Int × Int) × Int)) (x : (Int × Int) × Int) : rkPre r (pre ++ [x]) = x.2 := by unfold rkPre; rw [List.foldl_append]; rfl
theorem rkGo_pre (last : Int) : ∀ (p : List ((Int × Int) × Int)) (r : Int) (q : List ((Int × Int) × Int)), (∀ x ∈ p, x.1.1 ≤ last) → rkGo last r (p ++ q) = rkGo last (rkPre r p) q
 | [], _, _, _ => rfl
 | x :: p, r, q, h => by
  have hx := h x (List.mem_cons_self ..)
  rw [List.cons_append, rkGo, if_neg (by omega)]
  exact rkGo_pre last p x.2 q (fun y hy => h y (List.mem_cons_of_mem _ hy))
def hiRank (f : Nat) (l : List (Int × Int)) (v : Nat) : Int := rkGo (hiBk f v) 0 (hsSums 0 l)
end Go.Proofs.YtcbbenncdainfaaGreatDoor

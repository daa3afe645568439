/- Package hll: Count. Package cms: Count (how often a number came at most). -/
import Derived.Test.YtmkefodaibmkhaaGreatDoorZMB
import Derived.Test.YtmkefodaibmkhaaGreatDoorZLH
import Derived.Test.YtmkefodaibmkhaaGreatDoorZLG
import Derived.Test.YtmkefodaibmkhaaGreatDoorZCA
import Derived.Test.YtmkefodaibmkhaaGreatDoorZCE
import Derived.RegionIn
import Derived.BigRegion
namespace Go.Proofs.YtmkefodaibmkhaaGreatDoor
open Go Go.RowKit Go.Shelf
attribute [local go_sem] Oper.semAt_some

def hcTerm (r : Nat) : Nat := 2 ^ (32 - min r 32)
def hcSum (l : List (Nat × UInt8)) : Nat := l.foldl (fun a p => a + hcTerm p.2.toNat) 0
def hcSome (l : List (Nat × UInt8)) : Bool := l.any fun p => p.2.toNat != 0
theorem hcSum_snoc (l : List (Nat × UInt8)) (x : Nat × UInt8) : hcSum (l ++ [x]) = hcSum l + hcTerm x.2.toNat := by unfold hcSum; rw [List.foldl_append]; rfl
theorem hcSome_snoc (l : List (Nat × UInt8)) (x : Nat × UInt8) : hcSome (l ++ [x]) = (hcSome l || (x.2.toNat != 0)) := by simp [hcSome]
theorem hcTerm_le (r : Nat) : 1 ≤ hcTerm r ∧ hcTerm r ≤ 4294967296 := by
  unfold hcTerm
  have h1 : 2 ^ (32 - min r 32) ≤ 2 ^ 32 := Nat.pow_le_pow_right (by omega) (by omega)
  exact ⟨Nat.one_le_two_pow, h1⟩
theorem hcSum_le (l : List (Nat × UInt8)) : l.length ≤ hcSum l ∧ hcSum l ≤ l.length * 4294967296 := by
  have key : ∀ (m : List (Nat × UInt8)), m.length ≤ hcSum m.reverse ∧ hcSum m.reverse ≤ m.length * 4294967296 := by
    intro m
    induction m with
    | nil => exact ⟨Nat.le_refl _, Nat.le_refl _⟩
    | cons x m ih =>
      rw [List.reverse_cons, hcSum_snoc, List.length_cons]
      have := hcTerm_le x.2.toNat
      omega
  have h := key l.reverse
  rw [List.reverse_reverse, List.length_reverse] at h
  exact h
/-- What the loop knows. -/
def NI (m n : Nat) (w w1 : World) (pre : List (Nat × UInt8)) (W : World) : Prop := Boxed W m 4 (.bool (hcSome pre)) ∧ Boxed W (m + 1) 50 (.int .u64 (hcSum pre : Nat)) ∧ (∀ k, k < w1.heap.size → k ≠ m → k ≠ m + 1 → W.heap[k]? = w1.heap[k]?) ∧ Below n w W
theorem ni_own (m n : Nat) (w w1 : World) (hn : n ≤ w.heap.size) (C : Nat) (hC : w1.heap.size ≤ C) (hC2 : n ≤ C) : OwnFrom C (NI m n w w1) := fun pre X Y row hs hg hr => by
  obtain ⟨h1, h2, h3, h4⟩ := hs
  have hr' : ∀ r, row = some r → ∃ o : Obj, X.heap[r]? = some o ∧ o.isCells = false := fun r e => (hr r e).2
  refine ⟨ownBlk h1 hg hr', ownBlk h2 hg hr', fun k hk e1 e2 => ?_, ownFrom_below (β := Unit) (B := C) hn hC2 () X Y row h4 hg hr⟩
  have h5 := h3 k hk e1 e2
  refine (hg.block k ?_ (fun e => ?_)).trans h5
  · have h6 : w1.heap[k]? ≠ none := by rw [Array.getElem?_eq_getElem hk]; simp
    rw [← h5] at h6
    rcases Nat.lt_or_ge k X.heap.size with h | h
    · exact h
    · exact absurd (Array.getElem?_eq_none h) h6
  · have := (hr k e.symm).1
    omega
theorem hc_step (pre : List (Nat × UInt8)) (x : Nat × UInt8) (h : pre.length < 256) : IntKind.u64.wrap ((hcSum pre : Nat) + IntKind.u64.wrap (2 ^ (32 - min (x.2.toNat : Int) 32).toNat)) = ((hcSum pre + hcTerm x.2.toNat : Nat) : Int) := by
  have h1 := hcSum_le pre
  have h2 := hcTerm_le x.2.toNat
  have h3 : (32 - min (x.2.toNat : Int) 32).toNat = 32 - min x.2.toNat 32 := by omega
  rw [h3, show (2 : Int) ^ (32 - min x.2.toNat 32) = ((hcTerm x.2.toNat : Nat) : Int) from by unfold hcTerm; rw [Int.natCast_pow]; rfl]
  rw [show IntKind.u64.wrap ((hcTerm x.2.toNat : Nat) : Int) = ((hcTerm x.2.toNat : Nat) : Int) from u64_small _ (by omega) (by omega)]
  rw [show ((hcSum pre : Nat) : Int) + ((hcTerm x.2.toNat : Nat) : Int) = ((hcSum pre + hcTerm x.2.toNat : Nat) : Int) from (Int.natCast_add _ _).symm]
  exact u64_small _ (by omega) (by omega)
theorem hc_quo (m S : Nat) (hm : m ≤ 256) :
    IntKind.u64.wrap ((IntKind.u64.wrap (IntKind.u64.wrap (IntKind.u64.wrap (7 * IntKind.u64.wrap (m : Int)) * IntKind.u64.wrap (m : Int)) * 4294967296)).tdiv (10 * (S : Int))) = ((7 * m * m * 4294967296 / (10 * S) : Nat) : Int) := by
  have hmm : m * m ≤ 256 * 256 := Nat.mul_le_mul hm hm
  have hm7 : 7 * m * m = 7 * (m * m) := Nat.mul_assoc _ _ _
  rw [show IntKind.u64.wrap (m : Int) = (m : Int) from u64_small _ (by omega) (by omega)]
  rw [show IntKind.u64.wrap (7 * (m : Int)) = ((7 * m : Nat) : Int) from u64_small _ (by omega) (by omega)]
  rw [show ((7 * m : Nat) : Int) * (m : Int) = ((7 * m * m : Nat) : Int) from (Int.natCast_mul _ _).symm]
  rw [show IntKind.u64.wrap ((7 * m * m : Nat) : Int) = ((7 * m * m : Nat) : Int) from u64_small _ (by omega) (by omega)]
  rw [show ((7 * m * m : Nat) : Int) * 4294967296 = ((7 * m * m * 4294967296 : Nat) : Int) from (Int.natCast_mul _ _).symm]
  rw [show IntKind.u64.wrap ((7 * m * m * 4294967296 : Nat) : Int) = ((7 * m * m * 4294967296 : Nat) : Int) from u64_small _ (by omega) (by omega)]
  rw [show 10 * (S : Int) = ((10 * S : Nat) : Int) from (Int.natCast_mul _ _).symm]
  rw [show ((7 * m * m * 4294967296 : Nat) : Int).tdiv ((10 * S : Nat) : Int) = ((7 * m * m * 4294967296 / (10 * S) : Nat) : Int) from (Int.ofNat_tdiv _ _).symm ▸ rfl]
  have hle : 7 * m * m * 4294967296 / (10 * S) ≤ 7 * m * m * 4294967296 := Nat.div_le_self _ _
  generalize 7 * m * m * 4294967296 / (10 * S) = q at hle ⊢
  exact u64_small _ (by omega) (by omega)
theorem ni_step {m n : Nat} {w w1 W : World} {pre : List (Nat × UInt8)} {x : Nat × UInt8} (hn : n ≤ m) (h : NI m n w w1 pre W) (v u : Value) (hv : v = .bool (hcSome pre || (x.2.toNat != 0))) (hu : u = .int .u64 ((hcSum pre + hcTerm x.2.toNat : Nat) : Int)) :
    KeepsFrom w1.heap.size W ((W.setCell ⟨m, 0, none⟩ v).setCell ⟨m + 1, 0, none⟩ u) ∧ KL [m + 2] W ((W.setCell ⟨m, 0, none⟩ v).setCell ⟨m + 1, 0, none⟩ u) ∧ NI m n w w1 (pre ++ [x]) ((W.setCell ⟨m, 0, none⟩ v).setCell ⟨m + 1, 0, none⟩ u) := by
  obtain ⟨h1, h2, h3, h4⟩ := h
  have ho : ∀ k, k ≠ m → k ≠ m + 1 → ((W.setCell ⟨m, 0, none⟩ v).setCell ⟨m + 1, 0, none⟩ u).heap[k]? = W.heap[k]? := fun k e1 e2 =>
    (heap_set_other (p := ⟨m + 1, 0, none⟩) (fun e => e2 e.symm) u).trans (heap_set_other (p := ⟨m, 0, none⟩) (fun e => e1 e.symm) v)
  refine ⟨((KeepsOthers.setCell W _ v).from _).trans ((KeepsOthers.setCell _ _ u).from _), fun k hk o hO => ?_, ?_, ?_, fun k hk e1 e2 => (ho k e1 e2).trans (h3 k hk e1 e2), ?_⟩
  · have : k = m + 2 := by simpa using hk
    exact (ho k (by omega) (by omega)).trans hO
  · rw [hcSome_snoc, ← hv]
    exact (heap_set_other (p := ⟨m + 1, 0, none⟩) (by show m + 1 ≠ m; omega) u).trans (heap_set_known h1 _)
  · rw [hcSum_snoc, ← hu]
    exact heap_set_known ((heap_set_other (p := ⟨m, 0, none⟩) (by show m ≠ m + 1; omega) v).trans h2) _
  · exact (h4.setCell (p := ⟨m, 0, none⟩) (by show n ≤ m; omega) v).setCell (p := ⟨m + 1, 0, none⟩) (by show n ≤ m + 1; omega) u
def hlCount (b : Nat) (s : ByteArray) : Nat := if hcSome (octs s) then 7 * 2 ^ b * 2 ^ b * 4294967296 / (10 * hcSum (octs s)) else 0
set_option maxRecDepth 100000 in
set_option maxHeartbeats 2000000 in
theorem hCount_any (b : Nat) (r : List Nat) (w : World) (h1 : 3 ≤ b) (h2 : b ≤ 8) (hl : r.length = 2 ^ b) (hr : ∀ i, r.getD i 0 ≤ 65 - b) :
    Calls Tryz.prog 201 #[.agg #[.int .i64 b, .string (hlStr r)]] w fun e w' => e = .returned (.int .u64 (hlCount b (hlStr r) : Nat)) ∧ Below w.heap.size w w' := by
  have hR : Hid (∀ w1, Calls Tryz.prog 127 #[.agg #[.int .i64 b, .string (hlStr r)]] w1 fun e w' => e = .returned (.bool true) ∧ Below w1.heap.size w1 w') := fun w1 => (hll_Right_any b (hlStr r) w1).mono fun e w' h => ⟨by rw [h.1, hlRight_str b r h1 h2 hl hr], h.2⟩
  have hsz : (hlStr r).size = 2 ^ b := by rw [hlStr_size, hl]
  generalize hlStr r = s at hR hsz ⊢
  have h256 : 2 ^ b ≤ 256 := Nat.pow_le_pow_right (by omega) h2
  have h8 : 8 ≤ 2 ^ b := show 2 ^ 3 ≤ 2 ^ b from Nat.pow_le_pow_right (by omega) h1
  have HSZ := Lib.hid hsz
  have H256 := Lib.hid (And.intro h8 h256)
  clear hl hr h1 h2 hsz h256 h8
  obtain ⟨W0, hW0, hX0, hB0, hs0⟩ := boxes1 w #[.int .i64 b, .string s] 29
  have HX0 := Lib.hid hX0
  have HB0 := Lib.hid hB0
  have c0 : W0.cell? ⟨w.heap.size, 0, none⟩ = some (.int .i64 b) := cell_of_cells hX0 0
  have c1 : W0.cell? ⟨w.heap.size, 1, none⟩ = some (.string s) := cell_of_cells hX0 1
  clear hX0 hB0
  refine calls_marks Tryz.func201 rfl ?_
  simp only [Tryz.ntmps201, List.size_toArray, List.length_cons, List.length_nil, Nat.reduceAdd, Nat.reduceSub, Array.replicate_succ, Array.replicate_zero, List.push_toArray, List.append_toArray, List.nil_append, List.cons_append]
  go_wp2_with fail
  refine (hR.out _).mono ?_
  rintro e w1 ⟨rfl, hb1⟩
  have hX1 := known hb1 (Nat.le_refl _) HX0.out
  have d0 : w1.cell? ⟨w.heap.size, 0, none⟩ = some (.int .i64 b) := cell_of_cells hX1 0
  have d1 : w1.cell? ⟨w.heap.size, 1, none⟩ = some (.string s) := cell_of_cells hX1 1
  obtain ⟨W2, hW2, hb3, hb4, hB2, hs2⟩ := boxes2 w1 #[.bool false] 4 #[.int .u64 0] 50
  have hX2 := known hB2 (Nat.le_refl _) hX1
  have e0 : W2.cell? ⟨w.heap.size, 0, none⟩ = some (.int .i64 b) := cell_of_cells hX2 0
  have e1 : W2.cell? ⟨w.heap.size, 1, none⟩ = some (.string s) := cell_of_cells hX2 1
  have z1 : W2.setCell ⟨w1.heap.size, 0, none⟩ (.bool false) = W2 := set_same hb3 rfl
  have z2 : W2.setCell ⟨w1.heap.size + 1, 0, none⟩ (.int .u64 0) = W2 := set_same hb4 rfl
  have y0 : W2.cell? ⟨w1.heap.size, 0, none⟩ = some (.bool false) := cell_of_cells hb3 0
  have z0 : W2.cell? ⟨w1.heap.size + 1, 0, none⟩ = some (.int .u64 0) := cell_of_cells hb4 0
  have y9 : W2.frozen? ⟨w1.heap.size, 0, none⟩ = false := frozen_of_cells hb3 0
  have z9 : W2.frozen? ⟨w1.heap.size + 1, 0, none⟩ = false := frozen_of_cells hb4 0
  obtain ⟨W3, hW3, hX3, hB3, hs3⟩ := boxes1 W2 #[.string s] 9
  have HW3 := Lib.hid hW3
  have hz1 : w.heap.size + 1 ≤ w1.heap.size := by have := hb1.size; omega
  have hBw3 : Below w.heap.size w W3 := HB0.out.trans ((hb1.trans ((hB2.trans (hB3.mono hB2.size)).mono hb1.size)).mono HB0.out.size)
  have h0 : NI w1.heap.size w.heap.size w W3 [] W3 := ⟨known hB3 (Nat.le_refl _) hb3, known hB3 (Nat.le_refl _) hb4, fun _ _ _ _ => rfl, hBw3⟩
  have H0 := Lib.hid h0
  have HX3 := Lib.hid (known hB3 (Nat.le_refl _) hX2)
  have HXs := Lib.hid (show W3.heap[w1.heap.size + 2]? = _ from hs2 ▸ hX3)
  have HS23 : Hid (W2.heap.size = w1.heap.size + 2 ∧ W3.heap.size = W2.heap.size + 1) := ⟨hs2, hs3⟩
  clear hW3 hX1 hX2 hX3 hb3 hb4 hB2 hB3 hb1 hBw3 h0 d0 d1 hs3
  go_wp2_with (go_at_call 137; refine (ranks_any _ _).mono ?_; rintro e w' ⟨rfl, rfl⟩; rw [HW3.out])
  have hzz : w1.heap.size + 2 < W3.heap.size := by have := HS23.out; omega
  refine wp_range_all1 [w1.heap.size + 2] 6 (fun x : Nat × UInt8 => .int .u8 x.2.toNat) (gf := 144) (lb := #[.pointer (some ⟨w1.heap.size + 2, 0, none⟩)]) rfl (enters_of Tryz.func144 (by kernel_rfl) rfl)
    (ranks_kl (fun x : Nat × UInt8 => x) (w1.heap.size + 2) s (by have := HSZ.out; have := H256.out.2; omega) (octs s) (List.map_id' _) W3 HXs.out) (by intro k hk; simp at hk; omega) (Below.refl _ _) (fun _ => rfl) (NI w1.heap.size w.heap.size w W3) (ni_own w1.heap.size w.heap.size w W3 (Nat.le_refl _) _ (Nat.le_refl _) (by omega)) H0.out ?assign ?body ?fin
  case assign =>
    rintro l pre x W K hI hK
    simp only [List.zip_toArray, List.zip_cons_cons, List.zip_nil_right, List.size_toArray, List.foldl_toArray', List.foldl_cons, List.foldl_nil, List.setIfInBounds_toArray, List.set_cons_succ, List.set_cons_zero] at hK ⊢
    gi_wp2
    exact hI
  case body =>
    rintro lo pre x W hN hlt
    obtain ⟨hN1, hN2, hN3, hN4⟩ := id hN
    simp only [List.zip_toArray, List.zip_cons_cons, List.zip_nil_right, List.size_toArray, List.foldl_toArray', List.foldl_cons, List.foldl_nil, List.setIfInBounds_toArray, List.set_cons_succ, List.set_cons_zero]
    have q1 := hN1.cell
    have q2 := hN1.frozen
    obtain ⟨V1, hV1⟩ : ∃ V1, W.setCell ⟨w1.heap.size, 0, none⟩ (.bool (hcSome pre || (x.2.toNat != 0))) = V1 := ⟨_, rfl⟩
    have hO1 : OnlyAt w1.heap.size W V1 := by rw [← hV1]; exact (OnlyAt.refl _ _).set _ _
    have hM1 : V1.heap[w1.heap.size]? = some (.cells #[.bool (hcSome pre || (x.2.toNat != 0))] 4 (0, 0)) := by rw [← hV1]; exact heap_set_known hN1 _
    have hM2 : Boxed V1 (w1.heap.size + 1) 50 (.int .u64 (hcSum pre : Nat)) := (hO1.2 _ (by omega)).trans hN2
    have q3 := hM2.cell
    have q4 := hM2.frozen
    have hx8 := UInt8.toNat_lt x.2
    generalize hsm : hcSome pre = sm at q1 hV1 hM1
    have hl2 : pre.length < 256 := by have := HSZ.out; have := H256.out.2; have := octs_len s; omega
    cases sm with
    | true =>
      simp only [Bool.true_or] at hV1 hM1
      gi_wp2_with fail
      rw [← hV1]
      exact ni_step (by omega) hN _ _ (by rw [hsm]; rfl) (by rw [hc_step pre x hl2])
    | false =>
      have hs1 := hc_step pre x hl2
      rcases Nat.eq_zero_or_pos x.2.toNat with e | e
      · have hv : (false || (x.2.toNat != 0)) = false := by simp [e]
        rw [hv] at hV1 hM1
        gi_wp2_with fail
        rw [← hV1]
        refine ni_step (by omega) hN _ _ (by rw [hsm, hv]) ?_
        rw [e] at hs1 ⊢
        rw [← hs1]
        rfl
      · have hv : (false || (x.2.toNat != 0)) = true := by simp; omega
        rw [hv] at hV1 hM1
        have e1 : ((x.2.toNat : Int) != 0) = true := by simp; omega
        gi_wp2_with fail
        rw [← hV1]
        exact ni_step (by omega) hN _ _ (by rw [hsm, hv]) (by rw [Int.natCast_add])
  case fin =>
    rintro D W hD ⟨hN1, hN2, hN3, hN4⟩ hK
    have q1 := hN1.cell
    have q2 := hN2.cell
    have hX0 := (hN3 w.heap.size (by omega) (by omega) (by omega)).trans HX3.out
    have k0 : W.cell? ⟨w.heap.size, 0, none⟩ = some (.int .i64 b) := cell_of_cells hX0 0
    have k1 : W.cell? ⟨w.heap.size, 1, none⟩ = some (.string s) := cell_of_cells hX0 1
    have hle := hcSum_le (octs s)
    rw [octs_len, HSZ.out] at hle
    have H6 := H256.out
    generalize hsm : hcSome (octs s) = sm at q1
    cases sm with
    | false =>
      go_wp2_with fail
      refine marks_ret1 (v := .int .u64 0) hK (by simp [results, Tryz.f201, go_sem]) ⟨?_, bPutD hN4 (by omega) hK⟩
      rw [hlCount, hsm]
      rfl
    | true =>
      have hq : IntKind.u64.wrap ((IntKind.u64.wrap (IntKind.u64.wrap (IntKind.u64.wrap (7 * IntKind.u64.wrap (s.size : Nat)) * IntKind.u64.wrap (s.size : Nat)) * 4294967296)).tdiv (10 * ((hcSum (octs s) : Nat) : Int))) = ((hlCount b s : Nat) : Int) := by
        rw [hlCount, hsm, HSZ.out]
        exact hc_quo _ _ H6.2
      go_wp2_with fail
      refine marks_ret1 (v := .int .u64 (hlCount b s : Nat)) hK (by simp [results, Tryz.f201, go_sem]) ⟨rfl, bPutD hN4 (by omega) hK⟩
end Go.Proofs.YtmkefodaibmkhaaGreatDoor
namespace Go.Proofs.YtmkefodaibmkhaaGreatDoor
open Go Go.RowKit Go.Shelf
attribute [local go_sem] Oper.semAt_some

/-- A range over an iterator that keeps the blocks of L, left by a label or not. -/
theorem wp_range_brkL {α : Type} {P : Program} {g : Operand} {ps : Array Tmp} {assign body : Code} {Q : Exit → Act → World → Prop} {a : Act} {w : World} {id : Nat} (L : List Nat) (s1 : Nat) (v1 : α → Value)
    {gf : Nat} {lb : Array Value} (hg : a.eval g = .func (.func gf) #[] lb) (eg : ∀ args w, (callFunc gf args).run P w = .ok (.enter gf args) w)
    {encs : α → Array Value} {xs : List α} {N : Nat} {w0 : World} (hseq : SeqStopsK Fence.wide 8 P gf lb encs (KL L) (fun ys => ys = xs) (fun pre => pre <+: xs) N w0)
    (hL : ∀ b ∈ L, b < w.heap.size) (hb0 : Below w0.heap.size w0 w) (hps : ∀ x, (encs x).size = ps.size)
    (I Ib : List α → World → Prop) (hI : OwnFrom w.heap.size I) (hIb : OwnFrom w.heap.size Ib) (h0 : I [] w)
    (hassign : ∀ (l : Nat) (pre : List α) (x : α) (W : World) (K : Act → World → Prop), I pre W → (I pre W → K { tmps := ((ps.zip (encs x)).foldl (fun t (p, v) => t.setIfInBounds p v) a.tmps).setIfInBounds s1 (v1 x), defers := [] } W) →
      assign.wpIn (Fence.wide.inRound l) 7 P (Exit.then K (fun _ _ _ => False)) { tmps := (ps.zip (encs x)).foldl (fun t (p, v) => t.setIfInBounds p v) a.tmps, defers := [] } W)
    (hbody : ∀ (l : Nat) (pre : List α) (x : α) (W : World), I pre W → pre.length < N → body.wpIn (Fence.wide.inRound l) 7 P (ownPostG w.heap.size (KL L) I (fun c pre W => c = .exit id ∧ Ib pre W) (pre ++ [x]) W) { tmps := ((ps.zip (encs x)).foldl (fun t (p, v) => t.setIfInBounds p v) a.tmps).setIfInBounds s1 (v1 x), defers := [] } W)
    (hfin : ∀ (D : Nat) (W : World), w.heap.size ≤ D → (I xs W ∨ ∃ pre, pre <+: xs ∧ Ib pre W) → W.heap[D]? = some (.deferred (some [])) → Q .normal { a with defers := { target := .collected D, args := #[] } :: a.defers } W) :
    (Code.rangeFunc g ps assign body).wp P (Exit.inBlock id Q) a w :=
  (wpIn_wide (n := 9)).1 (wpIn_rangeFunc_ownH rfl (by omega) hg trivial eg hseq (fun h k => h.trans k)
    (fun W l o o' hl h _ _ => KL.grown (grownBy_putObj' W l o') (fun k hk e => by cases e; have := hL _ hk; omega)) hb0 hps I (fun c pre W => c = .exit id ∧ Ib pre W) hI (fun _ => (ownFrom_pure _ _).and hIb) h0
    (fun x a' _ => a' = { tmps := ((ps.zip (encs x)).foldl (fun t (p, v) => t.setIfInBounds p v) a.tmps).setIfInBounds s1 (v1 x), defers := [] }) (fun _ _ => ownFrom_pure _ _)
    (fun l pre x W K hi hK => hassign l pre x W K hi (fun hi' => hK _ _ (KeepsFrom.refl _ _) (KL.refl _ _) hi' rfl))
    (fun l pre x a' W _ _ hi hax hlt => by subst hax; exact hbody l pre x W hi hlt) (fun D ys W hD e hi hK => by subst e; exact hfin D W hD (.inl hi) hK)
    (fun D c pre W hD hp hi hK => by obtain ⟨rfl, hi⟩ := hi; exact wpIn_wide.2 (wp_exit (by show (if id = id then Q .normal _ _ else Q (.exit id) _ _); rw [if_pos rfl]; exact hfin D W hD (.inr ⟨pre, hp, hi⟩) hK))))

/-- The least counter of those told so far. -/
def cmLeast {n : Nat} (l : List Int) (pre : List { k : Nat // k < n }) : Int := pre.foldl (fun m x => min m (l.getD x.1 0)) 18446744073709551615
theorem cmLeast_snoc {n : Nat} (l : List Int) (pre : List { k : Nat // k < n }) (x : { k : Nat // k < n }) : cmLeast l (pre ++ [x]) = min (cmLeast l pre) (l.getD x.1 0) := by unfold cmLeast; rw [List.foldl_append]; rfl
theorem cmLeast_u64 {n : Nat} (l : List Int) (hl : U64s l) (pre : List { k : Nat // k < n }) : U64 (cmLeast l pre) := by
  have key : ∀ (m : List { k : Nat // k < n }), U64 (cmLeast l m.reverse) := by
    intro m
    induction m with
    | nil => exact ⟨by show (0 : Int) ≤ 18446744073709551615; omega, by show (18446744073709551615 : Int) ≤ 18446744073709551615; omega⟩
    | cons x m ih =>
      rw [List.reverse_cons, cmLeast_snoc]
      have := getD_u64 l hl x.1
      unfold U64 at *
      omega
  have h := key pre.reverse
  rwa [List.reverse_reverse] at h
theorem cmLeast_zero {n : Nat} (l : List Int) (hl : U64s l) (pre r : List { k : Nat // k < n }) (h : cmLeast l pre = 0) : cmLeast l (pre ++ r) = 0 := by
  have key : ∀ (m : List { k : Nat // k < n }), cmLeast l (pre ++ m.reverse) = 0 := by
    intro m
    induction m with
    | nil => rw [List.reverse_nil, List.append_nil]; exact h
    | cons x m ih =>
      rw [List.reverse_cons, ← List.append_assoc, cmLeast_snoc, ih]
      have := getD_u64 l hl x.1
      unfold U64 at this
      omega
  have h := key r.reverse
  rwa [List.reverse_reverse] at h
/-- Between the rounds: the box of the least, all else as it was. -/
def KI {n : Nat} (l : List Int) (m N : Nat) (w w1 : World) (pre : List { k : Nat // k < n }) (W : World) : Prop := Boxed W m 50 (.int .u64 (cmLeast l pre)) ∧ (∀ k, k < w1.heap.size → k ≠ m → W.heap[k]? = w1.heap[k]?) ∧ Below N w W
theorem ki_own {n : Nat} (l : List Int) (m N : Nat) (w w1 : World) (hn : N ≤ w.heap.size) (C : Nat) (hC : w1.heap.size ≤ C) (hC2 : N ≤ C) : OwnFrom C (KI (n := n) l m N w w1) := fun pre X Y row hs hg hr => by
  obtain ⟨h1, h3, h4⟩ := hs
  have hr' : ∀ r, row = some r → ∃ o : Obj, X.heap[r]? = some o ∧ o.isCells = false := fun r e => (hr r e).2
  refine ⟨ownBlk h1 hg hr', fun k hk e1 => ?_, ownFrom_below (β := Unit) (B := C) hn hC2 () X Y row h4 hg hr⟩
  have h5 := h3 k hk e1
  refine (hg.block k ?_ (fun e => ?_)).trans h5
  · have h6 : w1.heap[k]? ≠ none := by rw [Array.getElem?_eq_getElem hk]; simp
    rw [← h5] at h6
    rcases Nat.lt_or_ge k X.heap.size with h | h
    · exact h
    · exact absurd (Array.getElem?_eq_none h) h6
  · have := (hr k e.symm).1
    omega
def KIb {n : Nat} (l : List Int) (m N : Nat) (w w1 : World) (pre : List { k : Nat // k < n }) (W : World) : Prop := cmLeast l pre = 0 ∧ KI l m N w w1 pre W
/-- What Count tells. -/
def cmCount (c : Nat) (l : List Int) (h : Nat) : Int := min (l.getD (cmPl c 0 h) 0) (l.getD (cmPl c 1 h) 0)
set_option maxRecDepth 100000 in
set_option maxHeartbeats 2000000 in
theorem cCount_any (c h : Nat) (l : List Int) (a : Option Addr) (len cap : Nat) (w : World) (hs : isShapeB 2 c = true) (hc : 0 < c) (h2 : c ≤ 32) (hh : h < 2 ^ 64) (hL : SlE encU 1 w.heap.size w a len l) (hl : l.length = 2 * c) (hlu : U64s l) :
    Calls Tryz.prog 211 #[.agg #[.int .i64 2, .int .i64 c, .slice a len cap], .int .u64 h] w fun e w' => e = .returned (.int .u64 (cmCount c l h)) ∧ Below w.heap.size w w' := by
  have hR : Hid (∀ w1, Calls Tryz.prog 128 #[.agg #[.int .i64 2, .int .i64 c, .slice a len cap]] w1 fun e w' => e = .returned (.bool true) ∧ Below w1.heap.size w1 w') := fun w1 => (cms_Right_any 2 c l a len cap w1 hL.1).mono fun e w' h => ⟨by rw [h.1]; simp [cmRight, hs, hl], h.2⟩
  have HF : Hid (cmLeast l (toldPl c h hc) = cmCount c l h) := by
    have h1 := getD_u64 l hlu (cmPl c 0 h)
    show min (min 18446744073709551615 (l.getD (cmPl c 0 h) 0)) (l.getD (cmPl c 1 h) 0) = min (l.getD (cmPl c 0 h) 0) (l.getD (cmPl c 1 h) 0)
    unfold U64 at h1
    omega
  have HSL : Hid (∀ x : { k : Nat // k < 2 * c }, ∃ b off, a = some ⟨b, off, none⟩ ∧ b < w.heap.size ∧ w.cell? ⟨b, off + x.1, none⟩ = some (.int .u64 (l.getD x.1 0))) := fun x => by
    obtain ⟨y, hy⟩ : ∃ y, l[x.1]? = some y := ⟨_, List.getElem?_eq_getElem (by have := x.2; omega)⟩
    obtain ⟨b, off, e, hb, hcc⟩ := hL.2 x.1 y hy
    have h1 := hcc 0 (by omega)
    rw [Nat.mul_one] at h1
    refine ⟨b, off, e, hb, ?_⟩
    rw [List.getD_eq_getElem?_getD, hy]
    exact h1
  have HLL : Hid (len = 2 * c) := hL.1.trans hl
  have HU := Lib.hid hlu
  obtain ⟨W0, hW0, hX0, hB0, hs0⟩ := boxes1 w #[.int .i64 2, .int .i64 c, .slice a len cap] 31
  have HX0 := Lib.hid hX0
  have HB0 := Lib.hid hB0
  have k0 : W0.cell? ⟨w.heap.size, 0, none⟩ = some (.int .i64 2) := cell_of_cells hX0 0
  have k1 : W0.cell? ⟨w.heap.size, 1, none⟩ = some (.int .i64 c) := cell_of_cells hX0 1
  have k2 : W0.cell? ⟨w.heap.size, 2, none⟩ = some (.slice a len cap) := cell_of_cells hX0 2
  clear hX0 hB0 hL hl hlu
  refine calls_marks Tryz.func211 rfl ?_
  simp only [Tryz.ntmps211, List.size_toArray, List.length_cons, List.length_nil, Nat.reduceAdd, Nat.reduceSub, Array.replicate_succ, Array.replicate_zero, List.push_toArray, List.append_toArray, List.nil_append, List.cons_append]
  go_wp2_with fail
  go_step3
  go_wp2_with fail
  refine (hR.out _).mono ?_
  rintro e w1 ⟨rfl, hb1⟩
  have hX1 := known hb1 (Nat.le_refl _) HX0.out
  have d0 : w1.cell? ⟨w.heap.size, 0, none⟩ = some (.int .i64 2) := cell_of_cells hX1 0
  have d1 : w1.cell? ⟨w.heap.size, 1, none⟩ = some (.int .i64 c) := cell_of_cells hX1 1
  have d2 : w1.cell? ⟨w.heap.size, 2, none⟩ = some (.slice a len cap) := cell_of_cells hX1 2
  obtain ⟨W2, hW2, hY2, hB2, hs2⟩ := boxes1 w1 #[.int .u64 0] 50
  obtain ⟨V2, hV2⟩ : ∃ V2, W2.setCell ⟨w1.heap.size, 0, none⟩ (.int .u64 18446744073709551615) = V2 := ⟨_, rfl⟩
  have y9 : W2.frozen? ⟨w1.heap.size, 0, none⟩ = false := frozen_of_cells hY2 0
  have y0 : W2.cell? ⟨w1.heap.size, 0, none⟩ = some (.int .u64 0) := cell_of_cells hY2 0
  have hbV : Below w1.heap.size w1 V2 := by rw [← hV2]; exact hB2.setCell (p := ⟨w1.heap.size, 0, none⟩) (Nat.le_refl _) _
  have hzV : V2.heap.size = w1.heap.size + 1 := by rw [← hV2, size_set]; exact hs2
  have hYV : Boxed V2 w1.heap.size 50 (.int .u64 18446744073709551615) := by rw [← hV2]; exact heap_set_known hY2 _
  have hXV := known hbV (Nat.le_refl _) hX1
  have e0 : V2.cell? ⟨w.heap.size, 0, none⟩ = some (.int .i64 2) := cell_of_cells hXV 0
  have e1 : V2.cell? ⟨w.heap.size, 1, none⟩ = some (.int .i64 c) := cell_of_cells hXV 1
  have e2 : V2.cell? ⟨w.heap.size, 2, none⟩ = some (.slice a len cap) := cell_of_cells hXV 2
  go_wp2_with fail
  obtain ⟨W3, hW3, hP3, hQ3, hB3, hs3⟩ := boxes2 V2 #[.int .i64 2, .int .i64 c, .slice a len cap] 165 #[.int .u64 h] 50
  have HW3 := Lib.hid hW3
  have hBw3 : Below w.heap.size w W3 := HB0.out.trans ((hb1.trans ((hbV.trans (hB3.mono hbV.size)).mono hb1.size)).mono HB0.out.size)
  have hI0 : KI l w1.heap.size w.heap.size w W3 ([] : List { k : Nat // k < 2 * c }) W3 := ⟨known hB3 (Nat.le_refl _) hYV, fun _ _ _ => rfl, hBw3⟩
  have H0 := Lib.hid hI0
  have HX3 := Lib.hid (known hB3 (Nat.le_refl _) hXV)
  rw [hzV] at hP3 hQ3
  have HP := Lib.hid hP3
  have HQ := Lib.hid hQ3
  have HS : Hid (w.heap.size < w1.heap.size ∧ V2.heap.size = w1.heap.size + 1 ∧ W3.heap.size = V2.heap.size + 2) := ⟨by have := hb1.size; omega, hzV, hs3⟩
  apply wp_label
  clear hW3 hX1 hXV hY2 hB2 hB3 hb1 hBw3 hI0 hbV hYV hP3 hQ3 hs3 hs2
  go_wp2_with (go_at_call 216; refine (told_any _ _ _ _ _).mono ?_; rintro e w' ⟨rfl, rfl⟩; rw [HW3.out])
  have hz3 : W3.heap.size = w1.heap.size + 3 := by have := HS.out; omega
  have hzw : w.heap.size < w1.heap.size := HS.out.1
  refine wp_range_brkL [w1.heap.size + 1, w1.heap.size + 1 + 1] 6 (fun x : { k : Nat // k < 2 * c } => .int .i64 (x.1 : Nat)) (gf := 222) (lb := #[.pointer (some ⟨w1.heap.size + 1, 0, none⟩), .pointer (some ⟨w1.heap.size + 1 + 1, 0, none⟩)]) rfl (enters_of Tryz.func222 (by kernel_rfl) rfl)
    (told_seq (w1.heap.size + 1) (w1.heap.size + 1 + 1) c h (.slice a len cap) hc h2 hh W3 HP.out HQ.out) (by intro k hk; simp at hk; omega) (Below.refl _ _) (fun _ => rfl) (KI l w1.heap.size w.heap.size w W3) (KIb l w1.heap.size w.heap.size w W3) (ki_own l w1.heap.size w.heap.size w W3 (Nat.le_refl _) _ (Nat.le_refl _) (by omega)) ((ownFrom_pure _ _).and (ki_own l w1.heap.size w.heap.size w W3 (Nat.le_refl _) _ (Nat.le_refl _) (by omega))) H0.out ?assign ?body ?fin
  case assign =>
    rintro lo pre x W K hI hK
    simp only [List.zip_toArray, List.zip_cons_cons, List.zip_nil_right, List.size_toArray, List.foldl_toArray', List.foldl_cons, List.foldl_nil, List.setIfInBounds_toArray, List.set_cons_succ, List.set_cons_zero] at hK ⊢
    gi_wp2
    exact hI
  case body =>
    rintro lo pre x W hN hlt
    obtain ⟨hN1, hN3, hN4⟩ := id hN
    simp only [List.zip_toArray, List.zip_cons_cons, List.zip_nil_right, List.size_toArray, List.foldl_toArray', List.foldl_cons, List.foldl_nil, List.setIfInBounds_toArray, List.set_cons_succ, List.set_cons_zero]
    obtain ⟨sb, off, rfl, hsb, hcell⟩ := HSL.out x
    have q0 := hN1.cell
    have q1 := hN1.frozen
    have hXW := (hN3 w.heap.size (by omega) (by omega)).trans HX3.out
    have u0 : W.cell? ⟨w.heap.size, 0, none⟩ = some (.int .i64 2) := cell_of_cells hXW 0
    have u1 : W.cell? ⟨w.heap.size, 1, none⟩ = some (.int .i64 c) := cell_of_cells hXW 1
    have u2 : W.cell? ⟨w.heap.size, 2, none⟩ = some (.slice (some ⟨sb, off, none⟩) len cap) := cell_of_cells hXW 2
    have q2 : W.cell? ⟨sb, off + x.1, none⟩ = some (.int .u64 (l.getD x.1 0)) := (hN4.cell (p := ⟨sb, off + x.1, none⟩) hsb).trans hcell
    have hx2 := x.2
    have hx3 : (x.1 : Int) < (len : Int) := by have := HLL.out; omega
    have hx4 : (0 : Int) ≤ (x.1 : Int) := by omega
    have hlu := HU.out
    have hu1 := cmLeast_u64 l hlu pre
    have hu2 := getD_u64 l hlu x.1
    have hsn := cmLeast_snoc l pre x
    generalize l.getD x.1 0 = v at q2 hu2 hsn
    generalize hm0 : cmLeast l pre = m0 at q0 hu1 hsn
    obtain ⟨V, hV⟩ : ∃ V, (W.setCell ⟨w1.heap.size, 0, none⟩ (.int .u64 (min m0 v))).drew = V := ⟨_, rfl⟩
    have ho : ∀ k, k ≠ w1.heap.size → V.heap[k]? = W.heap[k]? := fun k e1 => by
      rw [← hV]
      exact heap_set_other (p := ⟨w1.heap.size, 0, none⟩) (fun e => e1 e.symm) _
    have hbx : Boxed V w1.heap.size 50 (.int .u64 (min m0 v)) := by rw [← hV]; exact heap_set_known hN1 _
    have hkf : KeepsFrom W3.heap.size W V := by rw [← hV]; exact ((KeepsOthers.setCell W _ _).from _).trans ((KeepsOthers.drew _).from _)
    have hKI : KI l w1.heap.size w.heap.size w W3 (pre ++ [x]) V := ⟨by rw [hsn]; exact hbx, fun k hk e1 => (ho k e1).trans (hN3 k hk e1), by rw [← hV]; exact (hN4.setCell (p := ⟨w1.heap.size, 0, none⟩) (by show w.heap.size ≤ w1.heap.size; omega) _).drew⟩
    have hkl : KL [w1.heap.size + 1, w1.heap.size + 1 + 1] W V := fun k hk o hO => by
      have : k = w1.heap.size + 1 ∨ k = w1.heap.size + 1 + 1 := by simpa using hk
      exact (ho k (by omega)).trans hO
    have r0 := hbx.cell
    have hR : Hid (KeepsFrom W3.heap.size W V ∧ KL [w1.heap.size + 1, w1.heap.size + 1 + 1] W V ∧ KI l w1.heap.size w.heap.size w W3 (pre ++ [x]) V ∧ cmLeast l (pre ++ [x]) = min m0 v) := ⟨hkf, hkl, hKI, hsn⟩
    have HV := Lib.hid hV
    clear hN hN1 hN3 hN4 hXW hcell hlu hsn hV ho hbx hkf hkl hKI hm0
    gi_wp2_with fail
    gi_region
    all_goals
      rw [HV.out]
      by_cases hz : min m0 v = 0
      · have hz2 : (min m0 v == 0) = true := by simp [hz]
        gi_wp2_with fail
        exact ⟨hR.out.1, rfl, hR.out.2.2.2.trans hz, hR.out.2.2.1⟩
      · have hz2 : (min m0 v == 0) = false := by simp [hz]
        gi_wp2_with fail
        exact ⟨hR.out.1, hR.out.2.1, hR.out.2.2.1⟩
  case fin =>
    rintro D W hD hI hK
    obtain ⟨hv, hk⟩ : Boxed W w1.heap.size 50 (.int .u64 (cmCount c l h)) ∧ Below w.heap.size w W := by
      rcases hI with hI | ⟨pre, hp, hz, hI⟩
      · rw [← HF.out]
        exact ⟨hI.1, hI.2.2⟩
      · obtain ⟨r, hr⟩ := hp
        have h1 := cmLeast_zero l HU.out pre r hz
        rw [hr, HF.out] at h1
        rw [h1, ← hz]
        exact ⟨hI.1, hI.2.2⟩
    have q0 := hv.cell
    go_wp2_with fail
    rw [Exit.noGoto_ret]
    exact marks_ret1 (v := .int .u64 (cmCount c l h)) hK (by simp [results, Tryz.f211, go_sem]) ⟨rfl, bPutD hk (by omega) hK⟩
end Go.Proofs.YtmkefodaibmkhaaGreatDoor

/- Package hll: ranks, Right. The law of a range over a function, for an iterator that reads some blocks; slices.Values at uint64 by it. -/
import Derived.Test.YtpnlmfilmbodfaaGreatDoorVXA
import Derived.Test.YtpnlmfilmbodfaaGreatDoorVH0
import Derived.BigRegion
namespace Go.Proofs.YtpnlmfilmbodfaaGreatDoor
open Go Go.RowKit Go.Shelf
attribute [local go_sem] Oper.semAt_some
theorem ranks_any (s : ByteArray) (w : World) :
    Calls Tryz.prog 235 #[.string s] w fun e w' => e = .returned (.func (.func 248) #[] #[.pointer (some ⟨w.heap.size, 0, none⟩)]) ∧ w' = w.alloc (.cells #[.string s] 9) := by
  go_enter Tryz.func235, Tryz.ntmps235
  go_wp2
  go_ret
  exact ⟨rfl, rfl⟩
theorem wp_range_set {α : Type} {P : Program} {g : Operand} {ps : Array Tmp} {assign body : Code} {Q : Exit → Act → World → Prop} {a : Act} {w : World} (s : Nat) (val : α → Value)
    {gf : Nat} {lb : Array Value} (hg : a.eval g = .func (.func gf) #[] lb) (eg : ∀ args w, (callFunc gf args).run P w = .ok (.enter gf args) w)
    {encs : α → Array Value} {n₀ : Nat} {xs : List α} {N : Nat} {w0 : World} (hseq : SeqStopsK Fence.wide 8 P gf lb encs (Below n₀) (fun ys => ys = xs) (fun pre => pre <+: xs) N w0)
    (hn₀ : n₀ ≤ w.heap.size) (hb0 : Below w0.heap.size w0 w) (hps : ∀ x, (encs x).size = ps.size)
    (I : List α → World → Prop) (Ix : Code → List α → World → Prop) (hI : OwnFrom w.heap.size I) (hIx : ∀ c, OwnFrom w.heap.size (Ix c)) (h0 : I [] w)
    (hassign : ∀ (l : Nat) (pre : List α) (x : α) (W : World) (K : Act → World → Prop), I pre W →
      (I pre W → K { tmps := ((ps.zip (encs x)).foldl (fun t (p, v) => t.setIfInBounds p v) a.tmps).setIfInBounds s (val x), defers := [] } W) →
      assign.wpIn (Fence.wide.inRound l) 7 P (Exit.then K (fun _ _ _ => False)) { tmps := (ps.zip (encs x)).foldl (fun t (p, v) => t.setIfInBounds p v) a.tmps, defers := [] } W)
    (hbody : ∀ (l : Nat) (pre : List α) (x : α) (W : World), I pre W → pre.length < N →
      body.wpIn (Fence.wide.inRound l) 7 P (ownPostG w.heap.size (Below n₀) I Ix (pre ++ [x]) W) { tmps := ((ps.zip (encs x)).foldl (fun t (p, v) => t.setIfInBounds p v) a.tmps).setIfInBounds s (val x), defers := [] } W)
    (hdone : ∀ (D : Nat) (W : World), w.heap.size ≤ D → I xs W → W.heap[D]? = some (.deferred (some [])) → Q .normal { a with defers := { target := .collected D, args := #[] } :: a.defers } W)
    (hstop : ∀ (D : Nat) (c : Code) (pre : List α) (W : World), w.heap.size ≤ D → pre <+: xs → Ix c pre W → W.heap[D]? = some (.deferred (some [])) → c.wp P Q { a with defers := { target := .collected D, args := #[] } :: a.defers } W) :
    (Code.rangeFunc g ps assign body).wp P Q a w :=
  wp_range hg eg hseq hn₀ hb0 hps I Ix hI hIx h0
    (fun x a' _ => a' = { tmps := ((ps.zip (encs x)).foldl (fun t (p, v) => t.setIfInBounds p v) a.tmps).setIfInBounds s (val x), defers := [] }) (fun _ _ => ownFrom_pure _ _)
    (fun l pre x W K hi hK => hassign l pre x W K hi (fun hi' => hK _ _ (KeepsFrom.refl _ _) (Below.refl _ _) hi' rfl))
    (fun l pre x a' W hi hax hlt => by subst hax; exact hbody l pre x W hi hlt) hdone hstop
def octs (s : ByteArray) : List (Nat × UInt8) := (List.range s.size).map fun i => (i, s.data.toList.getD i 0)
def okRegs (b : Int) (l : List (Nat × UInt8)) : Bool := l.all fun p => !decide (65 - b < (p.2.toNat : Int))
theorem okRegs_append (b : Int) (l m : List (Nat × UInt8)) : okRegs b (l ++ m) = (okRegs b l && okRegs b m) := List.all_append
theorem okRegs_one (b : Int) (x : Nat × UInt8) : okRegs b [x] = !decide (65 - b < (x.2.toNat : Int)) := by simp [okRegs]
theorem octs_all (b : Int) (s : ByteArray) : okRegs b (octs s) = regsOk b s := by
  have h : s.data.toList = (octs s).map (·.2) := by
    apply List.ext_getElem?
    intro i
    by_cases hi : i < s.size
    · simp [octs, hi]
    · simp [octs, hi]
  unfold regsOk okRegs
  rw [h, List.all_map]
  rfl
theorem octs_len (s : ByteArray) : (octs s).length = s.size := by simp [octs]
theorem octs_at (s : ByteArray) (k : Nat) (h : k < s.size) : (octs s)[k]? = some (k, s[k]'h) := by
  simp [octs, h]
  rfl
set_option maxRecDepth 100000 in
set_option maxHeartbeats 1000000 in
theorem ranks1 (l Bs n₀ : Nat) (s : ByteArray) (hreach : s.size < 4294967281) (J Jx : List (Nat × UInt8) → World → Prop)
    (hY : ∀ pre x W, J pre W → pre.length < (octs s).length → YieldAt Fence.wide 7 Tryz.prog l #[.int .i64 x.1, .int .u8 x.2.toNat] W fun e W' =>
      (e = .returned (.bool true) ∧ J (pre ++ [x]) W' ∧ Below n₀ W W') ∨ (e = .returned (.bool false) ∧ Jx (pre ++ [x]) W'))
    (W : World) (hn₀ : Bs < n₀) (hBs : W.cell? ⟨Bs, 0, none⟩ = some (.string s)) (h0 : J [] W) :
    CallsIn Fence.wide 8 Tryz.prog 248 #[.func (.yield l) #[] #[], .pointer (some ⟨Bs, 0, none⟩)] W fun e W' => (∃ v, e = .returned v) ∧
      ((∃ ys, ys = octs s ∧ J ys W') ∨ (∃ pre, pre <+: octs s ∧ Jx pre W')) := by
  have hol := octs_len s
  refine callsIn_of_wp Tryz.func248 rfl trivial ?_ rfl
  simp only [Tryz.ntmps248, List.size_toArray, List.length_cons, List.length_nil, Nat.reduceAdd, Nat.reduceSub, Array.replicate_succ, Array.replicate_zero, List.push_toArray, List.append_toArray, List.nil_append, List.cons_append]
  have HO := Lib.hid hol
  clear hol
  gi_wp2
  gi_loopw [3, 6] (fun _ i wr => ∃ k : Nat, k ≤ s.size ∧ i = .int .i64 k ∧ J ((octs s).take k) wr ∧ Below n₀ W wr) (fun _ i _ => s.size - (intOf i).toNat)
  case atStart => exact ⟨0, Nat.zero_le _, rfl, h0, Below.refl _ _⟩
  case round =>
    obtain ⟨k, hk, rfl, hJs, hnx⟩ := hrel
    by_cases hlt : k < s.size
    · have hx := octs_at s k hlt
      obtain ⟨fn, tmps, assign, body, hy, hR⟩ := hY _ (k, s[k]'hlt) _ hJs (by rw [List.length_take, HO.out]; omega)
      have HX := Lib.hid hx
      have c0 : wr.cell? ⟨Bs, 0, none⟩ = some (.string s) := (hnx.cell (p := ⟨Bs, 0, none⟩) hn₀).trans hBs
      clear hx
      gi_wp2
      refine hR.mono ?_
      rintro e W3 (⟨rfl, hJ3, hk3⟩ | ⟨rfl, hJx3⟩)
      · gi_wp2
        go_roundw
        case rel => exact ⟨k + 1, by omega, by simp, by rw [take_snoc' HX.out]; exact hJ3, hnx.trans hk3⟩
        case measure => simp [intOf]; omega
      · gi_wp2
        refine bodyPost_ret (results_none rfl _ _ _) rfl ?_
        exact ⟨⟨_, rfl⟩, .inr ⟨_, by have h := List.take_prefix (k + 1) (octs s); rwa [take_snoc' HX.out] at h, hJx3⟩⟩
    · obtain rfl : k = s.size := by omega
      gi_wp2
      go_end0
      exact ⟨⟨_, rfl⟩, .inl ⟨_, List.take_of_length_le (by rw [HO.out]; omega), hJs⟩⟩
theorem ranks_seq (Bs n₀ : Nat) (s : ByteArray) (hreach : s.size < 4294967281) (w : World) (hBs : Bs < w.heap.size) (hlt : Bs < n₀) (hc : w.cell? ⟨Bs, 0, none⟩ = some (.string s)) :
    SeqStopsK Fence.wide 8 Tryz.prog 248 #[.pointer (some ⟨Bs, 0, none⟩)] (fun x : Nat × UInt8 => #[.int .i64 x.1, .int .u8 x.2.toNat]) (Below n₀) (fun ys => ys = octs s) (fun pre => pre <+: octs s) (octs s).length w := fun l J Jx W hW _ _ hY h0 =>
  ranks1 l Bs n₀ s hreach J Jx hY W hlt ((hW.cell (p := ⟨Bs, 0, none⟩) hBs).trans hc) h0
set_option maxRecDepth 100000 in
set_option maxHeartbeats 2000000 in
theorem hll_Right_mid (b : Int) (s : ByteArray) (w : World) (hb1 : 3 ≤ b) (hb2 : b ≤ 8) (hs : (s.size : Int) = 2 ^ b.toNat) :
    Calls Tryz.prog 212 #[.agg #[.int .i64 b, .string s]] w fun e w' => e = .returned (.bool (regsOk b s)) ∧ Below w.heap.size w w' := by
  obtain ⟨W0, hW0, hX0, hB0, hs0⟩ := boxes1 w #[.int .i64 b, .string s] 26
  have c0 : W0.cell? ⟨w.heap.size, 0, none⟩ = some (.int .i64 b) := cCc hX0 0
  have c1 : W0.cell? ⟨w.heap.size, 1, none⟩ = some (.string s) := cCc hX0 1
  refine calls_marks Tryz.func212 rfl ?_
  simp only [Tryz.ntmps212, List.size_toArray, List.length_cons, List.length_nil, Nat.reduceAdd, Nat.reduceSub, Array.replicate_succ, Array.replicate_zero, List.push_toArray, List.append_toArray, List.nil_append, List.cons_append]
  have hib : ∀ w, Calls Tryz.prog 234 #[.int .i64 b] w fun e w' => e = .returned (.bool true) ∧ w' = w := fun w => (isBits_any b w).mono fun e w' ⟨h1, h2⟩ => ⟨by rw [h1]; simp [isBitsB, hb1, hb2], h2.symm⟩
  have hs256 : s.size ≤ 256 := by
    have h1 : (2 : Int) ^ b.toNat ≤ 2 ^ 8 := by
      have : (2 : Nat) ^ b.toNat ≤ 2 ^ 8 := Nat.pow_le_pow_right (by omega) (by omega)
      exact_mod_cast this
    omega
  have hw : IntKind.i64.wrap (2 ^ b.toNat) = (s.size : Int) := by rw [← hs]; exact IntWalk.i64_in _ (by omega)
  have t0 : ((s.size : Int) != (s.size : Int)) = false := by simp
  have HIB := Lib.hid hib
  clear hs hib
  go_wp2_with fail
  go_step3
  go_wp2_with fail
  go_quiet ((go_at_call 234; exact Calls.quiet_of_same (HIB.out _)))
  go_wp2_with fail
  go_step3
  have hBn : Below w.heap.size w (W0.drewN nq) := bDr hB0 nq
  obtain ⟨Wa, hWa, hXa, hBa, hsa⟩ := boxes1 (W0.drewN nq) #[.bool true] 4
  have hz : (W0.drewN nq).heap.size = w.heap.size + 1 := hs0
  rw [hz] at hXa hBa hsa
  have hXb : Wa.heap[w.heap.size]? = some (.cells #[.int .i64 b, .string s] 26 (0, 0)) := (hBa.block _ (by omega)).trans hX0
  have ca : Wa.cell? ⟨w.heap.size, 1, none⟩ = some (.string s) := cCc hXb 1
  obtain ⟨W1, hW1, hX2, hB1, hs1⟩ := boxes1 Wa #[.string s] 9
  rw [hsa] at hX2 hB1 hs1
  have hX3 := (hB1.block _ (by omega)).trans hXb
  have hX1 := (hB1.block _ (by omega)).trans hXa
  have hBw : Below w.heap.size w W1 := (hBn.trans (hBa.mono (by omega))).trans (hB1.mono (by omega))
  have HW := Lib.hid hW1
  have hsa' : w.heap.size + 1 + 1 ≤ Wa.heap.size := by omega
  rw [hWa]
  clear hW0 hX0 hs0 hW1 hWa hz hXa hXb
  go_wp2_with fail
  refine (ranks_any _ _).mono ?_
  rintro e w' ⟨rfl, rfl⟩
  rw [hsa, HW.out]
  clear hsa hsa' ca
  go_wp2_with fail
  have hcs : W1.cell? ⟨w.heap.size + 1 + 1, 0, none⟩ = some (.string s) := cCc hX2 0
  clear c0 c1 HW
  refine wp_range_set 5 (fun x : Nat × UInt8 => .int .u8 x.2.toNat) (gf := 248) (lb := #[.pointer (some ⟨w.heap.size + 1 + 1, 0, none⟩)]) rfl (enters_of Tryz.func248 (by kernel_rfl) rfl)
    (ranks_seq (w.heap.size + 1 + 1) W1.heap.size s (by omega) W1 (by omega) (by omega) hcs) (Nat.le_refl _) (Below.refl _ _) (fun _ => rfl)
    (fun pre W => Below W1.heap.size W1 W ∧ okRegs b pre = true)
    (fun c pre W => Boxed W (w.heap.size + 1) 4 (.bool false) ∧ (c = .exit 0 ∧ okRegs b pre = false) ∧ Below w.heap.size w W)
    ((ownFrom_below (Nat.le_refl _) (Nat.le_refl _)).and (ownFrom_pure _ _))
    (fun c => (ownBox _ _ _ _).and ((ownFrom_pure _ _).and (ownFrom_below (Nat.le_refl _) (by omega))))
    ⟨Below.refl _ _, rfl⟩ ?assign ?body ?done ?stop
  case assign =>
    rintro l pre x W K hI hK
    simp only [List.zip_toArray, List.zip_cons_cons, List.zip_nil_right, List.size_toArray, List.foldl_toArray', List.foldl_cons, List.foldl_nil, List.setIfInBounds_toArray, List.set_cons_succ, List.set_cons_zero] at hK ⊢
    gi_wp2
    exact hI
  case body =>
    rintro l pre x W ⟨hB, hg⟩ hlt
    simp only [List.zip_toArray, List.zip_cons_cons, List.zip_nil_right, List.size_toArray, List.foldl_toArray', List.foldl_cons, List.foldl_nil, List.setIfInBounds_toArray, List.set_cons_succ, List.set_cons_zero]
    have hXw := (hB.block _ (by omega)).trans hX3
    have hXv := (hB.block _ (by omega)).trans hX1
    have c0 : W.cell? ⟨w.heap.size, 0, none⟩ = some (.int .i64 b) := cCc hXw 0
    have c1 : W.cell? ⟨w.heap.size + 1, 0, none⟩ = some (.bool true) := cCc hXv 0
    have c2 : W.frozen? ⟨w.heap.size + 1, 0, none⟩ = false := cFz hXv 0
    have hb1' : Boxed W (w.heap.size + 1) 4 (.bool true) := hXv
    have hBB : Below w.heap.size w W := hBw.trans (hB.mono hBw.size)
    have HG := Lib.hid hg
    have hx := UInt8.toNat_lt x.2
    have hwx : wrap64 (x.2.toNat : Int) = (x.2.toNat : Int) := by unfold wrap64; omega
    clear hg hXw hXv hX1 hX2 hX3 hs1
    by_cases ht : 65 - b < (x.2.toNat : Int)
    · gi_wp2_with fail
      exact ⟨(KeepsOthers.setCell _ _ _).from _, hb1'.set _, ⟨rfl, by rw [okRegs_append, HG.out, okRegs_one, decide_eq_true ht]; rfl⟩, hBB.setCell (p := ⟨w.heap.size + 1, 0, none⟩) (Nat.le_succ _) _⟩
    · gi_wp2_with fail
      exact ⟨KeepsFrom.refl _ _, Below.refl _ _, hB, by rw [okRegs_append, HG.out, okRegs_one, decide_eq_false (by omega)]; rfl⟩
  case done =>
    rintro D W hD ⟨hB, hg⟩ hK
    have hXv := (hB.block _ (by omega)).trans hX1
    have c1 : W.cell? ⟨w.heap.size + 1, 0, none⟩ = some (.bool true) := cCc hXv 0
    have hBB : Below w.heap.size w W := hBw.trans (hB.mono hBw.size)
    have hDs : w.heap.size ≤ D := by omega
    clear hX1 hX2 hX3 hs1 hXv
    go_wp2_with fail
    refine marks_ret1 hK (results_tmp rfl _ _ _) ⟨by rw [← octs_all, hg]; rfl, bPutD hBB hDs hK⟩
  case stop =>
    rintro D c pre W hD hp ⟨hb1', ⟨rfl, hg⟩, hB⟩ hK
    have c3 := hb1'.cell
    have hDs : w.heap.size ≤ D := by omega
    clear hX1 hX2 hX3 hs1
    go_wp2_with fail
    have h9 : regsOk b s = false := by
      rw [← octs_all]
      obtain ⟨t, ht⟩ := hp
      rw [← ht, okRegs_append, hg]; rfl
    refine marks_ret1 hK (results_tmp rfl _ _ _) ⟨by rw [h9]; rfl, bPutD hB hDs hK⟩
set_option maxRecDepth 100000 in
set_option maxHeartbeats 2000000 in
theorem hll_Right_any (b : Int) (s : ByteArray) (w : World) :
    Calls Tryz.prog 212 #[.agg #[.int .i64 b, .string s]] w fun e w' => e = .returned (.bool (hlRight b s)) ∧ Below w.heap.size w w' := by
  cases hb : isBitsB b with
  | true =>
    have hr : 3 ≤ b ∧ b ≤ 8 := by simpa [isBitsB] using hb
    by_cases hs : (s.size : Int) = 2 ^ b.toNat
    · refine (hll_Right_mid b s w hr.1 hr.2 hs).mono ?_
      rintro e w' ⟨rfl, h⟩
      have h2 : ((s.size : Int) == 2 ^ b.toNat) = true := beq_iff_eq.2 hs
      exact ⟨by simp only [hlRight, hb, h2, Bool.true_and], h⟩
    · obtain ⟨W0, hW0, hX0, hB0, hs0⟩ := boxes1 w #[.int .i64 b, .string s] 26
      have c0 : W0.cell? ⟨w.heap.size, 0, none⟩ = some (.int .i64 b) := cCc hX0 0
      have c1 : W0.cell? ⟨w.heap.size, 1, none⟩ = some (.string s) := cCc hX0 1
      have hib : ∀ w, Calls Tryz.prog 234 #[.int .i64 b] w fun e w' => e = .returned (.bool true) ∧ w' = w := fun w => (isBits_any b w).mono fun e w' ⟨h1, h2⟩ => ⟨by rw [h1, hb], h2.symm⟩
      have HIB := Lib.hid hib
      have hp : (2 : Int) ^ b.toNat ≤ 256 := by
        have : (2 : Nat) ^ b.toNat ≤ 2 ^ 8 := Nat.pow_le_pow_right (by omega) (by omega)
        exact_mod_cast this
      have hp0 : (0 : Int) ≤ 2 ^ b.toNat := by
        have : (0 : Nat) ≤ 2 ^ b.toNat := Nat.zero_le _
        exact_mod_cast this
      generalize hq : (2 : Int) ^ b.toNat = q at hs hp hp0
      have hw : IntKind.i64.wrap (2 ^ b.toNat) = q := by rw [hq]; exact IntWalk.i64_in _ (by omega)
      have t0 : ((s.size : Int) != q) = true := by rw [bne_iff_ne]; exact hs
      have HR : Hid (hlRight b s = false) := by
        have h2 : ((s.size : Int) == 2 ^ b.toNat) = false := by rw [hq, beq_eq_false_iff_ne]; exact hs
        simp only [Hid, hlRight, h2, Bool.and_false, Bool.false_and]
      obtain ⟨hr1, hr2⟩ := hr
      clear hb hib hq hs hX0 hs0
      refine calls_marks Tryz.func212 rfl ?_
      simp only [Tryz.ntmps212, List.size_toArray, List.length_cons, List.length_nil, Nat.reduceAdd, Nat.reduceSub, Array.replicate_succ, Array.replicate_zero, List.push_toArray, List.append_toArray, List.nil_append, List.cons_append]
      go_wp2_with fail
      go_step3
      go_wp2_with fail
      go_quiet ((go_at_call 234; exact Calls.quiet_of_same (HIB.out _)))
      go_wp2_with fail
      exact marks_ret0 (results_tmp rfl _ _ _) rfl ⟨by rw [HR.out]; rfl, bDr hB0 _⟩
  | false =>
    obtain ⟨W0, hW0, hX0, hB0, hs0⟩ := boxes1 w #[.int .i64 b, .string s] 26
    have c0 : W0.cell? ⟨w.heap.size, 0, none⟩ = some (.int .i64 b) := cCc hX0 0
    have hib : ∀ w, Calls Tryz.prog 234 #[.int .i64 b] w fun e w' => e = .returned (.bool false) ∧ w' = w := fun w => (isBits_any b w).mono fun e w' ⟨h1, h2⟩ => ⟨by rw [h1, hb], h2.symm⟩
    have HIB := Lib.hid hib
    have HR : Hid (hlRight b s = false) := by simp only [Hid, hlRight, hb, Bool.false_and]
    clear hb hib hX0 hs0
    refine calls_marks Tryz.func212 rfl ?_
    simp only [Tryz.ntmps212, List.size_toArray, List.length_cons, List.length_nil, Nat.reduceAdd, Nat.reduceSub, Array.replicate_succ, Array.replicate_zero, List.push_toArray, List.append_toArray, List.nil_append, List.cons_append]
    go_wp2_with fail
    go_step3
    go_wp2_with fail
    go_quiet ((go_at_call 234; exact Calls.quiet_of_same (HIB.out _)))
    go_wp2_with fail
    exact marks_ret0 (results_tmp rfl _ _ _) rfl ⟨by rw [HR.out]; rfl, bDr hB0 _⟩
end Go.Proofs.YtpnlmfilmbodfaaGreatDoor
namespace Go.Proofs.YtpnlmfilmbodfaaGreatDoor
open Go Go.RowKit Go.Shelf
attribute [local go_sem] Oper.semAt_some
def KL (L : List Nat) (W W' : World) : Prop := ∀ b ∈ L, ∀ o, W.heap[b]? = some o → W'.heap[b]? = some o
theorem KL.trans {L : List Nat} {X Y Z : World} (h : KL L X Y) (k : KL L Y Z) : KL L X Z := fun b hb o ho => k b hb o (h b hb o ho)
theorem KL.refl (L : List Nat) (X : World) : KL L X X := fun _ _ _ h => h
theorem KL.below {L : List Nat} {n : Nat} {X Y : World} (h : Below n X Y) (hL : ∀ b ∈ L, b < n) : KL L X Y := fun b hb _ ho => (h.block b (hL b hb)).trans ho
theorem KL.grown {L : List Nat} {X Y : World} {row : Option Nat} (h : X.grownBy Y row) (hL : ∀ b ∈ L, some b ≠ row) : KL L X Y := fun b hb _ ho => (h.block b (Array.getElem?_eq_some_iff.1 ho).1 (hL b hb)).trans ho
theorem wp_range_kl {α : Type} {P : Program} {g : Operand} {ps : Array Tmp} {assign body : Code} {Q : Exit → Act → World → Prop} {a : Act} {w : World} (L : List Nat) (T : α → Array Value)
    {gf : Nat} {lb : Array Value} (hg : a.eval g = .func (.func gf) #[] lb) (eg : ∀ args w, (callFunc gf args).run P w = .ok (.enter gf args) w)
    {encs : α → Array Value} {xs : List α} {N : Nat} {w0 : World} (hseq : SeqStopsK Fence.wide 8 P gf lb encs (KL L) (fun ys => ys = xs) (fun pre => pre <+: xs) N w0)
    (hL : ∀ b ∈ L, b < w.heap.size) (hb0 : Below w0.heap.size w0 w) (hps : ∀ x, (encs x).size = ps.size)
    (I : List α → World → Prop) (Ix : Code → List α → World → Prop) (hI : OwnFrom w.heap.size I) (hIx : ∀ c, OwnFrom w.heap.size (Ix c)) (h0 : I [] w)
    (hassign : ∀ (l : Nat) (pre : List α) (x : α) (W : World) (K : Act → World → Prop), I pre W → (I pre W → K { tmps := T x, defers := [] } W) →
      assign.wpIn (Fence.wide.inRound l) 7 P (Exit.then K (fun _ _ _ => False)) { tmps := (ps.zip (encs x)).foldl (fun t (p, v) => t.setIfInBounds p v) a.tmps, defers := [] } W)
    (hbody : ∀ (l : Nat) (pre : List α) (x : α) (W : World), I pre W → pre.length < N → body.wpIn (Fence.wide.inRound l) 7 P (ownPostG w.heap.size (KL L) I Ix (pre ++ [x]) W) { tmps := T x, defers := [] } W)
    (hdone : ∀ (D : Nat) (W : World), w.heap.size ≤ D → I xs W → W.heap[D]? = some (.deferred (some [])) → Q .normal { a with defers := { target := .collected D, args := #[] } :: a.defers } W)
    (hstop : ∀ (D : Nat) (c : Code) (pre : List α) (W : World), w.heap.size ≤ D → pre <+: xs → Ix c pre W → W.heap[D]? = some (.deferred (some [])) → c.wp P Q { a with defers := { target := .collected D, args := #[] } :: a.defers } W) :
    (Code.rangeFunc g ps assign body).wp P Q a w :=
  (wpIn_wide (n := 9)).1 (wpIn_rangeFunc_ownH rfl (by omega) hg trivial eg hseq (fun h k => h.trans k)
    (fun W l o o' hl h _ _ b hb o2 h2 => (World.putObj_heap_other (by have := hL b hb; omega)).trans h2) hb0 hps I Ix hI hIx h0 (fun x a' _ => a' = { tmps := T x, defers := [] }) (fun _ _ => ownFrom_pure _ _)
    (fun l pre x W K hi hK => hassign l pre x W K hi (fun hi' => hK _ _ (KeepsFrom.refl _ _) (KL.refl _ _) hi' rfl))
    (fun l pre x a' W _ _ hi hax hlt => by subst hax; exact hbody l pre x W hi hlt) (fun D ys W hD e hi hK => by subst e; exact hdone D W hD hi hK) (fun D c pre W hD hp hi hK => wpIn_wide.2 (hstop D c pre W hD hp hi hK)))
theorem wp_range_all {α : Type} {P : Program} {g : Operand} {ps : Array Tmp} {assign body : Code} {Q : Exit → Act → World → Prop} {a : Act} {w : World} (L : List Nat) (T : α → Array Value)
    {gf : Nat} {lb : Array Value} (hg : a.eval g = .func (.func gf) #[] lb) (eg : ∀ args w, (callFunc gf args).run P w = .ok (.enter gf args) w)
    {encs : α → Array Value} {xs : List α} {N : Nat} {w0 : World} (hseq : SeqStopsK Fence.wide 8 P gf lb encs (KL L) (fun ys => ys = xs) (fun pre => pre <+: xs) N w0)
    (hL : ∀ b ∈ L, b < w.heap.size) (hb0 : Below w0.heap.size w0 w) (hps : ∀ x, (encs x).size = ps.size)
    (I : List α → World → Prop) (hI : OwnFrom w.heap.size I) (h0 : I [] w)
    (hassign : ∀ (l : Nat) (pre : List α) (x : α) (W : World) (K : Act → World → Prop), I pre W → (I pre W → K { tmps := T x, defers := [] } W) →
      assign.wpIn (Fence.wide.inRound l) 7 P (Exit.then K (fun _ _ _ => False)) { tmps := (ps.zip (encs x)).foldl (fun t (p, v) => t.setIfInBounds p v) a.tmps, defers := [] } W)
    (hbody : ∀ (l : Nat) (pre : List α) (x : α) (W : World), I pre W → pre.length < N → body.wpIn (Fence.wide.inRound l) 7 P (ownPostG w.heap.size (KL L) I (fun _ _ _ => False) (pre ++ [x]) W) { tmps := T x, defers := [] } W)
    (hdone : ∀ (D : Nat) (W : World), w.heap.size ≤ D → I xs W → W.heap[D]? = some (.deferred (some [])) → Q .normal { a with defers := { target := .collected D, args := #[] } :: a.defers } W) :
    (Code.rangeFunc g ps assign body).wp P Q a w :=
  wp_range_kl L T hg eg hseq hL hb0 hps I (fun _ _ _ => False) hI (fun _ _ _ _ _ h _ _ => h) h0 hassign hbody hdone (fun _ _ _ _ _ _ h _ => h.elim)
theorem SlE.kl {Bs b n₀ off len : Nat} {W W' : World} {l : List Int} (h : KL [Bs, b] W W') (hs : SlE encU 1 n₀ W (some ⟨b, off, none⟩) len l) : SlE encU 1 n₀ W' (some ⟨b, off, none⟩) len l := by
  refine ⟨hs.1, fun j x hx => ?_⟩
  obtain ⟨b', off', e, hb, hc⟩ := hs.2 j x hx
  cases e
  refine ⟨b, off, rfl, hb, fun i hi => ?_⟩
  obtain rfl : i = 0 := by omega
  have h1 : W.cell? ⟨b, off + j * 1 + 0, none⟩ = some (.int .u64 x) := hc 0 hi
  show W'.cell? ⟨b, off + j * 1 + 0, none⟩ = some (.int .u64 x)
  cases ho : W.heap[b]? with
  | none => simp [World.cell?, ho] at h1
  | some o => exact (World.cell?_of_block (w := W) (w' := W') (a := ⟨b, off + j * 1 + 0, none⟩) ((h b (by simp) o ho).trans ho.symm)).trans h1
set_option maxRecDepth 100000 in
set_option maxHeartbeats 1000000 in
theorem values1_kl {α : Type} (f : α → Int) (l Bs n₀ b off cap : Nat) (ls : List α) (hreach : ls.length < 4294967281) (J Jx : List α → World → Prop)
    (hY : ∀ pre x W, J pre W → pre.length < ls.length → YieldAt Fence.wide 7 Tryz.prog l #[.int .u64 (f x)] W fun e W' =>
      (e = .returned (.bool true) ∧ J (pre ++ [x]) W' ∧ KL [Bs, b] W W') ∨ (e = .returned (.bool false) ∧ Jx (pre ++ [x]) W'))
    (W : World) (hBs : W.heap[Bs]? = some (.cells #[.slice (some ⟨b, off, none⟩) ls.length cap] 22 (0, 0))) (hc : SlE encU 1 n₀ W (some ⟨b, off, none⟩) ls.length (ls.map f)) (h0 : J [] W) :
    CallsIn Fence.wide 8 Tryz.prog 300 #[.func (.yield l) #[] #[], .pointer (some ⟨Bs, 0, none⟩)] W fun e W' => (∃ v, e = .returned v) ∧
      ((∃ ys, ys = ls ∧ J ys W') ∨ (∃ pre, pre <+: ls ∧ Jx pre W')) := by
  refine callsIn_of_wp Tryz.func300 rfl trivial ?_ rfl
  simp only [Tryz.ntmps300, List.size_toArray, List.length_cons, List.length_nil, Nat.reduceAdd, Nat.reduceSub, Array.replicate_succ, Array.replicate_zero, List.push_toArray, List.append_toArray, List.nil_append, List.cons_append]
  have c9 : W.cell? ⟨Bs, 0, none⟩ = some (.slice (some ⟨b, off, none⟩) ls.length cap) := cCc hBs 0
  gi_wp2
  gi_loopw [7] (fun i wr => ∃ k : Nat, k ≤ ls.length ∧ i = .int .i64 k ∧ J (ls.take k) wr ∧ KL [Bs, b] W wr) (fun i _ => ls.length - (intOf i).toNat)
  case atStart => exact ⟨0, Nat.zero_le _, rfl, h0, KL.refl _ _⟩
  case round =>
    obtain ⟨k, hk, rfl, hJs, hnx⟩ := hrel
    by_cases hlt : k < ls.length
    · obtain ⟨x, hx⟩ : ∃ x, ls[k]? = some x := ⟨_, List.getElem?_eq_getElem hlt⟩
      obtain ⟨b9, off9, e9, hb, hc0⟩ := (SlE.kl hnx hc).2 k (f x) (by rw [List.getElem?_map, hx]; rfl)
      cases e9
      have c0 : wr.cell? ⟨b, off + k, none⟩ = some (.int .u64 (f x)) := by have h1 := hc0 0 (by omega); rwa [Nat.mul_one] at h1
      obtain ⟨fn, tmps, assign, body, hy, hR⟩ := hY _ x _ hJs (by simp; omega)
      clear hc0
      have HX := Lib.hid hx
      clear hx
      gi_wp2
      refine hR.mono ?_
      rintro e W3 (⟨rfl, hJ3, hk3⟩ | ⟨rfl, hJx3⟩)
      · gi_wp2
        go_roundw
        case rel => exact ⟨k + 1, by omega, by simp, by rw [List.take_add_one, HX.out]; exact hJ3, hnx.trans hk3⟩
        case measure => simp [intOf]; omega
      · gi_wp2
        refine bodyPost_ret (results_none rfl _ _ _) rfl ?_
        exact ⟨⟨_, rfl⟩, .inr ⟨_, by have h := List.take_prefix (k + 1) ls; rwa [List.take_add_one, HX.out] at h, hJx3⟩⟩
    · obtain rfl : k = ls.length := by omega
      gi_wp2
      go_end0
      exact ⟨⟨_, rfl⟩, .inl ⟨_, List.take_length, hJs⟩⟩
theorem values_kl {α : Type} (f : α → Int) (Bs b n₀ : Nat) (a : Option Addr) (len cap : Nat) (ls : List α) (hreach : len < 4294967281) (w : World) (hn₀ : n₀ ≤ w.heap.size)
    (hc : w.heap[Bs]? = some (.cells #[.slice a len cap] 22 (0, 0))) (hI : SlE encU 1 n₀ w a len (ls.map f)) (hab : 0 < len → ∀ x, a = some x → x.block = b) :
    SeqStopsK Fence.wide 8 Tryz.prog 300 #[.pointer (some ⟨Bs, 0, none⟩)] (fun x : α => #[.int .u64 (f x)]) (KL [Bs, b]) (fun ys => ys = ls) (fun pre => pre <+: ls) ls.length w := fun l J Jx W hW _ _ hY h0 => by
  have hc' := known hW (Nat.le_refl _) hc
  have hI' : SlE encU 1 n₀ W a len (ls.map f) := hI.below (hW.mono hn₀)
  have hll : len = ls.length := by have := hI'.1; rwa [List.length_map] at this
  rcases Nat.eq_zero_or_pos len with h | h
  · obtain rfl : ls = [] := List.eq_nil_of_length_eq_zero (by omega)
    rw [h] at hc'
    exact (values1_u64_nil l Bs a cap (fun _ => J []) W (cCc hc' 0) h0).mono fun e W' ⟨he, hj⟩ => ⟨he, .inl ⟨_, rfl, hj⟩⟩
  · obtain ⟨x, b', off, -, rfl, -, -⟩ := hI'.at h
    obtain rfl := hab h _ rfl
    rw [hll] at hc' hI'
    exact values1_kl f l Bs n₀ _ off cap ls (by omega) J Jx hY W hc' hI' h0
end Go.Proofs.YtpnlmfilmbodfaaGreatDoor

/- Package exact: gather. The law of a range over an iterator that goes on for ever: the body leaves it by its label. ladder.levels. -/
import Derived.Test.YtpnlmfilmbodfaaGreatDoorVA2
import Derived.Test.YtpnlmfilmbodfaaGreatDoorVA7
import Derived.Test.YtpnlmfilmbodfaaGreatDoorVA8
import Derived.Test.YtpnlmfilmbodfaaGreatDoorVB1
import Derived.Test.YtpnlmfilmbodfaaGreatDoorVCF
import Derived.Test.YtpnlmfilmbodfaaGreatDoorVCG
import Derived.Test.YtpnlmfilmbodfaaGreatDoorVF4
import Derived.Test.YtpnlmfilmbodfaaGreatDoorVF6
import Derived.Test.YtpnlmfilmbodfaaGreatDoorVF7
import Derived.Test.YtpnlmfilmbodfaaGreatDoorVF8
import Derived.Test.YtpnlmfilmbodfaaGreatDoorVG0
import Derived.Test.YtpnlmfilmbodfaaGreatDoorVGB
import Derived.Test.YtpnlmfilmbodfaaGreatDoorVGG
import Derived.Test.YtpnlmfilmbodfaaGreatDoorVGH
import Derived.Test.YtpnlmfilmbodfaaGreatDoorVH0
import Derived.Test.YtpnlmfilmbodfaaGreatDoorVH1
import Derived.Test.YtpnlmfilmbodfaaGreatDoorVHA
import Derived.Test.YtpnlmfilmbodfaaGreatDoorVHF
import Derived.Test.YtpnlmfilmbodfaaGreatDoorVJ1
import Derived.Test.YtpnlmfilmbodfaaGreatDoorVL0
import Derived.Test.YtpnlmfilmbodfaaGreatDoorVL2
import Derived.Test.YtpnlmfilmbodfaaGreatDoorVL3
import Derived.Test.YtpnlmfilmbodfaaGreatDoorVL5
import Derived.Test.YtpnlmfilmbodfaaGreatDoorVL7
import Derived.Test.YtpnlmfilmbodfaaGreatDoorVLI
import Derived.Test.YtpnlmfilmbodfaaGreatDoorVLR
import Derived.Test.YtpnlmfilmbodfaaGreatDoorVM1
import Derived.Test.YtpnlmfilmbodfaaGreatDoorVM2
import Derived.Test.YtpnlmfilmbodfaaGreatDoorVP1
import Derived.Test.YtpnlmfilmbodfaaGreatDoorVQA
import Derived.Test.YtpnlmfilmbodfaaGreatDoorVQB
import Derived.Test.YtpnlmfilmbodfaaGreatDoorVQD
import Derived.Test.YtpnlmfilmbodfaaGreatDoorVQH
import Derived.Test.YtpnlmfilmbodfaaGreatDoorVQK
import Derived.Test.YtpnlmfilmbodfaaGreatDoorVRKs
import Derived.Test.YtpnlmfilmbodfaaGreatDoorVS3
import Derived.Test.YtpnlmfilmbodfaaGreatDoorVS7
import Derived.Test.YtpnlmfilmbodfaaGreatDoorVShelf
import Derived.Test.YtpnlmfilmbodfaaGreatDoorVT7
import Derived.Test.YtpnlmfilmbodfaaGreatDoorVUS
import Derived.Test.YtpnlmfilmbodfaaGreatDoorVV1
import Derived.Test.YtpnlmfilmbodfaaGreatDoorVXA
import Derived.Test.YtpnlmfilmbodfaaGreatDoorVXE
import Derived.Test.YtpnlmfilmbodfaaGreatDoorVXI
import Derived.Test.YtpnlmfilmbodfaaGreatDoorVXK
import Derived.Test.YtpnlmfilmbodfaaGreatDoorProg
import Derived.BigRegion
import Derived.Laws.CopyRow
import Derived.Laws.CopyOwn
import Derived.Laws.Tables
import Derived.ArgAppend
import Derived.Shelf.SlSorted.Search
import Derived.ProofKit
import Derived.OpenShut
import Derived.Carry
import Derived.Deep.Slices
import Derived.Deep.Fields
import Derived.Deep.DeepHandedRow
import Derived.Lib.SmallJoins
import Derived.RangeFuncNested
import Derived.RangeFuncBound
import Derived.RangeFuncCalls
import Derived.RangeFuncLeaves
import Derived.Shelf.Abstract
import Derived.Shelf.RegionOpen
import Derived.OwnWalkIn
import Derived.TacticsInMore
import Derived.LoopNIn
import Derived.LoopIn
import Derived.Outline
import Derived.BigGuardIn
import Derived.WalkMore
import Derived.WalkKit
import Derived.LoopTactic
import Derived.WalkLawsBesides
import Derived.WalkSpells
import Derived.Lib.Hide
import Derived.Laws.RangeAny
import Derived.Lib.OthersKept
import Derived.Lib.Strings
import Derived.Deep.QuietTactic
import Derived.BigQuiet
import Derived.ScopeJumps
import Derived.Deep.RegionLaw
import Derived.Lib.SliceRun
import Derived.Laws.BitsAllLaws
import Derived.Lib.BitFns
import Derived.Lib.ItoaNum
namespace Go.Proofs.YtpnlmfilmbodfaaGreatDoor
open Go Go.RowKit Go.Shelf
attribute [local go_sem] Oper.semAt_some
theorem cell_own {X Y : World} {row : Option Nat} {p : Addr} {v : Value} (hc : X.cell? p = some v) (hg : X.grownBy Y row) (hr : ∀ r, row = some r → ∃ o : Obj, X.heap[r]? = some o ∧ o.isCells = false) : Y.cell? p = some v := by
  have hlt := World.block_lt_of_cell? X _ hc
  refine (World.cell?_of_block (hg.block _ hlt (fun e => ?_))).trans hc
  obtain ⟨o, ho, h2⟩ := hr _ e.symm
  unfold World.cell? at hc
  rw [ho] at hc
  cases o <;> simp_all [Obj.isCells]
attribute [-go_sem] Builtin.append_
end Go.Proofs.YtpnlmfilmbodfaaGreatDoor
namespace Go.Proofs.YtpnlmfilmbodfaaGreatDoor
open Go Go.RowKit Go.Shelf
attribute [local go_sem] Oper.semAt_some
def Counts (P : Program) (gf : Nat) (lb : Array Value) (enc : Nat → Value) (L : List Nat) (M : Nat) (w : World) : Prop :=
  ∀ (l : Nat) (J : Nat → World → Prop) (Jx : World → Prop) (W : World), Below w.heap.size w W → (∀ k W1, J k W1 → k < M) →
    (∀ k W1, J k W1 → YieldAt Fence.wide 7 P l #[enc k] W1 fun e W' => (e = .returned (.bool true) ∧ J (k + 1) W' ∧ KL L W1 W') ∨ (e = .returned (.bool false) ∧ Jx W')) →
    J 0 W → CallsIn Fence.wide 8 P gf (#[.func (.yield l) #[] #[]] ++ lb) W fun e W' => (∃ v, e = .returned v) ∧ Jx W'
theorem wp_range_count {P : Program} {g : Operand} {ps : Array Tmp} {assign body : Code} {Q : Exit → Act → World → Prop} {a : Act} {w : World} {id : Nat} (L : List Nat) (T : Nat → Array Value)
    {gf : Nat} {lb : Array Value} (hg : a.eval g = .func (.func gf) #[] lb) (eg : ∀ args w, (callFunc gf args).run P w = .ok (.enter gf args) w)
    {enc : Nat → Value} {M : Nat} (hseq : Counts P gf lb enc L M w) (hL : ∀ b ∈ L, b < w.heap.size) (hps : ps.size = 1)
    (I : Nat → World → Prop) (Ib : World → Prop) (hI : OwnFrom w.heap.size I) (hIb : OwnFrom w.heap.size (fun (_ : Unit) W => Ib W)) (hM : ∀ k W, I k W → k < M) (h0 : I 0 w)
    (hassign : ∀ (l k : Nat) (W : World) (K : Act → World → Prop), I k W → K { tmps := T k, defers := [] } W →
      assign.wpIn (Fence.wide.inRound l) 7 P (Exit.then K (fun _ _ _ => False)) { tmps := (ps.zip #[enc k]).foldl (fun t (p, v) => t.setIfInBounds p v) a.tmps, defers := [] } W)
    (hbody : ∀ (l k : Nat) (W : World), I k W → body.wpIn (Fence.wide.inRound l) 7 P (ownPostG w.heap.size (KL L) (fun (_ : List Unit) => I (k + 1)) (fun c (_ : List Unit) W => c = .exit id ∧ Ib W) [] W) { tmps := T k, defers := [] } W)
    (hfin : ∀ (D : Nat) (W : World), w.heap.size ≤ D → Ib W → W.heap[D]? = some (.deferred (some [])) → Q .normal { a with defers := { target := .collected D, args := #[] } :: a.defers } W) :
    (Code.rangeFunc g ps assign body).wp P (Exit.inBlock id Q) a w := by
  refine (wpIn_wide (n := 9)).1 (wpIn_rangeFunc fun fn hfn => ?_)
  obtain ⟨rc, hrc⟩ : ∃ rc : LoopState → Option Code → Loop, rc = fun st pe => { state := st, pending := pe, fn, tmps := a.tmps, params := ps, assign, body, defers := w.heap.size } := ⟨_, rfl⟩
  obtain ⟨V0, hV0, hd0, hB0, hz0⟩ : ∃ V0, w.alloc (.deferred (some [])) = V0 ∧ V0.heap[w.heap.size]? = some (.deferred (some [])) ∧ Below w.heap.size w V0 ∧ V0.heap.size = w.heap.size + 1 := ⟨_, rfl, World.alloc_heap_new _ _, (Below.refl _ w).alloc (Nat.le_refl _) _, by simp⟩
  obtain ⟨V1, hV1, hl1, hB1, hz1⟩ : ∃ V1, V0.alloc (.loop (rc .ready none)) = V1 ∧ V1.heap[w.heap.size + 1]? = some (.loop (rc .ready none)) ∧ Below V0.heap.size V0 V1 ∧ V1.heap.size = w.heap.size + 2 := ⟨_, rfl, by rw [← hz0]; exact World.alloc_heap_new _ _, (Below.refl _ V0).alloc (Nat.le_refl _) _, by simp [hz0]⟩
  have hd1 : V1.heap[w.heap.size]? = some (.deferred (some [])) := (hB1.block _ (by omega)).trans hd0
  have hi1 : I 0 V1 := by rw [← hV1, ← hV0]; exact hI.alloc _ (hI.alloc _ h0)
  have hb1 : Below w.heap.size w V1 := hB0.trans (hB1.mono (by omega))
  refine ⟨w.heap.size + 1, [{ target := .collected w.heap.size, args := #[] }], V1, { target := .fn (.func gf) lb, args := #[.func (.yield (w.heap.size + 1)) #[] #[]] }, V1, gf, #[.func (.yield (w.heap.size + 1)) #[] #[]] ++ lb, V1, ?_, ?_, fun f' hf' => trivial, ?_, (fun _ => by decide), ?_⟩
  · rw [← hV1, ← hV0, hrc]; exact run_enterLoop_outer _ _ _ _ _
  · simp only [resolve, hg]
    simp [go_sem]
  · simp [invoke, go_sem, eg]
  refine (hseq (w.heap.size + 1) (fun k W => I k W ∧ W.heap[w.heap.size + 1]? = some (.loop (rc .ready none)) ∧ W.heap[w.heap.size]? = some (.deferred (some [])))
    (fun W => Ib W ∧ W.heap[w.heap.size + 1]? = some (.loop (rc .done (some (.exit id)))) ∧ W.heap[w.heap.size]? = some (.deferred (some []))) V1 hb1 (fun k W1 h => hM k W1 h.1) ?_ ⟨hi1, hl1, hd1⟩).mono ?_
  · rintro k W ⟨hi, hl, hk⟩
    have hlt := (Array.getElem?_eq_some_iff.1 hl).1
    have hy := run_yield (P := P) (args := #[enc k]) hl (by rw [hrc]; exact hps.symm)
    rw [hrc] at hy
    refine ⟨fn, _, assign, body, hy, roundIn_of_wpIn hfn (hassign _ k W _ hi ?_)⟩
    obtain ⟨W2, hW2⟩ : ∃ W2, W.putObj (w.heap.size + 1) (.loop { rc .ready none with state := .busy }) = W2 := ⟨_, rfl⟩
    have hl2 : W2.heap[w.heap.size + 1]? = some (.loop { rc .ready none with state := .busy }) := by rw [← hW2]; exact World.putObj_heap_same hlt
    have hk2 : W2.heap[w.heap.size]? = some (.deferred (some [])) := by rw [← hW2]; exact (World.putObj_heap_other (by omega)).trans hk
    have hi2 : I k W2 := by rw [← hW2]; exact hI.putObj _ hi (by omega) hl rfl
    have hp2 : KL L W W2 := by rw [← hW2]; exact fun b hb o ho => (World.putObj_heap_other (by have := hL b hb; omega)).trans ho
    refine ⟨W2, by rw [← hW2]; exact run_beginRound hl (by rw [hrc]), wpIn_mono (hbody _ k W2 hi2) ?_⟩
    have ends : ∀ (jump : Option Code) (W3 : World), KeepsFrom w.heap.size W2 W3 → (Instr.endRound (w.heap.size + 1) jump).run P W3 = .ok (.bool jump.isNone) (W3.putObj (w.heap.size + 1) (.loop (rc (if jump.isNone then .ready else .done) jump))) ∧
        W3.heap[w.heap.size + 1]? = some (.loop { rc .ready none with state := .busy }) ∧ W3.heap[w.heap.size]? = some (.deferred (some [])) := fun jump W3 h3 => by
      have hl3 := h3.same _ _ (by omega) hl2 rfl
      have h := run_endRound (P := P) jump hl3
      rw [hrc] at h hl3 ⊢
      exact ⟨h, hl3, h3.same _ _ (Nat.le_refl _) hk2 rfl⟩
    rintro e a3 W3 hp
    cases e with
    | normal =>
      obtain ⟨h3, hp3, hi3⟩ := hp
      obtain ⟨hr, hl3, hk3⟩ := ends none W3 h3
      have hz3 := (Array.getElem?_eq_some_iff.1 hl3).1
      exact ⟨_, _, hr, .inl ⟨rfl, ⟨hI.putObj _ hi3 (by omega) hl3 rfl, World.putObj_heap_same hz3, (World.putObj_heap_other (by omega)).trans hk3⟩, (hp2.trans hp3).trans fun b hb o ho => (World.putObj_heap_other (by have := hL b hb; omega)).trans ho⟩⟩
    | exit i =>
      obtain ⟨h3, he, hi3⟩ := hp
      obtain rfl : i = id := by simpa using he
      obtain ⟨hr, hl3, hk3⟩ := ends (some (.exit i)) W3 h3
      have hz3 := (Array.getElem?_eq_some_iff.1 hl3).1
      exact ⟨_, _, hr, .inr ⟨rfl, hIb.putObj (s := ()) _ hi3 (by omega) hl3 rfl, World.putObj_heap_same hz3, (World.putObj_heap_other (by omega)).trans hk3⟩⟩
    | ret => obtain ⟨_, he, _⟩ := hp; cases he
    | goto t => obtain ⟨_, he, _⟩ := hp; cases he
    | panic ch => exact hp.elim
    | outgrown => exact hp.elim
  · rintro e W2 ⟨⟨v, rfl⟩, hi, hl, hk⟩
    refine ⟨some (.exit id), _, by have h := run_endLoop (P := P) hl (by rw [hrc]; simp); rw [hrc] at h; exact h, ?_⟩
    refine wpIn_wide.2 (wp_exit ?_)
    show (if id = id then Q .normal _ _ else Q (.exit id) _ _)
    rw [if_pos rfl]
    exact hfin _ _ (Nat.le_refl _) (hIb.putObj (s := ()) _ hi (by omega) hl rfl) ((World.putObj_heap_other (by omega)).trans hk)
theorem levels_any (n : Int) (w : World) :
    Calls Tryz.prog 139 #[.int .i64 n] w fun e w' => e = .returned (.func (.func 187) #[] #[.pointer (some ⟨w.heap.size, 0, none⟩)]) ∧ w' = w.alloc (.cells #[.int .i64 n] 3) := by
  go_enter Tryz.func139, Tryz.ntmps139
  go_wp2
  go_ret
  exact ⟨rfl, rfl⟩
set_option maxRecDepth 100000 in
set_option maxHeartbeats 1000000 in
theorem levels_counts (Bs n M : Nat) (w : World) (hB : w.heap[Bs]? = some (.cells #[.int .i64 n] 3 (0, 0))) (hn : n + M ≤ 1000) :
    Counts Tryz.prog 187 #[.pointer (some ⟨Bs, 0, none⟩)] (fun k => .int .i64 ((n : Int) + (k : Int))) [] M w := by
  intro l J Jx W hW hM hY h0
  refine callsIn_of_wp Tryz.func187 rfl trivial ?_ rfl
  simp only [Tryz.ntmps187, List.size_toArray, List.length_cons, List.length_nil, Nat.reduceAdd, Nat.reduceSub, Array.replicate_succ, Array.replicate_zero, List.push_toArray, List.append_toArray, List.nil_append, List.cons_append]
  have c9 : W.cell? ⟨Bs, 0, none⟩ = some (.int .i64 n) := cCc (known hW (Nat.le_refl _) hB) 0
  gi_wp2
  gi_loopw [3] (fun i wr => ∃ k : Nat, i = .int .i64 ((n : Int) + (k : Int)) ∧ J k wr) (fun i _ => M + n - (intOf i).toNat)
  case atStart => exact ⟨0, rfl, h0⟩
  case round =>
    obtain ⟨k, rfl, hJ⟩ := hrel
    have hk := hM k _ hJ
    have hk1 : (n : Int) + (k : Int) + 1 ≤ 1000 := by omega
    obtain ⟨fn, tmps, assign, body, hy, hR⟩ := hY k _ hJ
    gi_wp2
    refine hR.mono ?_
    rintro e W3 (⟨rfl, hJ3, -⟩ | ⟨rfl, hJx⟩)
    · have hw : IntKind.i64.wrap ((n : Int) + (k : Int) + 1) = (n : Int) + ((k : Int) + 1) := by rw [IntWalk.i64_in _ (by omega)]; omega
      have hw2 : wrap64 ((n : Int) + (k : Int) + 1) = (n : Int) + ((k : Int) + 1) := by unfold wrap64; omega
      gi_wp2
      go_roundw
      case rel => exact ⟨k + 1, by simp, hJ3⟩
      case measure => simp [intOf]; omega
    · gi_wp2
      go_end0
      exact ⟨⟨_, rfl⟩, hJx⟩
end Go.Proofs.YtpnlmfilmbodfaaGreatDoor

/- The law of a range over a function, for an iterator that reads some blocks; slices.Values at uint64 by it. -/
import Derived.Test.YtmkefodaibmkhaaGreatDoorZED
import Derived.Test.YtmkefodaibmkhaaGreatDoorZG0
namespace Go.Proofs.YtmkefodaibmkhaaGreatDoor
open Go Go.RowKit Go.Shelf
attribute [local go_sem] Oper.semAt_some

/-- Some blocks are as they were. -/
def KL (L : List Nat) (W W' : World) : Prop := ∀ b ∈ L, ∀ o, W.heap[b]? = some o → W'.heap[b]? = some o
theorem KL.trans {L : List Nat} {X Y Z : World} (h : KL L X Y) (k : KL L Y Z) : KL L X Z := fun b hb o ho => k b hb o (h b hb o ho)
theorem KL.refl (L : List Nat) (X : World) : KL L X X := fun _ _ _ h => h
theorem KL.below {L : List Nat} {n : Nat} {X Y : World} (h : Below n X Y) (hL : ∀ b ∈ L, b < n) : KL L X Y := fun b hb _ ho => (h.block b (hL b hb)).trans ho
theorem KL.grown {L : List Nat} {X Y : World} {row : Option Nat} (h : X.grownBy Y row) (hL : ∀ b ∈ L, some b ≠ row) : KL L X Y := fun b hb _ ho => (h.block b (Array.getElem?_eq_some_iff.1 ho).1 (hL b hb)).trans ho
theorem KL.sub {L M : List Nat} {X Y : World} (h : KL M X Y) (hs : ∀ b ∈ L, b ∈ M) : KL L X Y := fun b hb => h b (hs b hb)
/-- The loop's variables are slots of the frame. -/
theorem wp_range_kl {α : Type} {P : Program} {g : Operand} {ps : Array Tmp} {assign body : Code} {Q : Exit → Act → World → Prop} {a : Act} {w : World} (L : List Nat) (T : α → Array Value)
    {gf : Nat} {lb : Array Value} (hg : a.eval g = .func (.func gf) #[] lb) (eg : ∀ args w, (callFunc gf args).run P w = .ok (.enter gf args) w)
    {encs : α → Array Value} {xs : List α} {N : Nat} {w0 : World} (hseq : SeqStopsK Fence.wide 8 P gf lb encs (KL L) (fun ys => ys = xs) (fun pre => pre <+: xs) N w0)
    (hL : ∀ b ∈ L, b < w.heap.size) (hb0 : Below w0.heap.size w0 w) (hps : ∀ x, (encs x).size = ps.size)
    (I : List α → World → Prop) (Ix : Code → List α → World → Prop) (hI : OwnFrom w.heap.size I) (hIx : ∀ c, OwnFrom w.heap.size (Ix c)) (h0 : I [] w)
    (hassign : ∀ (l : Nat) (pre : List α) (x : α) (W : World) (K : Act → World → Prop), I pre W → (I pre W → K { tmps := T x, defers := [] } W) →
      assign.wpIn (Fence.wide.inRound l) 7 P (Exit.then K (fun _ _ _ => False)) { tmps := (ps.zip (encs x)).foldl (fun t (p, v) => t.setIfInBounds p v) a.tmps, defers := [] } W)
    (hbody : ∀ (l : Nat) (pre : List α) (x : α) (W : World), I pre W → pre.length < N → body.wpIn (Fence.wide.inRound l) 7 P (ownPostG w.heap.size (KL L) I Ix (pre ++ [x]) W) { tmps := T x, defers := [] } W)
    (hdone : ∀ (D : Nat) (W : World), w.heap.size ≤ D → I xs W → W.heap[D]? = some (.deferred (some [])) → Q .normal { a with defers := { target := .collected D, args := #[] } :: a.defers } W)
    (hstop : ∀ (D : Nat) (c : Code) (pre : List α) (W : World), w.heap.size ≤ D → pre <+: xs → Ix c pre W → W.heap[D]? = some (.deferred (some [])) → c.wp P Q { a with defers := { target := .collected D, args := #[] } :: a.defers } W) :
    (Code.rangeFunc g ps assign body).wp P Q a w :=
  (wpIn_wide (n := 9)).1 (wpIn_rangeFunc_ownH rfl (by omega) hg trivial eg hseq (fun h k => h.trans k)
    (fun W l o o' hl h _ _ b hb o2 h2 => (World.putObj_heap_other (by have := hL b hb; omega)).trans h2) hb0 hps I Ix hI hIx h0 (fun x a' _ => a' = { tmps := T x, defers := [] }) (fun _ _ => ownFrom_pure _ _)
    (fun l pre x W K hi hK => hassign l pre x W K hi (fun hi' => hK _ _ (KeepsFrom.refl _ _) (KL.refl _ _) hi' rfl))
    (fun l pre x a' W _ _ hi hax hlt => by subst hax; exact hbody l pre x W hi hlt) (fun D ys W hD e hi hK => by subst e; exact hdone D W hD hi hK) (fun D c pre W hD hp hi hK => wpIn_wide.2 (hstop D c pre W hD hp hi hK)))
/-- A loop that is not left but by its end. -/
theorem wp_range_all {α : Type} {P : Program} {g : Operand} {ps : Array Tmp} {assign body : Code} {Q : Exit → Act → World → Prop} {a : Act} {w : World} (L : List Nat) (T : α → Array Value)
    {gf : Nat} {lb : Array Value} (hg : a.eval g = .func (.func gf) #[] lb) (eg : ∀ args w, (callFunc gf args).run P w = .ok (.enter gf args) w)
    {encs : α → Array Value} {xs : List α} {N : Nat} {w0 : World} (hseq : SeqStopsK Fence.wide 8 P gf lb encs (KL L) (fun ys => ys = xs) (fun pre => pre <+: xs) N w0)
    (hL : ∀ b ∈ L, b < w.heap.size) (hb0 : Below w0.heap.size w0 w) (hps : ∀ x, (encs x).size = ps.size)
    (I : List α → World → Prop) (hI : OwnFrom w.heap.size I) (h0 : I [] w)
    (hassign : ∀ (l : Nat) (pre : List α) (x : α) (W : World) (K : Act → World → Prop), I pre W → (I pre W → K { tmps := T x, defers := [] } W) →
      assign.wpIn (Fence.wide.inRound l) 7 P (Exit.then K (fun _ _ _ => False)) { tmps := (ps.zip (encs x)).foldl (fun t (p, v) => t.setIfInBounds p v) a.tmps, defers := [] } W)
    (hbody : ∀ (l : Nat) (pre : List α) (x : α) (W : World), I pre W → pre.length < N → body.wpIn (Fence.wide.inRound l) 7 P (ownPostG w.heap.size (KL L) I (fun _ _ _ => False) (pre ++ [x]) W) { tmps := T x, defers := [] } W)
    (hdone : ∀ (D : Nat) (W : World), w.heap.size ≤ D → I xs W → W.heap[D]? = some (.deferred (some [])) → Q .normal { a with defers := { target := .collected D, args := #[] } :: a.defers } W) :
    (Code.rangeFunc g ps assign body).wp P Q a w :=
  wp_range_kl L T hg eg hseq hL hb0 hps I (fun _ _ _ => False) hI (fun _ _ _ _ _ h _ _ => h) h0 hassign hbody hdone (fun _ _ _ _ _ _ h _ => h.elim)

/-- Numbers in one block, or none. -/
theorem SlE.kl {Bs b n₀ off len : Nat} {W W' : World} {l : List Int} (h : KL [Bs, b] W W') (hs : SlE encU 1 n₀ W (some ⟨b, off, none⟩) len l) : SlE encU 1 n₀ W' (some ⟨b, off, none⟩) len l := by
  refine ⟨hs.1, fun j x hx => ?_⟩
  obtain ⟨b', off', e, hb, hc⟩ := hs.2 j x hx
  cases e
  refine ⟨b, off, rfl, hb, fun i hi => ?_⟩
  obtain rfl : i = 0 := by omega
  have h1 : W.cell? ⟨b, off + j * 1 + 0, none⟩ = some (.int .u64 x) := hc 0 hi
  show W'.cell? ⟨b, off + j * 1 + 0, none⟩ = some (.int .u64 x)
  cases ho : W.heap[b]? with
  | none => simp [World.cell?, ho] at h1
  | some o => exact (World.cell?_of_block (w := W) (w' := W') (a := ⟨b, off + j * 1 + 0, none⟩) ((h b (by simp) o ho).trans ho.symm)).trans h1
set_option maxRecDepth 100000 in
set_option maxHeartbeats 1000000 in
theorem values1_kl {α : Type} (f : α → Int) (l Bs n₀ b off cap : Nat) (ls : List α) (hreach : ls.length < 4294967281) (J Jx : List α → World → Prop)
    (hY : ∀ pre x W, J pre W → pre.length < ls.length → YieldAt Fence.wide 7 Tryz.prog l #[.int .u64 (f x)] W fun e W' =>
      (e = .returned (.bool true) ∧ J (pre ++ [x]) W' ∧ KL [Bs, b] W W') ∨ (e = .returned (.bool false) ∧ Jx (pre ++ [x]) W'))
    (W : World) (hBs : W.heap[Bs]? = some (.cells #[.slice (some ⟨b, off, none⟩) ls.length cap] 25 (0, 0))) (hc : SlE encU 1 n₀ W (some ⟨b, off, none⟩) ls.length (ls.map f)) (h0 : J [] W) :
    CallsIn Fence.wide 8 Tryz.prog 190 #[.func (.yield l) #[] #[], .pointer (some ⟨Bs, 0, none⟩)] W fun e W' => (∃ v, e = .returned v) ∧
      ((∃ ys, ys = ls ∧ J ys W') ∨ (∃ pre, pre <+: ls ∧ Jx pre W')) := by
  refine callsIn_of_wp Tryz.func190 rfl trivial ?_ rfl
  simp only [Tryz.ntmps190, List.size_toArray, List.length_cons, List.length_nil, Nat.reduceAdd, Nat.reduceSub, Array.replicate_succ, Array.replicate_zero, List.push_toArray, List.append_toArray, List.nil_append, List.cons_append]
  have c9 : W.cell? ⟨Bs, 0, none⟩ = some (.slice (some ⟨b, off, none⟩) ls.length cap) := cell_of_cells hBs 0
  gi_wp2
  gi_loopw [7] (fun i wr => ∃ k : Nat, k ≤ ls.length ∧ i = .int .i64 k ∧ J (ls.take k) wr ∧ KL [Bs, b] W wr) (fun i _ => ls.length - (intOf i).toNat)
  case atStart => exact ⟨0, Nat.zero_le _, rfl, h0, KL.refl _ _⟩
  case round =>
    obtain ⟨k, hk, rfl, hJs, hnx⟩ := hrel
    by_cases hlt : k < ls.length
    · obtain ⟨x, hx⟩ : ∃ x, ls[k]? = some x := ⟨_, List.getElem?_eq_getElem hlt⟩
      obtain ⟨b9, off9, e9, hb, hc0⟩ := (SlE.kl hnx hc).2 k (f x) (by rw [List.getElem?_map, hx]; rfl)
      cases e9
      have c0 : wr.cell? ⟨b, off + k, none⟩ = some (.int .u64 (f x)) := by have h1 := hc0 0 (by omega); rwa [Nat.mul_one] at h1
      obtain ⟨fn, tmps, assign, body, hy, hR⟩ := hY _ x _ hJs (by simp; omega)
      clear hc0
      have HX := Lib.hid hx
      clear hx
      gi_wp2
      refine hR.mono ?_
      rintro e W3 (⟨rfl, hJ3, hk3⟩ | ⟨rfl, hJx3⟩)
      · gi_wp2
        go_roundw
        case rel => exact ⟨k + 1, by omega, by simp, by rw [List.take_add_one, HX.out]; exact hJ3, hnx.trans hk3⟩
        case measure => simp [intOf]; omega
      · gi_wp2
        refine bodyPost_ret (results_none rfl _ _ _) rfl ?_
        exact ⟨⟨_, rfl⟩, .inr ⟨_, by have h := List.take_prefix (k + 1) ls; rwa [List.take_add_one, HX.out] at h, hJx3⟩⟩
    · obtain rfl : k = ls.length := by omega
      gi_wp2
      go_end0
      exact ⟨⟨_, rfl⟩, .inl ⟨_, List.take_length, hJs⟩⟩
/-- slices.Values at numbers whose block, and whose box, is kept. -/
theorem values_kl {α : Type} (f : α → Int) (Bs b n₀ : Nat) (a : Option Addr) (len cap : Nat) (ls : List α) (hreach : len < 4294967281) (w : World) (hn₀ : n₀ ≤ w.heap.size)
    (hc : w.heap[Bs]? = some (.cells #[.slice a len cap] 25 (0, 0))) (hI : SlE encU 1 n₀ w a len (ls.map f)) (hab : 0 < len → ∀ x, a = some x → x.block = b) :
    SeqStopsK Fence.wide 8 Tryz.prog 190 #[.pointer (some ⟨Bs, 0, none⟩)] (fun x : α => #[.int .u64 (f x)]) (KL [Bs, b]) (fun ys => ys = ls) (fun pre => pre <+: ls) ls.length w := fun l J Jx W hW _ _ hY h0 => by
  have hc' := known hW (Nat.le_refl _) hc
  have hI' : SlE encU 1 n₀ W a len (ls.map f) := hI.below (hW.mono hn₀)
  have hll : len = ls.length := by have := hI'.1; rwa [List.length_map] at this
  rcases Nat.eq_zero_or_pos len with h | h
  · obtain rfl : ls = [] := List.eq_nil_of_length_eq_zero (by omega)
    rw [h] at hc'
    exact (values1_u64_nil l Bs a cap (fun _ => J []) W (cell_of_cells hc' 0) h0).mono fun e W' ⟨he, hj⟩ => ⟨he, .inl ⟨_, rfl, hj⟩⟩
  · obtain ⟨x, b', off, -, rfl, -, -⟩ := hI'.at h
    obtain rfl := hab h _ rfl
    rw [hll] at hc' hI'
    exact values1_kl f l Bs n₀ _ off cap ls (by omega) J Jx hY W hc' hI' h0
end Go.Proofs.YtmkefodaibmkhaaGreatDoor

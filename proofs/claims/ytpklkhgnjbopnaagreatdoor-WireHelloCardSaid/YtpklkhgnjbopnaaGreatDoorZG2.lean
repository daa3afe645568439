/- Package frame: read at any bytes. A range over a function whose iterator keeps a variable of its own in a box (strings.SplitSeq): the kit's law of such a range, turned to that case. A range over a function whose iterator keeps a variable of its own and makes what it tells as it goes (frame.each): A2's law, the next thing told by what is known of it. Of no program. Package frame: each. Package frame: All, Read. Printed by gen_wu.py. Package wire: the wire in memory; New, Open, close. Printed by gen_wq.py. Package wire: answer to an ask of nobody. strings.Clone of the shelf, laid at this program by hand. Package grant: Right, New, the library's IndexFunc, ContainsFunc; May. -/
import Derived.Shelf.Pu.Clone
import Derived.Test.YtpklkhgnjbopnaaGreatDoorZWn
namespace Go.Proofs.YtpklkhgnjbopnaaGreatDoor
open Go Go.RowKit Go.Shelf
theorem rdF_len {s b r : List UInt8} (h : rdF s = .got b r) : r.length < s.length := by
 cases s with
 | nil => cases h
 | cons m t =>
  unfold rdF at h
  dsimp only at h
  split at h
  ·cases h
  ·split at h
   ·cases h
   ·cases h
   ·rename_i n r0 hg
    have h3 := (getN_got hg).2
    repeat (split at h; · cases h)
    cases h
    rw [List.length_drop, List.length_cons]
    omega
def ReadP (s : ByteArray) (w : World) (e : Ending) (w' : World) : Prop := Below w.heap.size w w' ∧ match rdF s.data.toList with
 | .got b r => e = .returned (.tuple #[.string ⟨b.toArray⟩, .string ⟨r.toArray⟩, .nilIface])
 | .err no => ∃ v, e = .returned (.tuple #[.string ⟨#[]⟩, .string s, v]) ∧ Fr.FaultAt w' v no
theorem ReadP.err {s : ByteArray} {w : World} {no : Int} (h : rdF s.data.toList = .err no) {e : Ending} {w' : World} (hp : ∃ v, e = .returned (.tuple #[.string ⟨#[]⟩, .string s, v]) ∧ Fr.FaultAt w' v no ∧ Below w.heap.size w w') : ReadP s w e w' := by
 obtain ⟨v, h1, h2, h3⟩ := hp
 refine ⟨h3, ?_⟩
 rw [h]
 exact ⟨v, h1, h2⟩
theorem frRead_any (s : ByteArray) (fm ff : Addr) (w : World) (hz : s.size < 4294967281) (hE : GF fm ff w) : Calls Tryz.prog 69 #[.string s] w (ReadP s w) := by
 by_cases h0 : s.size = 0
 ·have e : s.data.toList = [] := List.eq_nil_of_length_eq_zero (by rw [Array.length_toList]; exact h0)
  exact (read_empty s h0 w).mono fun _ _ h => ReadP.err (by rw [e]; rfl) h
 ·have hlt : 0 < s.size := by omega
  have e := head_tail s _ _ hlt rfl rfl
  have hz' : (s.extract 1 s.size).size < 4294967281 := by rw [ByteArray.size_extract]; omega
  by_cases hf : s[0]'hlt = 167
  ·cases hg : getN (s.extract 1 s.size).data.toList with
   | more => exact (read_more s _ fm ff hlt hf rfl hz' hg w hE).mono fun _ _ h => ReadP.err (by rw [e]; unfold rdF; dsimp only; rw [if_neg (fun h => h hf), hg]) h
   | bad => exact (read_bad s _ fm ff hlt hf rfl hz' hg w hE).mono fun _ _ h => ReadP.err (by rw [e]; unfold rdF; dsimp only; rw [if_neg (fun h => h hf), hg]) h
   | got n r =>
    have hu := (getN_got hg).1
    have hr : r.length < 4294967281 := by
     have h1 := (getN_got hg).2
     have h2 : (s.extract 1 s.size).data.toList.length = (s.extract 1 s.size).size := Array.length_toList
     omega
    have e2 : rdF s.data.toList = if n = 0 ∨ 2000 < n then .err 30 else if (r.length : Int) < n + 4 then .err 20 else
      if checkN (r.take n.toNat) ≠ fourN ((r.drop n.toNat).take 4) then .err 31 else .got (r.take n.toNat) (r.drop (n.toNat + 4)) := by
     rw [e]; unfold rdF; dsimp only; rw [if_neg (fun h => h hf), hg]
    have hu0 := hu.1
    by_cases h1 : n = 0
    ·exact (read_none s _ fm ff n r hlt hf rfl hz' hg hu h1 w hE).mono fun _ _ h => ReadP.err (by rw [e2, if_pos (Or.inl h1)]) h
    ·by_cases h2 : 2000 < n
     ·exact (read_long s _ fm ff n r hlt hf rfl hz' hg hu h2 w hE).mono fun _ _ h => ReadP.err (by rw [e2, if_pos (Or.inr h2)]) h
     ·have h3 : ¬ (n = 0 ∨ 2000 < n) := by omega
      by_cases h4 : (r.length : Int) < n + 4
      ·exact (read_short s _ fm ff n r hlt hf rfl hz' hg hu (by omega) (by omega) hr h4 w hE).mono fun _ _ h => ReadP.err (by rw [e2, if_neg h3, if_pos h4]) h
      ·by_cases h5 : checkN (r.take n.toNat) = fourN ((r.drop n.toNat).take 4)
       ·refine (read_got s _ fm ff n r hlt hf rfl hz' hg (by omega) (by omega) hr (by omega) h5 w hE).mono fun _ _ h => ⟨h.2, ?_⟩
        rw [e2, if_neg h3, if_neg h4, if_neg (fun h => h h5)]
        exact h.1
       ·exact (read_sum s _ fm ff n r hlt hf rfl hz' hg (by omega) (by omega) hr (by omega) h5 w hE).mono fun _ _ h => ReadP.err (by rw [e2, if_neg h3, if_neg h4, if_pos h5]) h
  ·exact (read_mark s _ hlt rfl hf w).mono fun _ _ h => ReadP.err (by rw [e]; unfold rdF; dsimp only; rw [if_pos hf]) h
inductive Frames : List UInt8 → List (List UInt8) → List UInt8 → Int → Prop where
 | stop {s : List UInt8} {no : Int} : rdF s = .err no → Frames s [] s no
 | step {s b r t : List UInt8} {l : List (List UInt8)} {no : Int} : rdF s = .got b r → Frames r l t no → Frames s (b :: l) t no
theorem Frames.one {s : List UInt8} {l1 l2 : List (List UInt8)} {t1 t2 : List UInt8} {n1 n2 : Int} (h : Frames s l1 t1 n1) (k : Frames s l2 t2 n2) : l1 = l2 ∧ t1 = t2 ∧ n1 = n2 := by
 induction h generalizing l2 t2 n2 with
 | stop e => cases k with
  | stop e' => rw [e] at e'; cases e'; exact ⟨rfl, rfl, rfl⟩
  | step e' _ => rw [e] at e'; cases e'
 | step e _ ih => cases k with
  | stop e' => rw [e] at e'; cases e'
  | step e' k' =>
   rw [e] at e'
   cases e'
   obtain ⟨rfl, rfl, rfl⟩ := ih k'
   exact ⟨rfl, rfl, rfl⟩
def Pfx (s : List UInt8) (bs : List (List UInt8)) (r : List UInt8) : Prop := ∀ l t no, Frames r l t no → Frames s (bs ++ l) t no
theorem Pfx.snoc {s r b r' : List UInt8} {bs : List (List UInt8)} (h : Pfx s bs r) (e : rdF r = .got b r') : Pfx s (bs ++ [b]) r' := fun l t no hl => by
 rw [List.append_assoc]
 exact h _ _ _ (.step e hl)
theorem Pfx.stop {s r : List UInt8} {bs : List (List UInt8)} {no : Int} (h : Pfx s bs r) (e : rdF r = .err no) : Frames s bs r no := by
 have := h _ _ _ (.stop e)
 rwa [List.append_nil] at this
end Go.Proofs.YtpklkhgnjbopnaaGreatDoor
namespace Go.Proofs.YtpklkhgnjbopnaaGreatDoor
open Go Go.RowKit Go.Shelf
def OwnX {β : Type} (B Bs : Nat) (I : β → World → Prop) : Prop :=
 ∀ s W W' row, I s W → W.grownBy W' row → (∀ r, row = some r → r = Bs ∨ (B ≤ r ∧ ∃ o : Obj, W.heap[r]? = some o ∧ o.isCells = false)) → I s W'
theorem OwnX.from {β : Type} {B Bs : Nat} {I : β → World → Prop} (h : OwnX B Bs I) : OwnFrom B I := fun s W W' row hs hg hr => h s W W' row hs hg (fun r e => .inr (hr r e))
theorem OwnX.and {β : Type} {B Bs : Nat} {I I' : β → World → Prop} (h : OwnX B Bs I) (h' : OwnX B Bs I') : OwnX B Bs (fun s W => I s W ∧ I' s W) := fun s W W' row hs hg hr => ⟨h s W W' row hs.1 hg hr, h' s W W' row hs.2 hg hr⟩
theorem ownX_below {β : Type} {n₀ B Bs : Nat} {w₀ : World} (hn : n₀ ≤ w₀.heap.size) (hB : n₀ ≤ B) (hs : n₀ ≤ Bs) : OwnX B Bs (fun (_ : β) W => Below n₀ w₀ W) :=
 fun _ _ _ _ h hg hr => h.grown hg (Nat.le_trans hn h.size) (fun k e => by rcases hr k e with rfl | ⟨h1, _⟩ <;> omega)
theorem ownX_box {β : Type} (C Bs B : Nat) (t : TypeId) (f : β → Value) (hne : B ≠ Bs) : OwnX C Bs (fun s W => Boxed W B t (f s)) := fun s X Y row hs hg hr => by
 refine hs.kept hg (fun e => ?_)
 rcases hr B e.symm with rfl | ⟨_, o, ho, hc⟩
 ·exact hne rfl
 ·rw [show X.heap[B]? = _ from hs] at ho; cases ho; cases hc
def AbidesX {β : Type} (B Bs : Nat) (J : β → World → Prop) : Prop :=
 ∀ s W W' row, J s W → W.grownBy W' row → (∀ r, row = some r → r = Bs) → B ≤ W.heap.size → J s W'
end Go.Proofs.YtpklkhgnjbopnaaGreatDoor
namespace Go.Proofs.YtpklkhgnjbopnaaGreatDoor
open Go Go.RowKit Go.Shelf
def SeqStopsE {α : Type} (P : Program) (g : Nat) (lb : Array Value) (encs : α → Array Value) (Kp : World → World → Prop) (Bs : Nat) (Nx : List α → α → World → Prop) (Fin Pre : List α → Prop) (w : World) : Prop :=
 ∀ (l : Nat) (J Jx : List α → World → Prop) (W : World), Below w.heap.size w W → AbidesX W.heap.size Bs J → AbidesX W.heap.size Bs Jx →
  (∀ pre x W1, J pre W1 → Nx pre x W1 → W.heap.size ≤ W1.heap.size → YieldAt Fence.wide 7 P l (encs x) W1 fun e W' =>
   (e = .returned (.bool true) ∧ J (pre ++ [x]) W' ∧ Kp W1 W' ∧ W1.heap.size ≤ W'.heap.size) ∨ (e = .returned (.bool false) ∧ Jx (pre ++ [x]) W' ∧ W1.heap.size ≤ W'.heap.size)) →
  J [] W →
  CallsIn Fence.wide 8 P g (#[.func (.yield l) #[] #[]] ++ lb) W fun e W' => (∃ v, e = .returned v) ∧ ((∃ xs, Fin xs ∧ J xs W') ∨ (∃ pre, Pre pre ∧ Jx pre W'))
theorem wp_rangeE {α : Type} {P : Program} {g : Operand} {ps : Array Tmp} {assign body : Code} {Q : Exit → Act → World → Prop} {a : Act} {w : World}
  {gf : Nat} {lb : Array Value} (hg : a.eval g = .func (.func gf) #[] lb) (eg : ∀ args w, (callFunc gf args).run P w = .ok (.enter gf args) w)
  {encs : α → Array Value} {Kp : World → World → Prop} {Bs : Nat} {Nx : List α → α → World → Prop} {Fin Pre : List α → Prop} (hseq : SeqStopsE P gf lb encs Kp Bs Nx Fin Pre w) (hNX : OwnFrom w.heap.size (fun (p : List α × α) W => Nx p.1 p.2 W)) (hBs : Bs < w.heap.size)
  (hKt : ∀ {A B C : World}, Kp A B → Kp B C → Kp A C) (hKb : ∀ (W : World) (l : Nat) (o o' : Obj), w.heap.size ≤ l → W.heap[l]? = some o → o.isCells = false → o.isWalk = false → Kp W (W.putObj l o')) (hps : ∀ x, (encs x).size = ps.size)
  (I : List α → World → Prop) (Ix : Code → List α → World → Prop) (hIX : OwnX w.heap.size Bs I) (hIxX : ∀ c, OwnX w.heap.size Bs (Ix c)) (h0 : I [] w) (box : α → Obj) (hKa : ∀ (W : World) (o : Obj), Kp W (W.alloc o)) (a₁ : α → Nat → Act)
  (hassign : ∀ (l : Nat) (x : α) (W : World) (K : Act → World → Prop), K (a₁ x W.heap.size) (W.alloc (box x)) →
   assign.wpIn (Fence.wide.inRound l) 7 P (Exit.then K (fun _ _ _ => False)) { tmps := (ps.zip (encs x)).foldl (fun t (p, v) => t.setIfInBounds p v) a.tmps, defers := [] } W)
  (hbody : ∀ (l : Nat) (pre : List α) (x : α) (n : Nat) (W : World), I pre W → Nx pre x W → w.heap.size + 2 ≤ n → W.heap[n]? = some (box x) → body.wpIn (Fence.wide.inRound l) 7 P (ownPostG w.heap.size Kp I Ix (pre ++ [x]) W) (a₁ x n) W)
  (hdone : ∀ (D : Nat) (xs : List α) (W : World), w.heap.size ≤ D → Fin xs → I xs W → W.heap[D]? = some (.deferred (some [])) → Q .normal { a with defers := { target := .collected D, args := #[] } :: a.defers } W)
  (hstop : ∀ (D : Nat) (c : Code) (pre : List α) (W : World), w.heap.size ≤ D → Pre pre → Ix c pre W → W.heap[D]? = some (.deferred (some [])) → c.wp P Q { a with defers := { target := .collected D, args := #[] } :: a.defers } W) :
  (Code.rangeFunc g ps assign body).wp P Q a w := by
 refine (wpIn_wide (n := 9)).1 ?_
 have hI := hIX.from
 have hIx := fun c => (hIxX c).from
 refine wpIn_rangeFunc ?_
 intro fn hfn
 show ∃ _ _ _ _ _ _ _ _, (Instr.enterLoop fn a.tmps ps assign body none).run P w = _ ∧ _
 obtain ⟨rec, hrec⟩ : ∃ rec : LoopState → Option Code → Loop, rec = fun st pe => { state := st, pending := pe, fn, tmps := a.tmps, params := ps, assign, body, defers := w.heap.size } := ⟨_, rfl⟩
 obtain ⟨W1, hW1⟩ : ∃ W1, (w.alloc (.deferred (some []))).alloc (.loop (rec .ready none)) = W1 := ⟨_, rfl⟩
 have hL1 : W1.heap[w.heap.size + 1]? = some (.loop (rec .ready none)) := by
  rw [← hW1]; have := World.alloc_heap_new (w.alloc (.deferred (some []))) (.loop (rec .ready none)); rwa [World.size_alloc] at this
 have hK1 : W1.heap[w.heap.size]? = some (.deferred (some [])) := by
  rw [← hW1]; exact (Below.heap_alloc _ _ _ (by simp)).trans (World.alloc_heap_new w _)
 have hI1 : I [] W1 := by rw [← hW1]; exact hI.alloc _ (hI.alloc _ h0)
 have hb1 : Below w.heap.size w W1 := by
  rw [← hW1]; exact ((Below.refl _ w).alloc (Nat.le_refl _) _).alloc (by simp) _
 have hs1 : W1.heap.size = w.heap.size + 2 := by rw [← hW1]; simp
 refine ⟨w.heap.size + 1, [{ target := .collected w.heap.size, args := #[] }], W1, { target := .fn (.func gf) lb, args := #[.func (.yield (w.heap.size + 1)) #[] #[]] }, W1, gf,
  #[.func (.yield (w.heap.size + 1)) #[] #[]] ++ lb, W1, ?_, ?_, ?_, ?_, fun _ => by omega, ?_⟩
 ·rw [← hW1, hrec]; exact run_enterLoop_outer _ _ _ _ _
 ·simp only [resolve, hg]
  simp [go_sem]
 ·intro f' hf'; trivial
 ·simp [invoke, go_sem, eg]
 ·have keep : ∀ {A B : World} {row : Option Nat} {k : Nat} {o : Obj}, A.grownBy B row → (∀ r, row = some r → r = Bs) → w.heap.size ≤ k → A.heap[k]? = some o → B.heap[k]? = some o := fun hg' hr hk ho =>
   (hg'.block _ (Array.getElem?_eq_some_iff.1 ho).1 (fun e => by have := hr _ e.symm; omega)).trans ho
  refine (hseq (w.heap.size + 1)
   (fun pre W => I pre W ∧ W.heap[w.heap.size + 1]? = some (.loop (rec .ready none)) ∧ W.heap[w.heap.size]? = some (.deferred (some [])))
   (fun pre W => ∃ c, Ix c pre W ∧ W.heap[w.heap.size + 1]? = some (.loop (rec .done (some c))) ∧ W.heap[w.heap.size]? = some (.deferred (some [])))
   W1 hb1
   (fun s A B row hs hg' hr _ => ⟨hIX s A B row hs.1 hg' (fun r e => .inl (hr r e)), keep hg' hr (by omega) hs.2.1, keep hg' hr (Nat.le_refl _) hs.2.2⟩)
   (fun s A B row hs hg' hr _ => by
    obtain ⟨c, hc, hl, hk⟩ := hs
    exact ⟨c, hIxX c s A B row hc hg' (fun r e => .inl (hr r e)), keep hg' hr (by omega) hl, keep hg' hr (Nat.le_refl _) hk⟩)
   ?_ ⟨hI1, hL1, hK1⟩).mono ?_
  ·rintro pre x W ⟨hi, hl, hk⟩ hnx hsz
   have hlt : w.heap.size + 1 < W.heap.size := (Array.getElem?_eq_some_iff.1 hl).1
   have hy := run_yield (P := P) (args := encs x) hl (by rw [hrec]; exact hps x)
   rw [hrec] at hy
   refine ⟨fn, _, assign, body, hy, roundIn_of_wpIn hfn (hassign _ x W _ ?_)⟩
   clear hy
   obtain ⟨V, hV⟩ : ∃ V, W.alloc (box x) = V := ⟨_, rfl⟩
   rw [hV]
   have hi : I pre V := by rw [← hV]; exact hI.alloc _ hi
   have hnx : Nx pre x V := by rw [← hV]; exact hNX.alloc (s := (pre, x)) _ hnx
   have hl : V.heap[w.heap.size + 1]? = some (.loop (rec .ready none)) := by rw [← hV]; exact (Below.heap_alloc _ _ _ hlt).trans hl
   have hk : V.heap[w.heap.size]? = some (.deferred (some [])) := by rw [← hV]; exact (Below.heap_alloc _ _ _ (by omega)).trans hk
   have hbx : V.heap[W.heap.size]? = some (box x) := by rw [← hV]; exact World.alloc_heap_new _ _
   have hKV : Kp W V := by rw [← hV]; exact hKa _ _
   have hsV : W.heap.size ≤ V.heap.size := by rw [← hV, World.size_alloc]; omega
   have hltV : w.heap.size + 1 < V.heap.size := by omega
   refine ⟨_, run_beginRound hl (by rw [hrec]), ?_⟩
   have hl2 : (V.putObj (w.heap.size + 1) (.loop { rec .ready none with state := .busy })).heap[w.heap.size + 1]? = some (.loop { rec .ready none with state := .busy }) := World.putObj_heap_same hltV
   have hk2 : (V.putObj (w.heap.size + 1) (.loop { rec .ready none with state := .busy })).heap[w.heap.size]? = some (.deferred (some [])) := (World.putObj_heap_other (by omega)).trans hk
   have hw2 : Kp V (V.putObj (w.heap.size + 1) (.loop { rec .ready none with state := .busy })) := hKb _ _ _ _ (by omega) hl rfl rfl
   have szp : ∀ (W3 : World) (o : Obj), (W3.putObj (w.heap.size + 1) o).heap.size = W3.heap.size := fun W3 o => by simp [World.putObj]
   refine wpIn_mono (hbody _ pre x W.heap.size _ (hI.putObj _ hi (by omega) hl rfl) (hNX.putObj (s := (pre, x)) _ hnx (by omega) hl rfl) (by omega) ((World.putObj_heap_other (by omega)).trans hbx)) ?_
   have fin : ∀ (jump : Option Code) (W3 : World), KeepsFrom w.heap.size (V.putObj (w.heap.size + 1) (.loop { rec .ready none with state := .busy })) W3 →
     (Instr.endRound (w.heap.size + 1) jump).run P W3 = .ok (.bool jump.isNone) (W3.putObj (w.heap.size + 1) (.loop (rec (if jump.isNone then .ready else .done) jump))) ∧
     W3.heap[w.heap.size + 1]? = some (.loop { rec .ready none with state := .busy }) ∧
     (W3.putObj (w.heap.size + 1) (.loop (rec (if jump.isNone then .ready else .done) jump))).heap[w.heap.size + 1]? = some (.loop (rec (if jump.isNone then .ready else .done) jump)) ∧
     (W3.putObj (w.heap.size + 1) (.loop (rec (if jump.isNone then .ready else .done) jump))).heap[w.heap.size]? = some (.deferred (some [])) := fun jump W3 hk3 => by
    have hl3 := hk3.same _ _ (by omega) hl2 rfl
    have := run_endRound (P := P) jump hl3
    rw [hrec] at this ⊢
    exact ⟨this, by rw [hrec] at hl3; exact hl3, World.putObj_heap_same (Array.getElem?_eq_some_iff.1 hl3).1, (World.putObj_heap_other (by omega)).trans (hk3.same _ _ (Nat.le_refl _) hk2 rfl)⟩
   rintro e a3 W3 hp
   cases e with
   | normal =>
    obtain ⟨hk3, hkp3, hi3⟩ := hp
    obtain ⟨hr, hl3, hl4, hk4⟩ := fin none W3 hk3
    exact ⟨_, _, hr, .inl ⟨rfl, ⟨hI.putObj _ hi3 (by omega) hl3 rfl, hl4, hk4⟩, hKt (hKt (hKt hKV hw2) hkp3) (hKb _ _ _ _ (by omega) hl3 rfl rfl), by rw [szp]; have h7 := hk3.size; rw [szp] at h7; omega⟩⟩
   | ret =>
    obtain ⟨hk3, hi3⟩ := hp
    obtain ⟨hr, hl3, hl4, hk4⟩ := fin (some .ret) W3 hk3
    exact ⟨_, _, hr, .inr ⟨rfl, ⟨.ret, (hIx _).putObj _ hi3 (by omega) hl3 rfl, hl4, hk4⟩, by rw [szp]; have h7 := hk3.size; rw [szp] at h7; omega⟩⟩
   | exit id =>
    obtain ⟨hk3, hi3⟩ := hp
    obtain ⟨hr, hl3, hl4, hk4⟩ := fin (some (.exit id)) W3 hk3
    exact ⟨_, _, hr, .inr ⟨rfl, ⟨.exit id, (hIx _).putObj _ hi3 (by omega) hl3 rfl, hl4, hk4⟩, by rw [szp]; have h7 := hk3.size; rw [szp] at h7; omega⟩⟩
   | goto t =>
    obtain ⟨hk3, hi3⟩ := hp
    obtain ⟨hr, hl3, hl4, hk4⟩ := fin (some (.goto t)) W3 hk3
    exact ⟨_, _, hr, .inr ⟨rfl, ⟨.goto t, (hIx _).putObj _ hi3 (by omega) hl3 rfl, hl4, hk4⟩, by rw [szp]; have h7 := hk3.size; rw [szp] at h7; omega⟩⟩
   | panic ch => exact hp.elim
   | outgrown => exact hp.elim
  ·rintro e W2 ⟨⟨v, rfl⟩, (⟨xs, hxs, hi, hl, hk⟩ | ⟨pre, hSp, c, hi, hl, hk⟩)⟩
   ·exact ⟨none, _, by have := run_endLoop (P := P) hl (by rw [hrec]; simp); rw [hrec] at this; exact this, hdone _ xs _ (Nat.le_refl _) hxs (hI.putObj _ hi (by omega) hl rfl) ((World.putObj_heap_other (by omega)).trans hk)⟩
   ·exact ⟨some c, _, by have := run_endLoop (P := P) hl (by rw [hrec]; simp); rw [hrec] at this; exact this, wpIn_wide.2 (hstop _ c pre _ (Nat.le_refl _) hSp ((hIx c).putObj _ hi (by omega) hl rfl) ((World.putObj_heap_other (by omega)).trans hk))⟩
end Go.Proofs.YtpklkhgnjbopnaaGreatDoor
namespace Go.Proofs.YtpklkhgnjbopnaaGreatDoor
open Go Go.RowKit Go.Shelf
attribute [local go_sem] Oper.semAt_some
theorem frames_any (s : ByteArray) (w : World) : Calls Tryz.prog 71 #[.string s] w fun e w' => e = .returned (.func (.func 98) #[] #[.pointer (some ⟨w.heap.size, 0, none⟩)]) ∧ w' = w.alloc (.cells #[.string s] 9) := by
 go_enter Tryz.func71, Tryz.ntmps71
 go_wp2
 go_ret
 exact ⟨rfl, rfl⟩
structure Told where
 body : ByteArray
 left : ByteArray
 err : Value
def Told.enc (x : Told) : Array Value := #[.agg #[.string x.body, .string x.left], x.err]
def NextOf (t : ByteArray) (x : Told) (W : World) : Prop := match rdF t.data.toList with
 | .got b r => x.body = ⟨b.toArray⟩ ∧ x.left = ⟨r.toArray⟩ ∧ x.err = .nilIface
 | .err no => x.body = ⟨#[]⟩ ∧ x.left = t ∧ Fr.FaultAt W x.err no
def lastOf (s : ByteArray) (pre : List Told) : ByteArray := match pre.getLast? with
 | none => s
 | some x => x.left
theorem lastOf_snoc (s : ByteArray) (pre : List Told) (x : Told) : lastOf s (pre ++ [x]) = x.left := by simp [lastOf]
def NxE (s : ByteArray) (pre : List Told) (x : Told) (W : World) : Prop := NextOf (lastOf s pre) x W
def FinE (xs : List Told) : Prop := ∃ pre x, xs = pre ++ [x] ∧ x.err ≠ .nilIface
theorem below_grown {W W' : World} (h : Below W.heap.size W W') : W.grownBy W' none := ⟨h.os, h.tape, h.output, h.size, fun k hk _ => h.block k hk⟩
def Keep0 (n b : Nat) : World → World → Prop := Kept (fun k => k < n ∨ k = b)
def sizeAt (b : Nat) (W : World) : Nat := match W.cell? ⟨b, 0, none⟩ with
 | some (.string t) => t.size
 | _ => 0
theorem sizeAt_of {b : Nat} {W : World} {t : ByteArray} (h : Boxed W b 9 (.string t)) : sizeAt b W = t.size := by unfold sizeAt; rw [h.cell]
set_option maxRecDepth 100000 in
set_option maxHeartbeats 2000000 in
theorem each_stops (b : Nat) (s : ByteArray) (fm ff : Addr) (w0 w : World) (hE : GF fm ff w0) (hB : Below w0.heap.size w0 w) (hb0 : w0.heap.size ≤ b) (hb : Boxed w b 9 (.string s)) (hz : s.size < 4294967281) :
  SeqStopsE Tryz.prog 98 #[.pointer (some ⟨b, 0, none⟩)] Told.enc (Keep0 w0.heap.size b) b (NxE s) FinE (fun _ => True) w := by
 intro l J Jx W hW hJ hJx hY h0
 have hb1 : Boxed W b 9 (.string s) := (hW.block _ hb.lt).trans hb
 have hB1 : Below w0.heap.size w0 W := hB.trans (hW.mono hB.size)
 have HJ := Lib.hid hJ
 have HY := Lib.hid hY
 clear hb hB hW hJ hJx hY
 refine callsIn_of_wp Tryz.func98 rfl trivial ?_ rfl
 simp only [Tryz.ntmps98, List.size_toArray, List.length_cons, List.length_nil, Nat.reduceAdd, Nat.reduceSub, Array.replicate_succ, Array.replicate_zero, List.push_toArray, List.append_toArray, List.nil_append, List.cons_append]
 gi_wp2
 gi_loopw [] (fun wr => ∃ (cur : ByteArray) (pre : List Told), Hid (Boxed wr b 9 (.string cur)) ∧ Hid (J pre wr) ∧ Hid (cur = lastOf s pre) ∧ Hid (Below w0.heap.size w0 wr) ∧ Hid (W.heap.size ≤ wr.heap.size) ∧ cur.size < 4294967281) (fun wr => sizeAt b wr)
 case atStart => exact ⟨s, [], hb1, h0, rfl, hB1, Nat.le_refl _, hz⟩
 case round =>
  obtain ⟨cur, pre, hbc, hJp, hcur, hBr, hsz, hcz⟩ := hrel
  have c0 := hbc.out.cell
  have HR := Lib.hid (frRead_any cur fm ff wr hcz (hE.below hBr.out))
  gi_wp2_with fail
  refine ⟨trivial, (callsIn_wide.2 HR.out).mono ?_⟩
  rintro e w1 ⟨hb, hp⟩
  have hJ1 : J pre w1 := HJ.out _ _ _ none hJp.out (below_grown hb) (fun _ h => by cases h) hsz.out
  have hs1 : W.heap.size ≤ w1.heap.size := Nat.le_trans hsz.out hb.size
  have hbx : Boxed w1 b 9 (.string cur) := (hb.block _ hbc.out.lt).trans hbc.out
  have hB1' : Below w0.heap.size w0 w1 := hBr.out.trans (hb.mono hBr.out.size)
  have hcl := hcur.out
  have hlen : cur.data.toList.length = cur.size := Array.length_toList
  obtain ⟨o, ho⟩ : ∃ o, rdF cur.data.toList = o := ⟨_, rfl⟩
  rw [ho] at hp
  clear HR c0 hb hJp hsz hBr
  cases o with
  | got bd r =>
   obtain rfl : e = _ := hp
   have hx : NxE s pre ⟨⟨bd.toArray⟩, ⟨r.toArray⟩, .nilIface⟩ w1 := by unfold NxE NextOf; rw [← hcl, ho]; exact ⟨rfl, rfl, rfl⟩
   have hy := HY.out pre _ w1 hJ1 hx hs1
   unfold Told.enc at hy
   dsimp only at hy
   obtain ⟨fn, tmps, assign, body, hy, hR⟩ := hy
   have hr := rdF_len ho
   have hLs : lastOf s (pre ++ [⟨⟨bd.toArray⟩, ⟨r.toArray⟩, .nilIface⟩]) = ⟨r.toArray⟩ := lastOf_snoc s pre _
   have HLs := Lib.hid hLs
   have HX := Lib.hid (And.intro hbx (And.intro hB1' (And.intro hs1 (And.intro hlen hr))))
   clear hx hJ1 hs1 hbx hB1' hcl hlen hr ho hLs
   gi_wp2_with fail
   refine hR.mono ?_
   rintro e W3 (⟨rfl, hJ3, hk3, hz3⟩ | ⟨rfl, hJx3, hz3⟩)
   ·obtain ⟨hbx, hB1', hs1, hlen, hr⟩ := HX.out
    have hb3 : Boxed W3 b 9 (.string cur) := hk3.known (.inr rfl) hbx
    have hB3 : Below w0.heap.size w0 W3 := hB1'.trans (hk3.below (fun k hk => .inl hk) hB1'.size)
    have d0 := hb3.cell
    have d1 := hb3.frozen
    have HJ3 := Lib.hid hJ3
    have HB3 := Lib.hid hB3
    have HZ3 : Hid (W.heap.size ≤ W3.heap.size) := Nat.le_trans hs1 hz3
    have HM : Hid (r.length < cur.size) := by rw [Hid]; omega
    have HBX := Lib.hid hb3
    clear hy hR hk3 hz3 hJ3 hB3 hb3 HX hbx hB1' hs1 hlen hr
    gi_wp2_with fail
    refine ⟨⟨⟨r.toArray⟩, _, HBX.out.set _, HJ.out _ _ _ (some b) HJ3.out (grownBy_setCell' _ _ _) (fun r e => by cases e; rfl) HZ3.out, HLs.out.symm, HB3.out.setCell (p := ⟨b, 0, none⟩) hb0 _, ?_, ?_⟩, ?_⟩
    ·rw [Hid, World.size_setCell]; exact HZ3.out
    ·have := HM.out; show r.toArray.size < _; rw [List.size_toArray]; omega
    ·rw [sizeAt_of (HBX.out.set _), sizeAt_of hbc.out]; show r.toArray.size < _; rw [List.size_toArray]; exact HM.out
   ·clear hy hR
    gi_wp2_with fail
    refine bodyPost_ret (results_none rfl _ _ _) rfl ?_
    exact ⟨⟨_, rfl⟩, .inr ⟨_, trivial, hJx3⟩⟩
  | err no =>
   obtain ⟨v, rfl, hf⟩ := hp
   have hx : NxE s pre ⟨⟨#[]⟩, cur, v⟩ w1 := by unfold NxE NextOf; rw [← hcl, ho]; exact ⟨rfl, rfl, hf⟩
   have hy := HY.out pre _ w1 hJ1 hx hs1
   unfold Told.enc at hy
   dsimp only at hy
   obtain ⟨fn, tmps, assign, body, hy, hR⟩ := hy
   obtain ⟨fb, rfl, -⟩ := hf
   clear hx hJ1 hs1 hbx hB1' hcl hlen ho
   gi_wp2_with fail
   refine hR.mono ?_
   rintro e W3 (⟨rfl, hJ3, hk3, hz3⟩ | ⟨rfl, hJx3, hz3⟩)
   ·clear hy hR hk3 hz3
    gi_wp2_with fail
    refine bodyPost_ret (results_none rfl _ _ _) rfl ?_
    exact ⟨⟨_, rfl⟩, .inl ⟨_, ⟨_, _, rfl, fun h => by cases h⟩, hJ3⟩⟩
   ·clear hy hR
    gi_wp2_with fail
    refine bodyPost_ret (results_none rfl _ _ _) rfl ?_
    exact ⟨⟨_, rfl⟩, .inr ⟨_, trivial, hJx3⟩⟩
end Go.Proofs.YtpklkhgnjbopnaaGreatDoor
namespace Go.Proofs.YtpklkhgnjbopnaaGreatDoor
open Go Go.RowKit Go.Shelf
attribute [local go_sem] Oper.semAt_some
theorem wp_rangeE2 {α : Type} {P : Program} {g : Operand} {ps : Array Tmp} {assign body : Code} {Q : Exit → Act → World → Prop} {a : Act} {w : World} (s1 s2 : Nat) (f : α → Value)
  {gf : Nat} {lb : Array Value} (hg : a.eval g = .func (.func gf) #[] lb) (eg : ∀ args w, (callFunc gf args).run P w = .ok (.enter gf args) w)
  {encs : α → Array Value} {Kp : World → World → Prop} {Bs : Nat} {Nx : List α → α → World → Prop} {Fin Pre : List α → Prop} (hseq : SeqStopsE P gf lb encs Kp Bs Nx Fin Pre w) (hNX : OwnFrom w.heap.size (fun (p : List α × α) W => Nx p.1 p.2 W)) (hBs : Bs < w.heap.size)
  (hKt : ∀ {A B C : World}, Kp A B → Kp B C → Kp A C) (hKb : ∀ (W : World) (l : Nat) (o o' : Obj), w.heap.size ≤ l → W.heap[l]? = some o → o.isCells = false → o.isWalk = false → Kp W (W.putObj l o')) (hps : ∀ x, (encs x).size = ps.size)
  (I : List α → World → Prop) (Ix : Code → List α → World → Prop) (hIX : OwnX w.heap.size Bs I) (hIxX : ∀ c, OwnX w.heap.size Bs (Ix c)) (h0 : I [] w) (box : α → Obj) (hKa : ∀ (W : World) (o : Obj), Kp W (W.alloc o))
  (hassign : ∀ (l : Nat) (x : α) (W : World) (K : Act → World → Prop), K { tmps := (((ps.zip (encs x)).foldl (fun t (p, v) => t.setIfInBounds p v) a.tmps).setIfInBounds s1 (.pointer (some ⟨W.heap.size, 0, none⟩))).setIfInBounds s2 (f x), defers := [] } (W.alloc (box x)) →
   assign.wpIn (Fence.wide.inRound l) 7 P (Exit.then K (fun _ _ _ => False)) { tmps := (ps.zip (encs x)).foldl (fun t (p, v) => t.setIfInBounds p v) a.tmps, defers := [] } W)
  (hbody : ∀ (l : Nat) (pre : List α) (x : α) (n : Nat) (W : World), I pre W → Nx pre x W → w.heap.size + 2 ≤ n → W.heap[n]? = some (box x) → body.wpIn (Fence.wide.inRound l) 7 P (ownPostG w.heap.size Kp I Ix (pre ++ [x]) W) { tmps := (((ps.zip (encs x)).foldl (fun t (p, v) => t.setIfInBounds p v) a.tmps).setIfInBounds s1 (.pointer (some ⟨n, 0, none⟩))).setIfInBounds s2 (f x), defers := [] } W)
  (hdone : ∀ (D : Nat) (xs : List α) (W : World), w.heap.size ≤ D → Fin xs → I xs W → W.heap[D]? = some (.deferred (some [])) → Q .normal { a with defers := { target := .collected D, args := #[] } :: a.defers } W)
  (hstop : ∀ (D : Nat) (c : Code) (pre : List α) (W : World), w.heap.size ≤ D → Pre pre → Ix c pre W → W.heap[D]? = some (.deferred (some [])) → c.wp P Q { a with defers := { target := .collected D, args := #[] } :: a.defers } W) :
  (Code.rangeFunc g ps assign body).wp P Q a w :=
 wp_rangeE hg eg hseq hNX hBs (fun h k => hKt h k) hKb hps I Ix hIX hIxX h0 box hKa (fun x k => { tmps := (((ps.zip (encs x)).foldl (fun t (p, v) => t.setIfInBounds p v) a.tmps).setIfInBounds s1 (.pointer (some ⟨k, 0, none⟩))).setIfInBounds s2 (f x), defers := [] }) hassign hbody hdone hstop
def encTx (s : ByteArray) : List Value := [.string s]
theorem und_txs : Tryz.prog.underlying 80 = some (.slice 9) := by kernel_rfl
theorem info_tx : (Tryz.prog.info? 9).map (fun i => (i.zero, i.size, i.bytes)) = some (some (.string ⟨#[]⟩), 1, 16) := by kernel_rfl
theorem flat_tx (l : List ByteArray) : l.flatMap encTx = l.map Value.string := by
 induction l with
 | nil => rfl
 | cons x xs ih => rw [List.flatMap_cons, ih]; rfl
theorem owns_tx {w : World} {base e size n : Nat} {v : Value} {xs : List Value} (h : w.ownsRow base e size v n xs) : ∃ a cap, v = .slice a n cap := by
 rcases h.2 with ⟨rfl, rfl⟩ | ⟨g, cap, cur, rfl, _⟩
 ·exact ⟨none, 0, rfl⟩
 ·exact ⟨_, cap, rfl⟩
theorem owns_keepX {X Y : World} {row : Option Nat} {n N : Nat} {v : Value} {k : Nat} {l : List Value} (h : X.ownsRow (n + 6) 9 1 v k l) (hg : X.grownBy Y row) (hr : ∀ r, row = some r → r = n + 3 ∨ (N ≤ r ∧ ∃ o : Obj, X.heap[r]? = some o ∧ o.isCells = false)) : Y.ownsRow (n + 6) 9 1 v k l := by
 refine h.kept hg ?_
 rcases h.2 with ⟨rfl, _⟩ | ⟨g, cap, cur, rfl, hgb, hgg, _⟩
 ·exact .inl rfl
 ·refine .inr (fun e => ?_)
  have e' : row = some g := by rw [← e]; rfl
  rcases hr g e' with h | ⟨_, o, ho, hc⟩
  ·omega
  ·rw [hgg] at ho; cases ho; cases hc
def FrB (t : ByteArray) (no : Int) (l : List ByteArray) (n : Nat) (w : World) (v : Value) (W : World) : Prop :=
 Boxed W n 80 v ∧ W.ownsRow (n + 6) 9 1 v l.length (l.map Value.string) ∧ Boxed W (n + 1) 9 (.string t) ∧ Boxed W (n + 2) 27 (.int .i64 no) ∧ Below n w W
theorem frB_own {t : ByteArray} {no : Int} {l : List ByteArray} {n N : Nat} {w : World} (hn : n ≤ w.heap.size) (hN : n ≤ N) {v : Value} {X Y : World} {row : Option Nat} (h : FrB t no l n w v X) (hg : X.grownBy Y row) (hr : ∀ r, row = some r → r = n + 3 ∨ (N ≤ r ∧ ∃ o : Obj, X.heap[r]? = some o ∧ o.isCells = false)) : FrB t no l n w v Y := by
 obtain ⟨h1, h2, h3, h4, h6⟩ := h
 exact ⟨ownX_box N (n + 3) n _ (fun _ : Unit => v) (by omega) () X Y row h1 hg hr, owns_keepX h2 hg hr, ownX_box N (n + 3) (n + 1) _ (fun _ : Unit => .string t) (by omega) () X Y row h3 hg hr, ownX_box N (n + 3) (n + 2) _ (fun _ : Unit => .int .i64 no) (by omega) () X Y row h4 hg hr, ownX_below hn hN (by omega) () X Y row h6 hg hr⟩
theorem FrB.go {t : ByteArray} {no : Int} {l : List ByteArray} {n : Nat} {w W W' : World} {v : Value} (h : FrB t no l n w v W) (hb : Below W.heap.size W W') (hn : n ≤ W.heap.size) : FrB t no l n w v W' := by
 obtain ⟨h1, h2, h3, h4, h5⟩ := h
 exact ⟨bBoxed hb h1.lt h1, owns_of_blocks h2 (fun j _ hj => hb.block j hj), bBoxed hb h3.lt h3, bBoxed hb h4.lt h4, h5.trans (hb.mono hn)⟩
def FrI (s : ByteArray) (n : Nat) (w : World) (pre : List Told) (W : World) : Prop := (∀ x ∈ pre, x.err = .nilIface) ∧ Pfx s.data.toList (pre.map (·.body.data.toList)) (lastOf s pre).data.toList ∧ pre.length + (lastOf s pre).size ≤ s.size ∧ ∃ v, FrB s 20 (pre.map (·.body)) n w v W
def FrX (s : ByteArray) (n : Nat) (w : World) (c : Code) (_ : List Told) (W : World) : Prop := c = .exit 0 ∧ ∃ v l t no, Frames s.data.toList (l.map (·.data.toList)) t.data.toList no ∧ FrB t no l n w v W
theorem frI_own {s : ByteArray} {n N : Nat} {w : World} (hn : n ≤ w.heap.size) (hN : n ≤ N) : OwnX N (n + 3) (FrI s n w) := fun pre X Y row hs hg hr => by
 obtain ⟨h1, h2, h3, v, h4⟩ := hs
 exact ⟨h1, h2, h3, v, frB_own hn hN h4 hg hr⟩
theorem frX_own {s : ByteArray} {n N : Nat} {w : World} (hn : n ≤ w.heap.size) (hN : n ≤ N) (c : Code) : OwnX N (n + 3) (FrX s n w c) := fun pre X Y row hs hg hr => by
 obtain ⟨h1, v, l, t, no, h2, h4⟩ := hs
 exact ⟨h1, v, l, t, no, h2, frB_own hn hN h4 hg hr⟩
theorem nextOf_own {u : ByteArray} {B : Nat} {x : Told} {X Y : World} {row : Option Nat} (hs : NextOf u x X) (hg : X.grownBy Y row) (hr : ∀ r, row = some r → B ≤ r ∧ ∃ o : Obj, X.heap[r]? = some o ∧ o.isCells = false) : NextOf u x Y := by
 unfold NextOf at hs ⊢
 cases ho : rdF u.data.toList with
 | got b r => rw [ho] at hs; exact hs
 | err no =>
  rw [ho] at hs
  obtain ⟨h1, h2, fb, h3, h4⟩ := hs
  refine ⟨h1, h2, fb, h3, (hg.block _ (Array.getElem?_eq_some_iff.1 h4).1 (fun e => ?_)).trans h4⟩
  obtain ⟨_, o, ho, hc⟩ := hr fb e.symm
  rw [h4] at ho
  cases ho
  cases hc
theorem nx_own (s : ByteArray) (B : Nat) : OwnFrom B (fun (p : List Told × Told) W => NxE s p.1 p.2 W) := fun _ _ _ _ hs hg hr => nextOf_own (B := B) hs hg hr
def AllP (s : ByteArray) (w : World) (e : Ending) (w' : World) : Prop := ∃ (l : List ByteArray) (t : ByteArray) (no : Int) (a : Option Addr) (cap : Nat), e = .returned (.tuple #[.slice a l.length cap, .string t, .int .i64 no]) ∧ Frames s.data.toList (l.map (·.data.toList)) t.data.toList no ∧ SlE encTx 1 w'.heap.size w' a l.length l ∧ Below w.heap.size w w'
theorem appKeepsT {W w1 : World} {B base e size n : Nat} {v : Value} {xs : List Value} (hown : W.ownsRow base e size v n xs) (hz : W.heap.size ≤ w1.heap.size) (h6 : ∀ k, k < W.heap.size → some k ≠ v.ownBlock → w1.heap[k]? = W.heap[k]?) : KeepsFrom B W w1 :=
 ⟨hz, fun k o _ hk ho => by
  refine (h6 k (Array.getElem?_eq_some_iff.1 hk).1 (fun e => ?_)).trans hk
  rcases hown.2 with ⟨rfl, _⟩ | ⟨g, cap, cur, rfl, _, hg, _⟩
  ·cases e
  ·have : k = g := by cases e; rfl
   subst this
   rw [hg] at hk; cases hk; cases ho⟩
attribute [-go_sem] Builtin.append_
set_option maxRecDepth 100000 in
set_option maxHeartbeats 4000000 in
theorem All_any (s : ByteArray) (fm ff : Addr) (w : World) (hz : s.size < 4294967281) (hE : GF fm ff w) (hT : Fr.GT w) : Calls Tryz.prog 35 #[.string s] w (AllP s w) := by
 refine calls_marks Tryz.func35 rfl ?_
 simp only [Tryz.ntmps35, List.size_toArray, List.length_cons, List.length_nil, Nat.reduceAdd, Nat.reduceSub, Array.replicate_succ, Array.replicate_zero, List.push_toArray, List.append_toArray, List.nil_append, List.cons_append]
 go_wp2_with fail
 go_step3
 go_wp2_with fail
 go_step3
 go_wp2_with (go_at_call 71; refine (frames_any _ _).mono ?_; rintro e w' ⟨rfl, rfl⟩)
 obtain ⟨X, hX, b0, b1, b2, hB3, hs3⟩ := box3 w (.slice none 0 0) 80 (.string s) 9 (.int .i64 20) 27
 rw [hX]
 clear hX
 obtain ⟨W0, hW0, hd, hB4, hs4⟩ := boxes1 X #[.string s] 9
 rw [hW0]
 rw [hs3] at hd hs4
 have b0' := bBoxed hB4 b0.lt b0
 have b1' := bBoxed hB4 b1.lt b1
 have b2' := bBoxed hB4 b2.lt b2
 have hB0 : Below w.heap.size w W0 := hB3.trans (hB4.mono hB3.size)
 have hGT := hT
 clear hW0 b0 b1 b2 hB3 hB4 hs3
 refine wp_rangeE2 8 9 Told.err (gf := 98) (lb := #[.pointer (some ⟨w.heap.size + 3, 0, none⟩)]) rfl (enters_of Tryz.func98 (by kernel_rfl) rfl)
  (each_stops (w.heap.size + 3) s fm ff w W0 hE hB0 (by omega) hd hz) (nx_own s _) (by omega) (fun h k => h.trans k) (fun W l o o' hl ho hc hw => ?kb) (fun _ => rfl) (FrI s w.heap.size w) (FrX s w.heap.size w) (frI_own (Nat.le_refl _) (by omega)) (frX_own (Nat.le_refl _) (by omega))
  ⟨(fun x hx => by cases hx), (fun l t no h => h), (by show 0 + s.size ≤ _; omega), _, b0', World.ownsRow_nil _ _ _ _, b1', b2', hB0⟩ (fun x => .cells #[.string x.body, .string x.left] 145 (0, 0)) (fun W o => ?ka) ?assign ?body ?done ?stop
 case kb => exact ⟨rfl, rfl, rfl, by simp [World.putObj], fun k hk hq => World.putObj_heap_other (by omega)⟩
 case ka => exact Kept.of ((Below.refl _ W).alloc (Nat.le_refl _) _)
 case assign =>
  rintro l x W K hK
  simp only [Told.enc, List.zip_toArray, List.zip_cons_cons, List.zip_nil_right, List.size_toArray, List.foldl_toArray', List.foldl_cons, List.foldl_nil, List.setIfInBounds_toArray, List.set_cons_succ, List.set_cons_zero] at hK ⊢
  gi_wp2_with fail
  exact hK
 case body =>
  rintro lo pre x nb W ⟨hok, hP, hL, v, hAB⟩ hnx hnb hbx
  simp only [Told.enc, List.zip_toArray, List.zip_cons_cons, List.zip_nil_right, List.size_toArray, List.foldl_toArray', List.foldl_cons, List.foldl_nil, List.setIfInBounds_toArray, List.set_cons_succ, List.set_cons_zero]
  obtain ⟨va, vc, rfl⟩ := owns_tx hAB.2.1
  have hlt := (Array.getElem?_eq_some_iff.1 hbx).1
  unfold NxE NextOf at hnx
  obtain ⟨xb, xl, xe⟩ := x
  obtain ⟨o, ho⟩ : ∃ o, rdF (lastOf s pre).data.toList = o := ⟨_, rfl⟩
  rw [ho] at hnx
  clear hd b0' b1' b2' hB0
  cases o with
  | got bd r =>
   obtain ⟨e1, e2, e3⟩ := hnx
   dsimp only at e1 e2 e3 hbx ⊢
   subst e1 e2 e3
   have hr := rdF_len ho
   have hlen : (lastOf s pre).data.toList.length = (lastOf s pre).size := Array.length_toList
   have hrz : (⟨r.toArray⟩ : ByteArray).size = r.length := List.size_toArray
   have p0 : W.cell? ⟨nb, 0, none⟩ = some (.string ⟨bd.toArray⟩) := cCc hbx 0
   have z0 := hAB.1.cell
   obtain ⟨g, cap', w4, hap, hown4, hB4, hz4, hbl4, hoth4⟩ := append_one Tryz.prog 80 und_txs info_tx rfl (by decide) hAB.2.1 hAB.2.2.2.2 (by omega) (by omega) [.string ⟨bd.toArray⟩] rfl (by simp [Value.oneCell']) (by rw [List.length_map]; omega) (by decide)
   have e0 : Boxed w4 w.heap.size 80 _ := (hbl4 _ (by omega)).trans hAB.1
   have z1 := e0.cell
   have z2 := e0.frozen
   simp only [List.length_map] at z0 z1 hap hown4
   have HPO := Lib.hid (And.intro hok (And.intro hP (And.intro hL (And.intro hAB (And.intro ho (And.intro hr (And.intro hlen (And.intro hrz (And.intro hown4 (And.intro hB4 (And.intro hz4 (And.intro hbl4 (And.intro hoth4 e0)))))))))))))
   clear hok hP hL hAB ho hr hlen hrz hown4 hB4 hz4 hbl4 hoth4 e0
   gi_wp2_with (gi_at_builtin; refine wpIn_append_eq rfl _ _ _ rfl rfl rfl hap ?_)
   obtain ⟨hok, hP, hL, hAB, ho, hr, hlen, hrz, hown4, hB4, hz4, hbl4, hoth4, e0⟩ := HPO.out
   have hFB : FrB s 20 (pre.map (·.body) ++ [⟨bd.toArray⟩]) w.heap.size w (.slice (some ⟨g, 0, none⟩) (pre.length + 1) cap') (w4.setCell ⟨w.heap.size, 0, none⟩ (.slice (some ⟨g, 0, none⟩) (pre.length + 1) cap')) := by
    refine ⟨e0.set _, ?_, ?_, ?_, hB4.setCell (p := ⟨w.heap.size, 0, none⟩) (Nat.le_refl _) _⟩
    ·have hq := ownsRow_setCell_below hown4 (a := ⟨w.heap.size, 0, none⟩) (by show w.heap.size < _; omega) (.slice (some ⟨g, 0, none⟩) (pre.length + 1) cap')
     simpa using hq
    ·exact (Below.heap_setCell _ _ _ _ (by show w.heap.size + 1 ≠ w.heap.size; omega)).trans ((hbl4 _ (by omega)).trans hAB.2.2.1)
    ·exact (Below.heap_setCell _ _ _ _ (by show w.heap.size + 2 ≠ w.heap.size; omega)).trans ((hbl4 _ (by omega)).trans hAB.2.2.2.1)
   refine ⟨(appKeepsT hAB.2.1 (by omega) hoth4).trans ((KeepsOthers.setCell _ _ _).from _), Kept.set ⟨hB4.os.trans hAB.2.2.2.2.os.symm, hB4.tape.trans hAB.2.2.2.2.tape.symm, hB4.output.trans hAB.2.2.2.2.output.symm, by omega, fun k hk hq => hbl4 k (by omega)⟩ (fun _ => by omega) 0 _, ?_, ?_, ?_, .slice (some ⟨g, 0, none⟩) (pre.length + 1) cap', ?_⟩
   ·intro x hx
    rcases List.mem_append.1 hx with h | h
    ·exact hok x h
    ·rw [List.mem_singleton.1 h]
   ·rw [lastOf_snoc, List.map_append]
    exact hP.snoc ho
   ·rw [lastOf_snoc, List.length_append]
    show pre.length + 1 + (⟨r.toArray⟩ : ByteArray).size ≤ _
    omega
   ·rw [List.map_append]
    exact hFB
  | err no =>
   obtain ⟨e1, e2, e3⟩ := hnx
   dsimp only at e1 e2 e3 hbx ⊢
   subst e1 e2
   obtain ⟨D, hD⟩ : ∃ D, W.drew = D := ⟨_, rfl⟩
   have hDh : ∀ k : Nat, D.heap[k]? = W.heap[k]? := fun k => by rw [← hD]; rfl
   have hDz : D.heap.size = W.heap.size := by rw [← hD]; rfl
   have hBD : Below w.heap.size w D := by rw [← hD]; exact hAB.2.2.2.2.drew
   have hABD : FrB s 20 (pre.map (·.body)) w.heap.size w (.slice va (pre.map (·.body)).length vc) D := hAB.go (by rw [← hD]; exact (Below.refl _ W).drew) hAB.2.2.2.2.size
   have hC := Fr.errno_fault xe no D (hBD.cell (p := ⟨0, 0, none⟩) (by have := hE.lt; show 0 < _; omega) |>.trans hT) (by obtain ⟨fb, h1, h2⟩ := e3; exact ⟨fb, h1, (hDh fb).trans h2⟩)
   have hbxD : D.heap[nb]? = some (.cells #[.string ⟨#[]⟩, .string (lastOf s pre)] 145 (0, 0)) := (hDh nb).trans hbx
   have p0 : D.cell? ⟨nb, 1, none⟩ = some (.string (lastOf s pre)) := cCc hbxD 1
   have HQ : Hid (∀ x1, Below D.heap.size D x1 → x1.cell? ⟨nb, 1, none⟩ = some (.string (lastOf s pre)) ∧ (x1.cell? ⟨w.heap.size + 1, 0, none⟩ = some (.string s) ∧ x1.frozen? ⟨w.heap.size + 1, 0, none⟩ = false) ∧ ((x1.setCell ⟨w.heap.size + 1, 0, none⟩ (.string (lastOf s pre))).cell? ⟨w.heap.size + 1 + 1, 0, none⟩ = some (.int .i64 20) ∧ (x1.setCell ⟨w.heap.size + 1, 0, none⟩ (.string (lastOf s pre))).frozen? ⟨w.heap.size + 1 + 1, 0, none⟩ = false) ∧
     Hid (KeepsFrom W0.heap.size W ((x1.setCell ⟨w.heap.size + 1, 0, none⟩ (.string (lastOf s pre))).setCell ⟨w.heap.size + 1 + 1, 0, none⟩ (.int .i64 no)) ∧ FrX s w.heap.size w (.exit 0) (pre ++ [⟨⟨#[]⟩, lastOf s pre, xe⟩]) ((x1.setCell ⟨w.heap.size + 1, 0, none⟩ (.string (lastOf s pre))).setCell ⟨w.heap.size + 1 + 1, 0, none⟩ (.int .i64 no)))) := fun x1 hb => by
    have h := hABD.go hb hBD.size
    obtain ⟨i1, i2, i3, i4, i5⟩ := h
    have j4 : Boxed (x1.setCell ⟨w.heap.size + 1, 0, none⟩ (.string (lastOf s pre))) (w.heap.size + 2) 27 (.int .i64 20) := i4.other (by omega) _
    refine ⟨cCc (known hb (Nat.le_refl _) hbxD) 1, ⟨i3.cell, i3.frozen⟩, ⟨j4.cell, j4.frozen⟩, ?_, rfl, .slice va (pre.map (·.body)).length vc, pre.map (·.body), lastOf s pre, no, ?_, ?_⟩
    ·refine KeepsFrom.trans (KeepsFrom.trans ?_ ((KeepsOthers.setCell _ _ _).from _)) ((KeepsOthers.setCell _ _ _).from _)
     have hWD : KeepsFrom W0.heap.size W D := by rw [← hD]; exact (KeepsOthers.drew _).from _
     exact hWD.trans (bKeeps hb (Nat.le_refl _))
    ·rw [List.map_map]; exact hP.stop ho
    ·refine ⟨(i1.other (by omega) _).other (by omega) _, ?_, (i3.set _).other (by omega) _, j4.set _, (i5.setCell (p := ⟨w.heap.size + 1, 0, none⟩) (by show w.heap.size ≤ w.heap.size + 1; omega) _).setCell (p := ⟨w.heap.size + 1 + 1, 0, none⟩) (by show w.heap.size ≤ w.heap.size + 1 + 1; omega) _⟩
     exact ownsRow_setCell_below (ownsRow_setCell_below i2 (a := ⟨w.heap.size + 1, 0, none⟩) (by show w.heap.size + 1 < _; omega) _) (a := ⟨w.heap.size + 1 + 1, 0, none⟩) (by show w.heap.size + 1 + 1 < _; omega) _
   obtain ⟨fb, rfl, -⟩ := e3
   have HC := Lib.hid hC
   have HD := Lib.hid hD
   obtain ⟨cur, hcur⟩ : ∃ cur, lastOf s pre = cur := ⟨_, rfl⟩
   rw [hcur] at p0 HQ hbx ⊢
   clear hC hD hDh hDz hBD hABD hbxD hAB hok hP hL ho hcur
   gi_wp2_with fail
   refine wpIn_region_round (F := Fence.wide) rfl (by kernel_rfl) (by kernel_rfl) ?_
   change wpAnyIn _ _ _ _ _ _ _ _ _ (World.drew _)
   rw [HD.out]
   refine wpAnyIn_take (i := 0) (v := ?_) rfl rfl (by kernel_rfl) (by kernel_rfl) (by kernel_rfl) (fun _ _ _ h => h) ⟨Or.inl ⟨by rfl, ?_⟩, fun _ => rfl⟩ ?_
   rotate_left
   ·intro w; go_simp; with_reducible rfl
   refine wpAnyIn_take (i := 2) (v := ?_) rfl rfl (by kernel_rfl) (by kernel_rfl) (by kernel_rfl) (fun _ _ _ h => h) ⟨Or.inl ⟨by rfl, ?_⟩, fun _ => rfl⟩ ?_
   rotate_left
   ·intro w; go_simp; with_reducible rfl
   refine wpAnyIn_ready (rs := [1, 3]) (by kernel_rfl) (by simp) ?_
   refine AllReadyIn.cons rfl (fun K hK => ?_) ?_
   ·go_simp
    refine hK _ _ ?_
    clear hK K
    refine wpAnyIn_ready (rs := [3]) (by kernel_rfl) (by simp) ?_
    refine AllReadyIn.cons rfl (fun K hK => ?_) ?_
    ·go_simp
     refine ⟨trivial, (callsIn_wide.2 HC.out).mono ?_⟩
     rintro e x1 ⟨rfl, hb⟩
     obtain ⟨p1, ⟨q1, q2⟩, ⟨q3, q4⟩, HF⟩ := HQ.out x1 hb
     clear hb
     refine hK _ _ ?_
     clear hK K
     refine wpAnyIn_ready (rs := [4]) (by kernel_rfl) (by simp) ?_
     refine AllReadyIn.cons rfl (fun K hK => ?_) ?_
     ·go_simp
      refine hK _ _ ?_
      clear hK K
      refine wpAnyIn_ready (rs := [5]) (by kernel_rfl) (by simp) ?_
      refine AllReadyIn.cons rfl (fun K hK => ?_) ?_
      ·go_simp
       refine hK _ _ ?_
       clear hK K
       refine wpAnyIn_done (by kernel_rfl) ?_ _
       gi_wp2_with fail
       exact HF.out
      exact AllReadyIn.nil
     exact AllReadyIn.nil
    exact AllReadyIn.nil
   refine AllReadyIn.cons rfl (fun K hK => ?_) ?_
   ·go_simp
    refine ⟨trivial, (callsIn_wide.2 HC.out).mono ?_⟩
    rintro e x1 ⟨rfl, hb⟩
    obtain ⟨p1, ⟨q1, q2⟩, ⟨q3, q4⟩, HF⟩ := HQ.out x1 hb
    clear hb
    refine hK _ _ ?_
    clear hK K
    refine wpAnyIn_ready (rs := [1]) (by kernel_rfl) (by simp) ?_
    refine AllReadyIn.cons rfl (fun K hK => ?_) ?_
    ·go_simp
     refine hK _ _ ?_
     clear hK K
     refine wpAnyIn_ready (rs := [4]) (by kernel_rfl) (by simp) ?_
     refine AllReadyIn.cons rfl (fun K hK => ?_) ?_
     ·go_simp
      refine hK _ _ ?_
      clear hK K
      refine wpAnyIn_ready (rs := [5]) (by kernel_rfl) (by simp) ?_
      refine AllReadyIn.cons rfl (fun K hK => ?_) ?_
      ·go_simp
       refine hK _ _ ?_
       clear hK K
       refine wpAnyIn_done (by kernel_rfl) ?_ _
       gi_wp2_with fail
       exact HF.out
      exact AllReadyIn.nil
     exact AllReadyIn.nil
    exact AllReadyIn.nil
   exact AllReadyIn.nil
 case done =>
  rintro D xs W hD ⟨pre, x, rfl, hx⟩ ⟨hok, -⟩ hK
  exact absurd (hok x (by simp)) hx
 case stop =>
  rintro D c pre W hD - ⟨rfl, v, l, t, no, hF, hAB⟩ hK
  refine wp_exit ?_
  unfold Exit.inBlock
  dsimp only
  rw [if_pos rfl]
  obtain ⟨va, vc, rfl⟩ := owns_tx hAB.2.1
  have z0 := hAB.1.cell
  have z1 := hAB.2.2.1.cell
  have z2 : W.cell? ⟨w.heap.size + 1 + 1, 0, none⟩ = some (.int .i64 no) := hAB.2.2.2.1.cell
  have HO := Lib.hid (And.intro hF hAB)
  have HK := Lib.hid hK
  clear hF hAB hd b0' b1' b2' hB0 hK
  go_wp2_with fail
  go_quiet (fail)
  go_wp2_with fail
  rw [Exit.noGoto_ret]
  have hN : Below W.heap.size W (W.drewN nq) := bDr (Below.refl _ _) nq
  have hK := known hN (Nat.le_refl _) HK.out
  have hAB := HO.out.2.go hN HO.out.2.2.2.2.2.size
  have hown := ownsRow_putObj hAB.2.1 (.deferred none) hK rfl
  rw [← flat_tx] at hown
  obtain ⟨a, cap, hv, hS, -⟩ := slC_of_owns (enc := encTx) (fun _ => rfl) hown
  cases hv
  refine marks_ret1 hK (results_tmp3 rfl _ _ _) ⟨l, t, no, va, vc, rfl, HO.out.1, hS.1, bPutD hAB.2.2.2.2 (by omega) hK⟩
theorem Read_any (s : ByteArray) (b r : List UInt8) (fm ff : Addr) (w : World) (hz : s.size < 4294967281) (hE : GF fm ff w) (h : rdF s.data.toList = .got b r) : CR 32 #[.string s] w (.tuple #[.string ⟨b.toArray⟩, .string ⟨r.toArray⟩, .int .i64 0]) := by
 have hR := frRead_any s fm ff w hz hE
 unfold ReadP at hR
 rw [h] at hR
 have HR := Lib.hid hR
 have HN := Lib.hid fun V => Fr.errno_nil V
 clear hR h hE hz
 go_enter Tryz.func32, Tryz.ntmps32
 go_wp2_with fail
 refine HR.out.mono ?_
 rintro e w1 ⟨hb, rfl⟩
 have HB := Lib.hid hb
 clear hb
 go_wp2_with fail
 refine (HN.out _).mono ?_
 rintro e w2 ⟨rfl, hb⟩
 have HB2 : Hid (Below w.heap.size w w2) := HB.out.trans (hb.mono HB.out.size)
 clear hb
 go_wp2_with fail
 go_ret3
 exact ⟨rfl, HB2.out⟩
end Go.Proofs.YtpklkhgnjbopnaaGreatDoor
namespace Go.Proofs.YtpklkhgnjbopnaaGreatDoor
open Go Go.RowKit Go.Shelf
structure Ln where
 tnt : Int
 role : Int
 till : Int
 known : Bool
 closed : Bool
 left : ByteArray
def ln0 : Ln := ⟨0, 0, 0, false, false, ⟨#[]⟩⟩
def lnX : Ln := ⟨0, 0, 0, false, true, ⟨#[]⟩⟩
def wcells (c : Value) (a b d : Ln) : Array Value := #[c, .int .u64 a.tnt, .int .i64 a.role, .int .u64 a.till, .bool a.known, .bool a.closed, .string a.left, .int .u64 b.tnt, .int .i64 b.role, .int .u64 b.till, .bool b.known, .bool b.closed, .string b.left, .int .u64 d.tnt, .int .i64 d.role, .int .u64 d.till, .bool d.known, .bool d.closed, .string d.left, .int .u64 0, .int .i64 0, .int .u64 0, .bool false, .bool false, .string ⟨#[]⟩, .int .u64 0, .int .i64 0, .int .u64 0, .bool false, .bool false, .string ⟨#[]⟩, .int .u64 0, .int .i64 0, .int .u64 0, .bool false, .bool false, .string ⟨#[]⟩, .int .u64 0, .int .i64 0, .int .u64 0, .bool false, .bool false, .string ⟨#[]⟩, .int .u64 0, .int .i64 0, .int .u64 0, .bool false, .bool false, .string ⟨#[]⟩, .int .u64 0, .int .i64 0, .int .u64 0, .bool false, .bool false, .string ⟨#[]⟩, .int .u64 0, .int .i64 0, .int .u64 0, .bool false, .bool false, .string ⟨#[]⟩, .int .u64 0, .int .i64 0, .int .u64 0, .bool false, .bool false, .string ⟨#[]⟩, .int .u64 0, .int .i64 0, .int .u64 0, .bool false, .bool false, .string ⟨#[]⟩, .int .u64 0, .int .i64 0, .int .u64 0, .bool false, .bool false, .string ⟨#[]⟩, .int .u64 0, .int .i64 0, .int .u64 0, .bool false, .bool false, .string ⟨#[]⟩, .int .u64 0, .int .i64 0, .int .u64 0, .bool false, .bool false, .string ⟨#[]⟩, .int .u64 0, .int .i64 0, .int .u64 0, .bool false, .bool false, .string ⟨#[]⟩]
def WireAt (W : World) (b : Nat) (c : Value) (l m n : Ln) : Prop := W.heap[b]? = some (.cells (wcells c l m n) 78 (0, 0))
theorem wireNew_any (c : Addr) (w : World) : Calls Tryz.prog 7 #[.pointer (some c)] w fun e w' => e = .returned (.tuple #[.pointer (some ⟨w.heap.size, 0, none⟩), .int .i64 0]) ∧ WireAt w' w.heap.size (.pointer (some c)) ln0 ln0 ln0 ∧ Below w.heap.size w w' := by
 obtain ⟨W, hW, hX, hB, -⟩ := boxes1 w (wcells (.pointer (some c)) ln0 ln0 ln0) 78
 have hz : wcells (.pointer (some c)) ln0 ln0 ln0 = Tryz.zeroCells78.setIfInBounds 0 (.pointer (some c)) := by kernel_rfl
 have HX := Lib.hid hX
 have HB := Lib.hid hB
 rw [hz] at hW
 clear hX hB hz
 go_enter Tryz.func7, Tryz.ntmps7
 go_wp2_with fail
 go_ret2
 exact ⟨rfl, HX.out, HB.out⟩
theorem wireNew_nil (w : World) : CR 7 #[.pointer none] w (.tuple #[.pointer none, .int .i64 1]) := by
 go_enter Tryz.func7, Tryz.ntmps7
 go_wp2_with fail
 go_ret2
 exact ⟨rfl, Below.refl _ _⟩
theorem wnone_some (a : Addr) (w : World) : Calls Tryz.prog 33 #[.pointer (some a)] w fun e w' => e = .returned (.bool false) ∧ w' = w := by
 go_enter Tryz.func33, Tryz.ntmps33
 go_wp2_with fail
 go_ret
 exact ⟨rfl, rfl⟩
theorem isConn_any (n : Int) (w : World) : Calls Tryz.prog 34 #[.int .i64 n] w fun e w' => e = .returned (.bool (decide (0 ≤ n) && decide (n < 16))) ∧ w' = w := by
 by_cases h : 0 ≤ n
 ·go_enter Tryz.func34, Tryz.ntmps34
  go_wp2_with fail
  go_ret
  exact ⟨by simp [h], rfl⟩
 ·go_enter Tryz.func34, Tryz.ntmps34
  go_wp2_with fail
  go_ret
  exact ⟨by rw [decide_eq_false (by omega : ¬ 0 ≤ n)]; rfl, rfl⟩
theorem WireAt.at0 {W : World} {b : Nat} {c : Value} {l m n : Ln} (h : WireAt W b c l m n) : W.cell? ⟨b, 1, none⟩ = some (.int .u64 l.tnt) ∧ W.cell? ⟨b, 2, none⟩ = some (.int .i64 l.role) ∧ W.cell? ⟨b, 3, none⟩ = some (.int .u64 l.till) ∧ W.cell? ⟨b, 4, none⟩ = some (.bool l.known) ∧ W.cell? ⟨b, 5, none⟩ = some (.bool l.closed) ∧ W.cell? ⟨b, 6, none⟩ = some (.string l.left) :=
 ⟨cCc h 1, cCc h 2, cCc h 3, cCc h 4, cCc h 5, cCc h 6⟩
theorem open0 (b : Nat) (c : Value) (l m n : Ln) (w : World) (h : WireAt w b c l m n) : CR 12 #[.pointer (some ⟨b, 0, none⟩), .int .i64 0] w (.bool (!l.closed)) := by
 obtain ⟨-, -, -, -, c4, -⟩ := h.at0
 have HN := Lib.hid fun V => wnone_some ⟨b, 0, none⟩ V
 have HI := Lib.hid fun V => isConn_any 0 V
 clear h
 go_enter Tryz.func12, Tryz.ntmps12
 go_wp2_with fail
 refine (HN.out _).mono ?_
 rintro e w1 ⟨rfl, rfl⟩
 go_wp2_with fail
 refine (HI.out _).mono ?_
 rintro e w2 ⟨rfl, rfl⟩
 go_wp2_with fail
 go_ret
 exact ⟨rfl, Below.refl _ _⟩
theorem WireAt.at1 {W : World} {b : Nat} {c : Value} {l m n : Ln} (h : WireAt W b c l m n) : W.cell? ⟨b, 7, none⟩ = some (.int .u64 m.tnt) ∧ W.cell? ⟨b, 8, none⟩ = some (.int .i64 m.role) ∧ W.cell? ⟨b, 9, none⟩ = some (.int .u64 m.till) ∧ W.cell? ⟨b, 10, none⟩ = some (.bool m.known) ∧ W.cell? ⟨b, 11, none⟩ = some (.bool m.closed) ∧ W.cell? ⟨b, 12, none⟩ = some (.string m.left) :=
 ⟨cCc h 7, cCc h 8, cCc h 9, cCc h 10, cCc h 11, cCc h 12⟩
theorem open1 (b : Nat) (c : Value) (l m n : Ln) (w : World) (h : WireAt w b c l m n) : CR 12 #[.pointer (some ⟨b, 0, none⟩), .int .i64 1] w (.bool (!m.closed)) := by
 obtain ⟨-, -, -, -, c4, -⟩ := h.at1
 have HN := Lib.hid fun V => wnone_some ⟨b, 0, none⟩ V
 have HI := Lib.hid fun V => isConn_any 1 V
 clear h
 go_enter Tryz.func12, Tryz.ntmps12
 go_wp2_with fail
 refine (HN.out _).mono ?_
 rintro e w1 ⟨rfl, rfl⟩
 go_wp2_with fail
 refine (HI.out _).mono ?_
 rintro e w2 ⟨rfl, rfl⟩
 go_wp2_with fail
 go_ret
 exact ⟨rfl, Below.refl _ _⟩
end Go.Proofs.YtpklkhgnjbopnaaGreatDoor
namespace Go.Proofs.YtpklkhgnjbopnaaGreatDoor
open Go Go.RowKit Go.Shelf
theorem WireAt.go {W W' : World} {b : Nat} {c : Value} {l m n : Ln} (h : WireAt W b c l m n) (hb : Below W.heap.size W W') : WireAt W' b c l m n := known hb (Nat.le_refl _) h
set_option maxRecDepth 100000 in
set_option maxHeartbeats 1000000 in
theorem answer_ask0 (b : Nat) (cv : Value) (l m n : Ln) (s : ByteArray) (q : Rq) (fm ff : Addr) (w : World) (hs : s.size < 4294967281) (hE : ∀ W, Below w.heap.size w W → GF fm ff W) (hq : msgOf s.data.toList = .ask q) (h : WireAt w b cv l m n) (hk : l.known = false) :
  CR 38 #[.pointer (some ⟨b, 0, none⟩), .pointer (some ⟨b, 1, none⟩), .string s] w (.agg #[.int .i64 201, .int .u64 0, .slice none 0 0, .slice none 0 0]) := by
 obtain ⟨W, hW, hX, hB, hsz⟩ := boxes1 w #[.int .i64 0, .int .u64 0, .slice none 0 0, .slice none 0 0] 60
 have hM := message_any s fm ff hs W (fun V hV => hE V (hB.trans (hV.mono hB.size)))
 rw [hq] at hM
 have HM := Lib.hid hM
 have HF : Hid (∀ w1, Below W.heap.size W w1 → ∀ A t, (w1.alloc (.cells A t)).cell? ⟨b, 4, none⟩ = some (.bool false) ∧ (w1.alloc (.cells A t)).heap[w.heap.size]? = some (.cells #[.int .i64 0, .int .u64 0, .slice none 0 0, .slice none 0 0] 60 (0, 0)) ∧ Below w.heap.size w (w1.alloc (.cells A t))) := fun w1 hb A t => by
  have hb2 : Below W.heap.size W (w1.alloc (.cells A t)) := hb.alloc hb.size _
  have h4 := (h.go (hB.trans (hb2.mono hB.size))).at0.2.2.2.1
  rw [hk] at h4
  exact ⟨h4, known hb2 (Nat.le_refl _) hX, hB.trans (hb2.mono hB.size)⟩
 clear hM hE hq h hk hX hB hs
 go_enter Tryz.func38, Tryz.ntmps38
 go_wp2_with fail
 refine HM.out.mono ?_
 rintro e w1 ⟨⟨ia, ic, ta, tc, rfl, -, -⟩, hb⟩
 have hA1 : ∀ w, (Instr.typeAssert (.iface 152 (.agg (rqV q ia ic ta tc))) 147 150 true).run Tryz.prog w = .ok (.tuple #[.agg #[.int .u64 0, .string ⟨#[]⟩], .bool false]) w := fun w => by kernel_rfl
 have hA2 : ∀ w, (Instr.typeAssert (.iface 152 (.agg (rqV q ia ic ta tc))) 147 152 true).run Tryz.prog w = .ok (.tuple #[.agg (rqV q ia ic ta tc), .bool true]) w := fun w => by kernel_rfl
 unfold rqV at hA1 hA2 ⊢
 obtain ⟨k4, hX, hB2⟩ := HF.out w1 hb (rqV q ia ic ta tc) 152
 obtain ⟨V, hV⟩ : ∃ V, w1.alloc (.cells (rqV q ia ic ta tc) 152) = V := ⟨_, rfl⟩
 unfold rqV at hV
 rw [show w1.alloc (.cells (rqV q ia ic ta tc) 152) = V from hV] at k4 hX hB2
 obtain ⟨x0, x1, x2, x3⟩ := cl4 hX
 have f0 : V.frozen? ⟨w.heap.size, 0, none⟩ = false := cFz hX 0
 obtain ⟨V1, hV1⟩ : ∃ V1, V.setCell ⟨w.heap.size, 0, none⟩ (.int .i64 201) = V1 := ⟨_, rfl⟩
 have hX1 : V1.heap[w.heap.size]? = some (.cells #[.int .i64 201, .int .u64 0, .slice none 0 0, .slice none 0 0] 60 (0, 0)) := by rw [← hV1]; exact hSk hX _
 obtain ⟨z0, z1, z2, z3⟩ := cl4 hX1
 have f1 : V1.frozen? ⟨w.heap.size, 1, none⟩ = false := cFz hX1 1
 have f2 : V1.frozen? ⟨w.heap.size, 2, none⟩ = false := cFz hX1 2
 have f3 : V1.frozen? ⟨w.heap.size, 3, none⟩ = false := cFz hX1 3
 have s1 : V1.setCell ⟨w.heap.size, 1, none⟩ (.int .u64 0) = V1 := set_same hX1 rfl
 have s2 : V1.setCell ⟨w.heap.size, 2, none⟩ (.slice none 0 0) = V1 := set_same hX1 rfl
 have s3 : V1.setCell ⟨w.heap.size, 3, none⟩ (.slice none 0 0) = V1 := set_same hX1 rfl
 have HB : Hid (Below w.heap.size w V1) := by rw [Hid, ← hV1]; exact hB2.setCell (p := ⟨w.heap.size, 0, none⟩) (Nat.le_refl _) _
 clear hb HM HF hX hB2 hX1
 go_wp2_with fail
 exact bodyPost_ret (v := .agg #[.int .i64 201, .int .u64 0, .slice none 0 0, .slice none 0 0]) (by simp [results, Tryz.results38, go_sem, z0, z1, z2, z3]) rfl ⟨rfl, HB.out⟩
end Go.Proofs.YtpklkhgnjbopnaaGreatDoor
namespace Go.Proofs
open Go.Shelf
def Tryz.laysPu25_ren : Go.Shelf.Ren := ⟨fun | 25 => 76 | n => n, fun | 0 => 0 | 3 => 3 | 4 => 4 | 5 => 5 | 9 => 9 | 37 => 84 | 47 => 154 | n => n, fun | n => n⟩
theorem Tryz.laysPu25 : Go.Proofs.LaysPu.n25 Tryz.prog Tryz.laysPu25_ren := {
 mixed := by kernel_rfl
 f25 := Tryz.func76.trans (congrArg some (by kernel_rfl))
 t0 := by kernel_rfl
 a0 := fun w => by kernel_rfl
 z0 := fun w => by kernel_rfl
 v0 := fun w => by kernel_rfl
 i0 := by kernel_rfl
 t3 := by kernel_rfl
 a3 := fun w => by kernel_rfl
 z3 := fun w => by kernel_rfl
 v3 := fun w => by kernel_rfl
 i3 := by kernel_rfl
 t4 := by kernel_rfl
 a4 := fun w => by kernel_rfl
 z4 := fun w => by kernel_rfl
 v4 := fun w => by kernel_rfl
 i4 := by kernel_rfl
 t5 := by kernel_rfl
 a5 := fun w => by kernel_rfl
 z5 := fun w => by kernel_rfl
 v5 := fun w => by kernel_rfl
 i5 := by kernel_rfl
 t9 := by kernel_rfl
 a9 := fun w => by kernel_rfl
 z9 := fun w => by kernel_rfl
 v9 := fun w => by kernel_rfl
 i9 := by kernel_rfl
 t37 := by kernel_rfl
 a37 := fun w => by kernel_rfl
 z37 := fun w => by kernel_rfl
 v37 := fun w => by kernel_rfl
 i37 := by kernel_rfl
 t47 := by kernel_rfl
 a47 := fun w => by kernel_rfl
 z47 := fun w => by kernel_rfl
 v47 := fun w => by kernel_rfl
 i47 := by kernel_rfl }
end Go.Proofs
namespace Go.Proofs.YtpklkhgnjbopnaaGreatDoor
open Go Go.RowKit Go.Shelf
theorem Clone_any (s : ByteArray) (w : World) (hs : s.size ≤ 281474976710656) : CR 40 #[.string s] w (.string s) := by
 have HC := Lib.hid (AnyPu.stringslite_Clone Tryz.laysPu25 s w hs)
 go_enter Tryz.func40, Tryz.ntmps40
 go_wp2_with fail
 refine HC.out.mono ?_
 rintro e w1 ⟨rfl, hb⟩
 have HB := Lib.hid hb
 clear hb
 go_wp2_with fail
 go_ret
 exact ⟨rfl, HB.out⟩
end Go.Proofs.YtpklkhgnjbopnaaGreatDoor
namespace Go.Proofs.YtpklkhgnjbopnaaGreatDoor
open Go Go.RowKit Go.Shelf
theorem grant_New_any (w : World) : Calls Tryz.prog 81 #[] w fun e w' => e = .returned (.agg #[.int .u64 1, .slice none 0 0]) ∧ Below w.heap.size w w' := by
 go_enter Tryz.func81, Tryz.ntmps81
 go_wp2_with fail
 exact bodyPost_ret (v := .agg #[.int .u64 1, .slice none 0 0]) (by simp [results, Tryz.results81, go_sem]) rfl ⟨rfl, (Below.refl _ _).alloc (Nat.le_refl _) _⟩
end Go.Proofs.YtpklkhgnjbopnaaGreatDoor

/- Package frame: All, Read. Printed by gen_wu.py. Package wire: the wire in memory; New, Open, close. Printed by gen_wq.py. Package wire: answer to an ask of nobody. strings.Clone of the shelf, laid at this program by hand. Package wire: Feed of nobody's ask. Package wire: close, Feed of what is no frame. Printed by gen_wz.py. Package aviarylaw20: shown. -/
import Derived.Shelf.Pu.Clone
import Derived.Test.YtpklkhgnjbopnaaGreatDoorVWtn
namespace Go.Proofs.YtpklkhgnjbopnaaGreatDoor
open Go Go.RowKit Go.Shelf
attribute [local go_sem] Oper.semAt_some
theorem wp_rangeE2 {α : Type} {P : Program} {g : Operand} {ps : Array Tmp} {assign body : Code} {Q : Exit → Act → World → Prop} {a : Act} {w : World} (s1 s2 : Nat) (f : α → Value)
  {gf : Nat} {lb : Array Value} (hg : a.eval g = .func (.func gf) #[] lb) (eg : ∀ args w, (callFunc gf args).run P w = .ok (.enter gf args) w)
  {encs : α → Array Value} {Kp : World → World → Prop} {Bs : Nat} {Nx : List α → α → World → Prop} {Fin Pre : List α → Prop} (hseq : SeqStopsE P gf lb encs Kp Bs Nx Fin Pre w) (hNX : OwnFrom w.heap.size (fun (p : List α × α) W => Nx p.1 p.2 W)) (hBs : Bs < w.heap.size)
  (hKt : ∀ {A B C : World}, Kp A B → Kp B C → Kp A C) (hKb : ∀ (W : World) (l : Nat) (o o' : Obj), w.heap.size ≤ l → W.heap[l]? = some o → o.isCells = false → o.isWalk = false → Kp W (W.putObj l o')) (hps : ∀ x, (encs x).size = ps.size)
  (I : List α → World → Prop) (Ix : Code → List α → World → Prop) (hIX : OwnX w.heap.size Bs I) (hIxX : ∀ c, OwnX w.heap.size Bs (Ix c)) (h0 : I [] w) (box : α → Obj) (hKa : ∀ (W : World) (o : Obj), Kp W (W.alloc o))
  (hassign : ∀ (l : Nat) (x : α) (W : World) (K : Act → World → Prop), K { tmps := (((ps.zip (encs x)).foldl (fun t (p, v) => t.setIfInBounds p v) a.tmps).setIfInBounds s1 (.pointer (some ⟨W.heap.size, 0, none⟩))).setIfInBounds s2 (f x), defers := [] } (W.alloc (box x)) →
   assign.wpIn (Fence.wide.inRound l) 7 P (Exit.then K (fun _ _ _ => False)) { tmps := (ps.zip (encs x)).foldl (fun t (p, v) => t.setIfInBounds p v) a.tmps, defers := [] } W)
  (hbody : ∀ (l : Nat) (pre : List α) (x : α) (n : Nat) (W : World), I pre W → Nx pre x W → w.heap.size + 2 ≤ n → W.heap[n]? = some (box x) → body.wpIn (Fence.wide.inRound l) 7 P (ownPostG w.heap.size Kp I Ix (pre ++ [x]) W) { tmps := (((ps.zip (encs x)).foldl (fun t (p, v) => t.setIfInBounds p v) a.tmps).setIfInBounds s1 (.pointer (some ⟨n, 0, none⟩))).setIfInBounds s2 (f x), defers := [] } W)
  (hdone : ∀ (D : Nat) (xs : List α) (W : World), w.heap.size ≤ D → Fin xs → I xs W → W.heap[D]? = some (.deferred (some [])) → Q .normal { a with defers := { target := .collected D, args := #[] } :: a.defers } W)
  (hstop : ∀ (D : Nat) (c : Code) (pre : List α) (W : World), w.heap.size ≤ D → Pre pre → Ix c pre W → W.heap[D]? = some (.deferred (some [])) → c.wp P Q { a with defers := { target := .collected D, args := #[] } :: a.defers } W) :
  (Code.rangeFunc g ps assign body).wp P Q a w :=
 wp_rangeE hg eg hseq hNX hBs (fun h k => hKt h k) hKb hps I Ix hIX hIxX h0 box hKa (fun x k => { tmps := (((ps.zip (encs x)).foldl (fun t (p, v) => t.setIfInBounds p v) a.tmps).setIfInBounds s1 (.pointer (some ⟨k, 0, none⟩))).setIfInBounds s2 (f x), defers := [] }) hassign hbody hdone hstop
def encTx (s : ByteArray) : List Value := [.string s]
theorem und_txs : Tryz.prog.underlying 80 = some (.slice 9) := by kernel_rfl
theorem info_tx : (Tryz.prog.info? 9).map (fun i => (i.zero, i.size, i.bytes)) = some (some (.string ⟨#[]⟩), 1, 16) := by kernel_rfl
theorem flat_tx (l : List ByteArray) : l.flatMap encTx = l.map Value.string := by
 induction l with
 | nil => rfl
 | cons x xs ih => rw [List.flatMap_cons, ih]; rfl
theorem owns_tx {w : World} {base e size n : Nat} {v : Value} {xs : List Value} (h : w.ownsRow base e size v n xs) : ∃ a cap, v = .slice a n cap := by
 rcases h.2 with ⟨rfl, rfl⟩ | ⟨g, cap, cur, rfl, _⟩
 ·exact ⟨none, 0, rfl⟩
 ·exact ⟨_, cap, rfl⟩
theorem owns_keepX {X Y : World} {row : Option Nat} {n N : Nat} {v : Value} {k : Nat} {l : List Value} (h : X.ownsRow (n + 6) 9 1 v k l) (hg : X.grownBy Y row) (hr : ∀ r, row = some r → r = n + 3 ∨ (N ≤ r ∧ ∃ o : Obj, X.heap[r]? = some o ∧ o.isCells = false)) : Y.ownsRow (n + 6) 9 1 v k l := by
 refine h.kept hg ?_
 rcases h.2 with ⟨rfl, _⟩ | ⟨g, cap, cur, rfl, hgb, hgg, _⟩
 ·exact .inl rfl
 ·refine .inr (fun e => ?_)
  have e' : row = some g := by rw [← e]; rfl
  rcases hr g e' with h | ⟨_, o, ho, hc⟩
  ·omega
  ·rw [hgg] at ho; cases ho; cases hc
def FrB (t : ByteArray) (no : Int) (l : List ByteArray) (n : Nat) (w : World) (v : Value) (W : World) : Prop :=
 Boxed W n 80 v ∧ W.ownsRow (n + 6) 9 1 v l.length (l.map Value.string) ∧ Boxed W (n + 1) 9 (.string t) ∧ Boxed W (n + 2) 27 (.int .i64 no) ∧ Below n w W
theorem frB_own {t : ByteArray} {no : Int} {l : List ByteArray} {n N : Nat} {w : World} (hn : n ≤ w.heap.size) (hN : n ≤ N) {v : Value} {X Y : World} {row : Option Nat} (h : FrB t no l n w v X) (hg : X.grownBy Y row) (hr : ∀ r, row = some r → r = n + 3 ∨ (N ≤ r ∧ ∃ o : Obj, X.heap[r]? = some o ∧ o.isCells = false)) : FrB t no l n w v Y := by
 obtain ⟨h1, h2, h3, h4, h6⟩ := h
 exact ⟨ownX_box N (n + 3) n _ (fun _ : Unit => v) (by omega) () X Y row h1 hg hr, owns_keepX h2 hg hr, ownX_box N (n + 3) (n + 1) _ (fun _ : Unit => .string t) (by omega) () X Y row h3 hg hr, ownX_box N (n + 3) (n + 2) _ (fun _ : Unit => .int .i64 no) (by omega) () X Y row h4 hg hr, ownX_below hn hN (by omega) () X Y row h6 hg hr⟩
theorem FrB.go {t : ByteArray} {no : Int} {l : List ByteArray} {n : Nat} {w W W' : World} {v : Value} (h : FrB t no l n w v W) (hb : Below W.heap.size W W') (hn : n ≤ W.heap.size) : FrB t no l n w v W' := by
 obtain ⟨h1, h2, h3, h4, h5⟩ := h
 exact ⟨bBoxed hb h1.lt h1, owns_of_blocks h2 (fun j _ hj => hb.block j hj), bBoxed hb h3.lt h3, bBoxed hb h4.lt h4, h5.trans (hb.mono hn)⟩
def FrI (s : ByteArray) (n : Nat) (w : World) (pre : List Told) (W : World) : Prop := (∀ x ∈ pre, x.err = .nilIface) ∧ Pfx s.data.toList (pre.map (·.body.data.toList)) (lastOf s pre).data.toList ∧ pre.length + (lastOf s pre).size ≤ s.size ∧ ∃ v, FrB s 20 (pre.map (·.body)) n w v W
def FrX (s : ByteArray) (n : Nat) (w : World) (c : Code) (_ : List Told) (W : World) : Prop := c = .exit 0 ∧ ∃ v l t no, Frames s.data.toList (l.map (·.data.toList)) t.data.toList no ∧ FrB t no l n w v W
theorem frI_own {s : ByteArray} {n N : Nat} {w : World} (hn : n ≤ w.heap.size) (hN : n ≤ N) : OwnX N (n + 3) (FrI s n w) := fun pre X Y row hs hg hr => by
 obtain ⟨h1, h2, h3, v, h4⟩ := hs
 exact ⟨h1, h2, h3, v, frB_own hn hN h4 hg hr⟩
theorem frX_own {s : ByteArray} {n N : Nat} {w : World} (hn : n ≤ w.heap.size) (hN : n ≤ N) (c : Code) : OwnX N (n + 3) (FrX s n w c) := fun pre X Y row hs hg hr => by
 obtain ⟨h1, v, l, t, no, h2, h4⟩ := hs
 exact ⟨h1, v, l, t, no, h2, frB_own hn hN h4 hg hr⟩
theorem nextOf_own {u : ByteArray} {B : Nat} {x : Told} {X Y : World} {row : Option Nat} (hs : NextOf u x X) (hg : X.grownBy Y row) (hr : ∀ r, row = some r → B ≤ r ∧ ∃ o : Obj, X.heap[r]? = some o ∧ o.isCells = false) : NextOf u x Y := by
 unfold NextOf at hs ⊢
 cases ho : rdF u.data.toList with
 | got b r => rw [ho] at hs; exact hs
 | err no =>
  rw [ho] at hs
  obtain ⟨h1, h2, fb, h3, h4⟩ := hs
  refine ⟨h1, h2, fb, h3, (hg.block _ (Array.getElem?_eq_some_iff.1 h4).1 (fun e => ?_)).trans h4⟩
  obtain ⟨_, o, ho, hc⟩ := hr fb e.symm
  rw [h4] at ho
  cases ho
  cases hc
theorem nx_own (s : ByteArray) (B : Nat) : OwnFrom B (fun (p : List Told × Told) W => NxE s p.1 p.2 W) := fun _ _ _ _ hs hg hr => nextOf_own (B := B) hs hg hr
def AllP (s : ByteArray) (w : World) (e : Ending) (w' : World) : Prop := ∃ (l : List ByteArray) (t : ByteArray) (no : Int) (a : Option Addr) (cap : Nat), e = .returned (.tuple #[.slice a l.length cap, .string t, .int .i64 no]) ∧ Frames s.data.toList (l.map (·.data.toList)) t.data.toList no ∧ SlE encTx 1 w'.heap.size w' a l.length l ∧ Below w.heap.size w w'
theorem appKeepsT {W w1 : World} {B base e size n : Nat} {v : Value} {xs : List Value} (hown : W.ownsRow base e size v n xs) (hz : W.heap.size ≤ w1.heap.size) (h6 : ∀ k, k < W.heap.size → some k ≠ v.ownBlock → w1.heap[k]? = W.heap[k]?) : KeepsFrom B W w1 :=
 ⟨hz, fun k o _ hk ho => by
  refine (h6 k (Array.getElem?_eq_some_iff.1 hk).1 (fun e => ?_)).trans hk
  rcases hown.2 with ⟨rfl, _⟩ | ⟨g, cap, cur, rfl, _, hg, _⟩
  ·cases e
  ·have : k = g := by cases e; rfl
   subst this
   rw [hg] at hk; cases hk; cases ho⟩
attribute [-go_sem] Builtin.append_
set_option maxRecDepth 100000 in
set_option maxHeartbeats 4000000 in
theorem All_any (s : ByteArray) (fm ff : Addr) (w : World) (hz : s.size < 4294967281) (hE : GF fm ff w) (hT : Fr.GT w) : Calls Tryz.prog 35 #[.string s] w (AllP s w) := by
 refine calls_marks Tryz.func35 rfl ?_
 simp only [Tryz.ntmps35, List.size_toArray, List.length_cons, List.length_nil, Nat.reduceAdd, Nat.reduceSub, Array.replicate_succ, Array.replicate_zero, List.push_toArray, List.append_toArray, List.nil_append, List.cons_append]
 go_wp2_with fail
 go_step3
 go_wp2_with fail
 go_step3
 go_wp2_with (go_at_call 71; refine (frames_any _ _).mono ?_; rintro e w' ⟨rfl, rfl⟩)
 obtain ⟨X, hX, b0, b1, b2, hB3, hs3⟩ := box3 w (.slice none 0 0) 80 (.string s) 9 (.int .i64 20) 27
 rw [hX]
 clear hX
 obtain ⟨W0, hW0, hd, hB4, hs4⟩ := boxes1 X #[.string s] 9
 rw [hW0]
 rw [hs3] at hd hs4
 have b0' := bBoxed hB4 b0.lt b0
 have b1' := bBoxed hB4 b1.lt b1
 have b2' := bBoxed hB4 b2.lt b2
 have hB0 : Below w.heap.size w W0 := hB3.trans (hB4.mono hB3.size)
 have hGT := hT
 clear hW0 b0 b1 b2 hB3 hB4 hs3
 refine wp_rangeE2 8 9 Told.err (gf := 98) (lb := #[.pointer (some ⟨w.heap.size + 3, 0, none⟩)]) rfl (enters_of Tryz.func98 (by kernel_rfl) rfl)
  (each_stops (w.heap.size + 3) s fm ff w W0 hE hB0 (by omega) hd hz) (nx_own s _) (by omega) (fun h k => h.trans k) (fun W l o o' hl ho hc hw => ?kb) (fun _ => rfl) (FrI s w.heap.size w) (FrX s w.heap.size w) (frI_own (Nat.le_refl _) (by omega)) (frX_own (Nat.le_refl _) (by omega))
  ⟨(fun x hx => by cases hx), (fun l t no h => h), (by show 0 + s.size ≤ _; omega), _, b0', World.ownsRow_nil _ _ _ _, b1', b2', hB0⟩ (fun x => .cells #[.string x.body, .string x.left] 145 (0, 0)) (fun W o => ?ka) ?assign ?body ?done ?stop
 case kb => exact ⟨rfl, rfl, rfl, by simp [World.putObj], fun k hk hq => World.putObj_heap_other (by omega)⟩
 case ka => exact Kept.of ((Below.refl _ W).alloc (Nat.le_refl _) _)
 case assign =>
  rintro l x W K hK
  simp only [Told.enc, List.zip_toArray, List.zip_cons_cons, List.zip_nil_right, List.size_toArray, List.foldl_toArray', List.foldl_cons, List.foldl_nil, List.setIfInBounds_toArray, List.set_cons_succ, List.set_cons_zero] at hK ⊢
  gi_wp2_with fail
  exact hK
 case body =>
  rintro lo pre x nb W ⟨hok, hP, hL, v, hAB⟩ hnx hnb hbx
  simp only [Told.enc, List.zip_toArray, List.zip_cons_cons, List.zip_nil_right, List.size_toArray, List.foldl_toArray', List.foldl_cons, List.foldl_nil, List.setIfInBounds_toArray, List.set_cons_succ, List.set_cons_zero]
  obtain ⟨va, vc, rfl⟩ := owns_tx hAB.2.1
  have hlt := (Array.getElem?_eq_some_iff.1 hbx).1
  unfold NxE NextOf at hnx
  obtain ⟨xb, xl, xe⟩ := x
  obtain ⟨o, ho⟩ : ∃ o, rdF (lastOf s pre).data.toList = o := ⟨_, rfl⟩
  rw [ho] at hnx
  clear hd b0' b1' b2' hB0
  cases o with
  | got bd r =>
   obtain ⟨e1, e2, e3⟩ := hnx
   dsimp only at e1 e2 e3 hbx ⊢
   subst e1 e2 e3
   have hr := rdF_len ho
   have hlen : (lastOf s pre).data.toList.length = (lastOf s pre).size := Array.length_toList
   have hrz : (⟨r.toArray⟩ : ByteArray).size = r.length := List.size_toArray
   have p0 : W.cell? ⟨nb, 0, none⟩ = some (.string ⟨bd.toArray⟩) := cCc hbx 0
   have z0 := hAB.1.cell
   obtain ⟨g, cap', w4, hap, hown4, hB4, hz4, hbl4, hoth4⟩ := append_one Tryz.prog 80 und_txs info_tx rfl (by decide) hAB.2.1 hAB.2.2.2.2 (by omega) (by omega) [.string ⟨bd.toArray⟩] rfl (by simp [Value.oneCell']) (by rw [List.length_map]; omega) (by decide)
   have e0 : Boxed w4 w.heap.size 80 _ := (hbl4 _ (by omega)).trans hAB.1
   have z1 := e0.cell
   have z2 := e0.frozen
   simp only [List.length_map] at z0 z1 hap hown4
   have HPO := Lib.hid (And.intro hok (And.intro hP (And.intro hL (And.intro hAB (And.intro ho (And.intro hr (And.intro hlen (And.intro hrz (And.intro hown4 (And.intro hB4 (And.intro hz4 (And.intro hbl4 (And.intro hoth4 e0)))))))))))))
   clear hok hP hL hAB ho hr hlen hrz hown4 hB4 hz4 hbl4 hoth4 e0
   gi_wp2_with (gi_at_builtin; refine wpIn_append_eq rfl _ _ _ rfl rfl rfl hap ?_)
   obtain ⟨hok, hP, hL, hAB, ho, hr, hlen, hrz, hown4, hB4, hz4, hbl4, hoth4, e0⟩ := HPO.out
   have hFB : FrB s 20 (pre.map (·.body) ++ [⟨bd.toArray⟩]) w.heap.size w (.slice (some ⟨g, 0, none⟩) (pre.length + 1) cap') (w4.setCell ⟨w.heap.size, 0, none⟩ (.slice (some ⟨g, 0, none⟩) (pre.length + 1) cap')) := by
    refine ⟨e0.set _, ?_, ?_, ?_, hB4.setCell (p := ⟨w.heap.size, 0, none⟩) (Nat.le_refl _) _⟩
    ·have hq := ownsRow_setCell_below hown4 (a := ⟨w.heap.size, 0, none⟩) (by show w.heap.size < _; omega) (.slice (some ⟨g, 0, none⟩) (pre.length + 1) cap')
     simpa using hq
    ·exact (Below.heap_setCell _ _ _ _ (by show w.heap.size + 1 ≠ w.heap.size; omega)).trans ((hbl4 _ (by omega)).trans hAB.2.2.1)
    ·exact (Below.heap_setCell _ _ _ _ (by show w.heap.size + 2 ≠ w.heap.size; omega)).trans ((hbl4 _ (by omega)).trans hAB.2.2.2.1)
   refine ⟨(appKeepsT hAB.2.1 (by omega) hoth4).trans ((KeepsOthers.setCell _ _ _).from _), Kept.set ⟨hB4.os.trans hAB.2.2.2.2.os.symm, hB4.tape.trans hAB.2.2.2.2.tape.symm, hB4.output.trans hAB.2.2.2.2.output.symm, by omega, fun k hk hq => hbl4 k (by omega)⟩ (fun _ => by omega) 0 _, ?_, ?_, ?_, .slice (some ⟨g, 0, none⟩) (pre.length + 1) cap', ?_⟩
   ·intro x hx
    rcases List.mem_append.1 hx with h | h
    ·exact hok x h
    ·rw [List.mem_singleton.1 h]
   ·rw [lastOf_snoc, List.map_append]
    exact hP.snoc ho
   ·rw [lastOf_snoc, List.length_append]
    show pre.length + 1 + (⟨r.toArray⟩ : ByteArray).size ≤ _
    omega
   ·rw [List.map_append]
    exact hFB
  | err no =>
   obtain ⟨e1, e2, e3⟩ := hnx
   dsimp only at e1 e2 e3 hbx ⊢
   subst e1 e2
   obtain ⟨D, hD⟩ : ∃ D, W.drew = D := ⟨_, rfl⟩
   have hDh : ∀ k : Nat, D.heap[k]? = W.heap[k]? := fun k => by rw [← hD]; rfl
   have hDz : D.heap.size = W.heap.size := by rw [← hD]; rfl
   have hBD : Below w.heap.size w D := by rw [← hD]; exact hAB.2.2.2.2.drew
   have hABD : FrB s 20 (pre.map (·.body)) w.heap.size w (.slice va (pre.map (·.body)).length vc) D := hAB.go (by rw [← hD]; exact (Below.refl _ W).drew) hAB.2.2.2.2.size
   have hC := Fr.errno_fault xe no D (hBD.cell (p := ⟨0, 0, none⟩) (by have := hE.lt; show 0 < _; omega) |>.trans hT) (by obtain ⟨fb, h1, h2⟩ := e3; exact ⟨fb, h1, (hDh fb).trans h2⟩)
   have hbxD : D.heap[nb]? = some (.cells #[.string ⟨#[]⟩, .string (lastOf s pre)] 145 (0, 0)) := (hDh nb).trans hbx
   have p0 : D.cell? ⟨nb, 1, none⟩ = some (.string (lastOf s pre)) := cCc hbxD 1
   have HQ : Hid (∀ x1, Below D.heap.size D x1 → x1.cell? ⟨nb, 1, none⟩ = some (.string (lastOf s pre)) ∧ (x1.cell? ⟨w.heap.size + 1, 0, none⟩ = some (.string s) ∧ x1.frozen? ⟨w.heap.size + 1, 0, none⟩ = false) ∧ ((x1.setCell ⟨w.heap.size + 1, 0, none⟩ (.string (lastOf s pre))).cell? ⟨w.heap.size + 1 + 1, 0, none⟩ = some (.int .i64 20) ∧ (x1.setCell ⟨w.heap.size + 1, 0, none⟩ (.string (lastOf s pre))).frozen? ⟨w.heap.size + 1 + 1, 0, none⟩ = false) ∧
     Hid (KeepsFrom W0.heap.size W ((x1.setCell ⟨w.heap.size + 1, 0, none⟩ (.string (lastOf s pre))).setCell ⟨w.heap.size + 1 + 1, 0, none⟩ (.int .i64 no)) ∧ FrX s w.heap.size w (.exit 0) (pre ++ [⟨⟨#[]⟩, lastOf s pre, xe⟩]) ((x1.setCell ⟨w.heap.size + 1, 0, none⟩ (.string (lastOf s pre))).setCell ⟨w.heap.size + 1 + 1, 0, none⟩ (.int .i64 no)))) := fun x1 hb => by
    have h := hABD.go hb hBD.size
    obtain ⟨i1, i2, i3, i4, i5⟩ := h
    have j4 : Boxed (x1.setCell ⟨w.heap.size + 1, 0, none⟩ (.string (lastOf s pre))) (w.heap.size + 2) 27 (.int .i64 20) := i4.other (by omega) _
    refine ⟨cCc (known hb (Nat.le_refl _) hbxD) 1, ⟨i3.cell, i3.frozen⟩, ⟨j4.cell, j4.frozen⟩, ?_, rfl, .slice va (pre.map (·.body)).length vc, pre.map (·.body), lastOf s pre, no, ?_, ?_⟩
    ·refine KeepsFrom.trans (KeepsFrom.trans ?_ ((KeepsOthers.setCell _ _ _).from _)) ((KeepsOthers.setCell _ _ _).from _)
     have hWD : KeepsFrom W0.heap.size W D := by rw [← hD]; exact (KeepsOthers.drew _).from _
     exact hWD.trans (bKeeps hb (Nat.le_refl _))
    ·rw [List.map_map]; exact hP.stop ho
    ·refine ⟨(i1.other (by omega) _).other (by omega) _, ?_, (i3.set _).other (by omega) _, j4.set _, (i5.setCell (p := ⟨w.heap.size + 1, 0, none⟩) (by show w.heap.size ≤ w.heap.size + 1; omega) _).setCell (p := ⟨w.heap.size + 1 + 1, 0, none⟩) (by show w.heap.size ≤ w.heap.size + 1 + 1; omega) _⟩
     exact ownsRow_setCell_below (ownsRow_setCell_below i2 (a := ⟨w.heap.size + 1, 0, none⟩) (by show w.heap.size + 1 < _; omega) _) (a := ⟨w.heap.size + 1 + 1, 0, none⟩) (by show w.heap.size + 1 + 1 < _; omega) _
   obtain ⟨fb, rfl, -⟩ := e3
   have HC := Lib.hid hC
   have HD := Lib.hid hD
   obtain ⟨cur, hcur⟩ : ∃ cur, lastOf s pre = cur := ⟨_, rfl⟩
   rw [hcur] at p0 HQ hbx ⊢
   clear hC hD hDh hDz hBD hABD hbxD hAB hok hP hL ho hcur
   gi_wp2_with fail
   refine wpIn_region_round (F := Fence.wide) rfl (by kernel_rfl) (by kernel_rfl) ?_
   change wpAnyIn _ _ _ _ _ _ _ _ _ (World.drew _)
   rw [HD.out]
   refine wpAnyIn_take (i := 0) (v := ?_) rfl rfl (by kernel_rfl) (by kernel_rfl) (by kernel_rfl) (fun _ _ _ h => h) ⟨Or.inl ⟨by rfl, ?_⟩, fun _ => rfl⟩ ?_
   rotate_left
   ·intro w; go_simp; with_reducible rfl
   refine wpAnyIn_take (i := 2) (v := ?_) rfl rfl (by kernel_rfl) (by kernel_rfl) (by kernel_rfl) (fun _ _ _ h => h) ⟨Or.inl ⟨by rfl, ?_⟩, fun _ => rfl⟩ ?_
   rotate_left
   ·intro w; go_simp; with_reducible rfl
   refine wpAnyIn_ready (rs := [1, 3]) (by kernel_rfl) (by simp) ?_
   refine AllReadyIn.cons rfl (fun K hK => ?_) ?_
   ·go_simp
    refine hK _ _ ?_
    clear hK K
    refine wpAnyIn_ready (rs := [3]) (by kernel_rfl) (by simp) ?_
    refine AllReadyIn.cons rfl (fun K hK => ?_) ?_
    ·go_simp
     refine ⟨trivial, (callsIn_wide.2 HC.out).mono ?_⟩
     rintro e x1 ⟨rfl, hb⟩
     obtain ⟨p1, ⟨q1, q2⟩, ⟨q3, q4⟩, HF⟩ := HQ.out x1 hb
     clear hb
     refine hK _ _ ?_
     clear hK K
     refine wpAnyIn_ready (rs := [4]) (by kernel_rfl) (by simp) ?_
     refine AllReadyIn.cons rfl (fun K hK => ?_) ?_
     ·go_simp
      refine hK _ _ ?_
      clear hK K
      refine wpAnyIn_ready (rs := [5]) (by kernel_rfl) (by simp) ?_
      refine AllReadyIn.cons rfl (fun K hK => ?_) ?_
      ·go_simp
       refine hK _ _ ?_
       clear hK K
       refine wpAnyIn_done (by kernel_rfl) ?_ _
       gi_wp2_with fail
       exact HF.out
      exact AllReadyIn.nil
     exact AllReadyIn.nil
    exact AllReadyIn.nil
   refine AllReadyIn.cons rfl (fun K hK => ?_) ?_
   ·go_simp
    refine ⟨trivial, (callsIn_wide.2 HC.out).mono ?_⟩
    rintro e x1 ⟨rfl, hb⟩
    obtain ⟨p1, ⟨q1, q2⟩, ⟨q3, q4⟩, HF⟩ := HQ.out x1 hb
    clear hb
    refine hK _ _ ?_
    clear hK K
    refine wpAnyIn_ready (rs := [1]) (by kernel_rfl) (by simp) ?_
    refine AllReadyIn.cons rfl (fun K hK => ?_) ?_
    ·go_simp
     refine hK _ _ ?_
     clear hK K
     refine wpAnyIn_ready (rs := [4]) (by kernel_rfl) (by simp) ?_
     refine AllReadyIn.cons rfl (fun K hK => ?_) ?_
     ·go_simp
      refine hK _ _ ?_
      clear hK K
      refine wpAnyIn_ready (rs := [5]) (by kernel_rfl) (by simp) ?_
      refine AllReadyIn.cons rfl (fun K hK => ?_) ?_
      ·go_simp
       refine hK _ _ ?_
       clear hK K
       refine wpAnyIn_done (by kernel_rfl) ?_ _
       gi_wp2_with fail
       exact HF.out
      exact AllReadyIn.nil
     exact AllReadyIn.nil
    exact AllReadyIn.nil
   exact AllReadyIn.nil
 case done =>
  rintro D xs W hD ⟨pre, x, rfl, hx⟩ ⟨hok, -⟩ hK
  exact absurd (hok x (by simp)) hx
 case stop =>
  rintro D c pre W hD - ⟨rfl, v, l, t, no, hF, hAB⟩ hK
  refine wp_exit ?_
  unfold Exit.inBlock
  dsimp only
  rw [if_pos rfl]
  obtain ⟨va, vc, rfl⟩ := owns_tx hAB.2.1
  have z0 := hAB.1.cell
  have z1 := hAB.2.2.1.cell
  have z2 : W.cell? ⟨w.heap.size + 1 + 1, 0, none⟩ = some (.int .i64 no) := hAB.2.2.2.1.cell
  have HO := Lib.hid (And.intro hF hAB)
  have HK := Lib.hid hK
  clear hF hAB hd b0' b1' b2' hB0 hK
  go_wp2_with fail
  go_quiet (fail)
  go_wp2_with fail
  rw [Exit.noGoto_ret]
  have hN : Below W.heap.size W (W.drewN nq) := bDr (Below.refl _ _) nq
  have hK := known hN (Nat.le_refl _) HK.out
  have hAB := HO.out.2.go hN HO.out.2.2.2.2.2.size
  have hown := ownsRow_putObj hAB.2.1 (.deferred none) hK rfl
  rw [← flat_tx] at hown
  obtain ⟨a, cap, hv, hS, -⟩ := slC_of_owns (enc := encTx) (fun _ => rfl) hown
  cases hv
  refine marks_ret1 hK (results_tmp3 rfl _ _ _) ⟨l, t, no, va, vc, rfl, HO.out.1, hS.1, bPutD hAB.2.2.2.2 (by omega) hK⟩
theorem Read_any (s : ByteArray) (b r : List UInt8) (fm ff : Addr) (w : World) (hz : s.size < 4294967281) (hE : GF fm ff w) (h : rdF s.data.toList = .got b r) : CR 32 #[.string s] w (.tuple #[.string ⟨b.toArray⟩, .string ⟨r.toArray⟩, .int .i64 0]) := by
 have hR := frRead_any s fm ff w hz hE
 unfold ReadP at hR
 rw [h] at hR
 have HR := Lib.hid hR
 have HN := Lib.hid fun V => Fr.errno_nil V
 clear hR h hE hz
 go_enter Tryz.func32, Tryz.ntmps32
 go_wp2_with fail
 refine HR.out.mono ?_
 rintro e w1 ⟨hb, rfl⟩
 have HB := Lib.hid hb
 clear hb
 go_wp2_with fail
 refine (HN.out _).mono ?_
 rintro e w2 ⟨rfl, hb⟩
 have HB2 : Hid (Below w.heap.size w w2) := HB.out.trans (hb.mono HB.out.size)
 clear hb
 go_wp2_with fail
 go_ret3
 exact ⟨rfl, HB2.out⟩
end Go.Proofs.YtpklkhgnjbopnaaGreatDoor
namespace Go.Proofs.YtpklkhgnjbopnaaGreatDoor
open Go Go.RowKit Go.Shelf
structure Ln where
 tnt : Int
 role : Int
 till : Int
 known : Bool
 closed : Bool
 left : ByteArray
def ln0 : Ln := ⟨0, 0, 0, false, false, ⟨#[]⟩⟩
def lnX : Ln := ⟨0, 0, 0, false, true, ⟨#[]⟩⟩
def wcells (c : Value) (a b d : Ln) : Array Value := #[c, .int .u64 a.tnt, .int .i64 a.role, .int .u64 a.till, .bool a.known, .bool a.closed, .string a.left, .int .u64 b.tnt, .int .i64 b.role, .int .u64 b.till, .bool b.known, .bool b.closed, .string b.left, .int .u64 d.tnt, .int .i64 d.role, .int .u64 d.till, .bool d.known, .bool d.closed, .string d.left, .int .u64 0, .int .i64 0, .int .u64 0, .bool false, .bool false, .string ⟨#[]⟩, .int .u64 0, .int .i64 0, .int .u64 0, .bool false, .bool false, .string ⟨#[]⟩, .int .u64 0, .int .i64 0, .int .u64 0, .bool false, .bool false, .string ⟨#[]⟩, .int .u64 0, .int .i64 0, .int .u64 0, .bool false, .bool false, .string ⟨#[]⟩, .int .u64 0, .int .i64 0, .int .u64 0, .bool false, .bool false, .string ⟨#[]⟩, .int .u64 0, .int .i64 0, .int .u64 0, .bool false, .bool false, .string ⟨#[]⟩, .int .u64 0, .int .i64 0, .int .u64 0, .bool false, .bool false, .string ⟨#[]⟩, .int .u64 0, .int .i64 0, .int .u64 0, .bool false, .bool false, .string ⟨#[]⟩, .int .u64 0, .int .i64 0, .int .u64 0, .bool false, .bool false, .string ⟨#[]⟩, .int .u64 0, .int .i64 0, .int .u64 0, .bool false, .bool false, .string ⟨#[]⟩, .int .u64 0, .int .i64 0, .int .u64 0, .bool false, .bool false, .string ⟨#[]⟩, .int .u64 0, .int .i64 0, .int .u64 0, .bool false, .bool false, .string ⟨#[]⟩, .int .u64 0, .int .i64 0, .int .u64 0, .bool false, .bool false, .string ⟨#[]⟩]
def WireAt (W : World) (b : Nat) (c : Value) (l m n : Ln) : Prop := W.heap[b]? = some (.cells (wcells c l m n) 78 (0, 0))
theorem wireNew_any (c : Addr) (w : World) : Calls Tryz.prog 7 #[.pointer (some c)] w fun e w' => e = .returned (.tuple #[.pointer (some ⟨w.heap.size, 0, none⟩), .int .i64 0]) ∧ WireAt w' w.heap.size (.pointer (some c)) ln0 ln0 ln0 ∧ Below w.heap.size w w' := by
 obtain ⟨W, hW, hX, hB, -⟩ := boxes1 w (wcells (.pointer (some c)) ln0 ln0 ln0) 78
 have hz : wcells (.pointer (some c)) ln0 ln0 ln0 = Tryz.zeroCells78.setIfInBounds 0 (.pointer (some c)) := by kernel_rfl
 have HX := Lib.hid hX
 have HB := Lib.hid hB
 rw [hz] at hW
 clear hX hB hz
 go_enter Tryz.func7, Tryz.ntmps7
 go_wp2_with fail
 go_ret2
 exact ⟨rfl, HX.out, HB.out⟩
theorem wnone_some (a : Addr) (w : World) : Calls Tryz.prog 33 #[.pointer (some a)] w fun e w' => e = .returned (.bool false) ∧ w' = w := by
 go_enter Tryz.func33, Tryz.ntmps33
 go_wp2_with fail
 go_ret
 exact ⟨rfl, rfl⟩
theorem isConn_any (n : Int) (w : World) : Calls Tryz.prog 34 #[.int .i64 n] w fun e w' => e = .returned (.bool (decide (0 ≤ n) && decide (n < 16))) ∧ w' = w := by
 by_cases h : 0 ≤ n
 ·go_enter Tryz.func34, Tryz.ntmps34
  go_wp2_with fail
  go_ret
  exact ⟨by simp [h], rfl⟩
 ·go_enter Tryz.func34, Tryz.ntmps34
  go_wp2_with fail
  go_ret
  exact ⟨by rw [decide_eq_false (by omega : ¬ 0 ≤ n)]; rfl, rfl⟩
theorem WireAt.at0 {W : World} {b : Nat} {c : Value} {l m n : Ln} (h : WireAt W b c l m n) : W.cell? ⟨b, 1, none⟩ = some (.int .u64 l.tnt) ∧ W.cell? ⟨b, 2, none⟩ = some (.int .i64 l.role) ∧ W.cell? ⟨b, 3, none⟩ = some (.int .u64 l.till) ∧ W.cell? ⟨b, 4, none⟩ = some (.bool l.known) ∧ W.cell? ⟨b, 5, none⟩ = some (.bool l.closed) ∧ W.cell? ⟨b, 6, none⟩ = some (.string l.left) :=
 ⟨cCc h 1, cCc h 2, cCc h 3, cCc h 4, cCc h 5, cCc h 6⟩
theorem open0 (b : Nat) (c : Value) (l m n : Ln) (w : World) (h : WireAt w b c l m n) : CR 12 #[.pointer (some ⟨b, 0, none⟩), .int .i64 0] w (.bool (!l.closed)) := by
 obtain ⟨-, -, -, -, c4, -⟩ := h.at0
 have HN := Lib.hid fun V => wnone_some ⟨b, 0, none⟩ V
 have HI := Lib.hid fun V => isConn_any 0 V
 clear h
 go_enter Tryz.func12, Tryz.ntmps12
 go_wp2_with fail
 refine (HN.out _).mono ?_
 rintro e w1 ⟨rfl, rfl⟩
 go_wp2_with fail
 refine (HI.out _).mono ?_
 rintro e w2 ⟨rfl, rfl⟩
 go_wp2_with fail
 go_ret
 exact ⟨rfl, Below.refl _ _⟩
theorem WireAt.at1 {W : World} {b : Nat} {c : Value} {l m n : Ln} (h : WireAt W b c l m n) : W.cell? ⟨b, 7, none⟩ = some (.int .u64 m.tnt) ∧ W.cell? ⟨b, 8, none⟩ = some (.int .i64 m.role) ∧ W.cell? ⟨b, 9, none⟩ = some (.int .u64 m.till) ∧ W.cell? ⟨b, 10, none⟩ = some (.bool m.known) ∧ W.cell? ⟨b, 11, none⟩ = some (.bool m.closed) ∧ W.cell? ⟨b, 12, none⟩ = some (.string m.left) :=
 ⟨cCc h 7, cCc h 8, cCc h 9, cCc h 10, cCc h 11, cCc h 12⟩
theorem open1 (b : Nat) (c : Value) (l m n : Ln) (w : World) (h : WireAt w b c l m n) : CR 12 #[.pointer (some ⟨b, 0, none⟩), .int .i64 1] w (.bool (!m.closed)) := by
 obtain ⟨-, -, -, -, c4, -⟩ := h.at1
 have HN := Lib.hid fun V => wnone_some ⟨b, 0, none⟩ V
 have HI := Lib.hid fun V => isConn_any 1 V
 clear h
 go_enter Tryz.func12, Tryz.ntmps12
 go_wp2_with fail
 refine (HN.out _).mono ?_
 rintro e w1 ⟨rfl, rfl⟩
 go_wp2_with fail
 refine (HI.out _).mono ?_
 rintro e w2 ⟨rfl, rfl⟩
 go_wp2_with fail
 go_ret
 exact ⟨rfl, Below.refl _ _⟩
end Go.Proofs.YtpklkhgnjbopnaaGreatDoor
namespace Go.Proofs.YtpklkhgnjbopnaaGreatDoor
open Go Go.RowKit Go.Shelf
theorem WireAt.go {W W' : World} {b : Nat} {c : Value} {l m n : Ln} (h : WireAt W b c l m n) (hb : Below W.heap.size W W') : WireAt W' b c l m n := known hb (Nat.le_refl _) h
set_option maxRecDepth 100000 in
set_option maxHeartbeats 1000000 in
theorem answer_ask0 (b : Nat) (cv : Value) (l m n : Ln) (s : ByteArray) (q : Rq) (fm ff : Addr) (w : World) (hs : s.size < 4294967281) (hE : ∀ W, Below w.heap.size w W → GF fm ff W) (hq : msgOf s.data.toList = .ask q) (h : WireAt w b cv l m n) (hk : l.known = false) :
  CR 38 #[.pointer (some ⟨b, 0, none⟩), .pointer (some ⟨b, 1, none⟩), .string s] w (.agg #[.int .i64 201, .int .u64 0, .slice none 0 0, .slice none 0 0]) := by
 obtain ⟨W, hW, hX, hB, hsz⟩ := boxes1 w #[.int .i64 0, .int .u64 0, .slice none 0 0, .slice none 0 0] 60
 have hM := message_any s fm ff hs W (fun V hV => hE V (hB.trans (hV.mono hB.size)))
 rw [hq] at hM
 have HM := Lib.hid hM
 have HF : Hid (∀ w1, Below W.heap.size W w1 → ∀ A t, (w1.alloc (.cells A t)).cell? ⟨b, 4, none⟩ = some (.bool false) ∧ (w1.alloc (.cells A t)).heap[w.heap.size]? = some (.cells #[.int .i64 0, .int .u64 0, .slice none 0 0, .slice none 0 0] 60 (0, 0)) ∧ Below w.heap.size w (w1.alloc (.cells A t))) := fun w1 hb A t => by
  have hb2 : Below W.heap.size W (w1.alloc (.cells A t)) := hb.alloc hb.size _
  have h4 := (h.go (hB.trans (hb2.mono hB.size))).at0.2.2.2.1
  rw [hk] at h4
  exact ⟨h4, known hb2 (Nat.le_refl _) hX, hB.trans (hb2.mono hB.size)⟩
 clear hM hE hq h hk hX hB hs
 go_enter Tryz.func38, Tryz.ntmps38
 go_wp2_with fail
 refine HM.out.mono ?_
 rintro e w1 ⟨⟨ia, ic, ta, tc, rfl, -, -⟩, hb⟩
 have hA1 : ∀ w, (Instr.typeAssert (.iface 152 (.agg (rqV q ia ic ta tc))) 147 150 true).run Tryz.prog w = .ok (.tuple #[.agg #[.int .u64 0, .string ⟨#[]⟩], .bool false]) w := fun w => by kernel_rfl
 have hA2 : ∀ w, (Instr.typeAssert (.iface 152 (.agg (rqV q ia ic ta tc))) 147 152 true).run Tryz.prog w = .ok (.tuple #[.agg (rqV q ia ic ta tc), .bool true]) w := fun w => by kernel_rfl
 unfold rqV at hA1 hA2 ⊢
 obtain ⟨k4, hX, hB2⟩ := HF.out w1 hb (rqV q ia ic ta tc) 152
 obtain ⟨V, hV⟩ : ∃ V, w1.alloc (.cells (rqV q ia ic ta tc) 152) = V := ⟨_, rfl⟩
 unfold rqV at hV
 rw [show w1.alloc (.cells (rqV q ia ic ta tc) 152) = V from hV] at k4 hX hB2
 obtain ⟨x0, x1, x2, x3⟩ := cl4 hX
 have f0 : V.frozen? ⟨w.heap.size, 0, none⟩ = false := cFz hX 0
 obtain ⟨V1, hV1⟩ : ∃ V1, V.setCell ⟨w.heap.size, 0, none⟩ (.int .i64 201) = V1 := ⟨_, rfl⟩
 have hX1 : V1.heap[w.heap.size]? = some (.cells #[.int .i64 201, .int .u64 0, .slice none 0 0, .slice none 0 0] 60 (0, 0)) := by rw [← hV1]; exact hSk hX _
 obtain ⟨z0, z1, z2, z3⟩ := cl4 hX1
 have f1 : V1.frozen? ⟨w.heap.size, 1, none⟩ = false := cFz hX1 1
 have f2 : V1.frozen? ⟨w.heap.size, 2, none⟩ = false := cFz hX1 2
 have f3 : V1.frozen? ⟨w.heap.size, 3, none⟩ = false := cFz hX1 3
 have s1 : V1.setCell ⟨w.heap.size, 1, none⟩ (.int .u64 0) = V1 := set_same hX1 rfl
 have s2 : V1.setCell ⟨w.heap.size, 2, none⟩ (.slice none 0 0) = V1 := set_same hX1 rfl
 have s3 : V1.setCell ⟨w.heap.size, 3, none⟩ (.slice none 0 0) = V1 := set_same hX1 rfl
 have HB : Hid (Below w.heap.size w V1) := by rw [Hid, ← hV1]; exact hB2.setCell (p := ⟨w.heap.size, 0, none⟩) (Nat.le_refl _) _
 clear hb HM HF hX hB2 hX1
 go_wp2_with fail
 exact bodyPost_ret (v := .agg #[.int .i64 201, .int .u64 0, .slice none 0 0, .slice none 0 0]) (by simp [results, Tryz.results38, go_sem, z0, z1, z2, z3]) rfl ⟨rfl, HB.out⟩
end Go.Proofs.YtpklkhgnjbopnaaGreatDoor
namespace Go.Proofs
open Go.Shelf
def Tryz.laysPu25_ren : Go.Shelf.Ren := ⟨fun | 25 => 76 | n => n, fun | 0 => 0 | 3 => 3 | 4 => 4 | 5 => 5 | 9 => 9 | 37 => 84 | 47 => 154 | n => n, fun | n => n⟩
theorem Tryz.laysPu25 : Go.Proofs.LaysPu.n25 Tryz.prog Tryz.laysPu25_ren := {
 mixed := by kernel_rfl
 f25 := Tryz.func76.trans (congrArg some (by kernel_rfl))
 t0 := by kernel_rfl
 a0 := fun w => by kernel_rfl
 z0 := fun w => by kernel_rfl
 v0 := fun w => by kernel_rfl
 i0 := by kernel_rfl
 t3 := by kernel_rfl
 a3 := fun w => by kernel_rfl
 z3 := fun w => by kernel_rfl
 v3 := fun w => by kernel_rfl
 i3 := by kernel_rfl
 t4 := by kernel_rfl
 a4 := fun w => by kernel_rfl
 z4 := fun w => by kernel_rfl
 v4 := fun w => by kernel_rfl
 i4 := by kernel_rfl
 t5 := by kernel_rfl
 a5 := fun w => by kernel_rfl
 z5 := fun w => by kernel_rfl
 v5 := fun w => by kernel_rfl
 i5 := by kernel_rfl
 t9 := by kernel_rfl
 a9 := fun w => by kernel_rfl
 z9 := fun w => by kernel_rfl
 v9 := fun w => by kernel_rfl
 i9 := by kernel_rfl
 t37 := by kernel_rfl
 a37 := fun w => by kernel_rfl
 z37 := fun w => by kernel_rfl
 v37 := fun w => by kernel_rfl
 i37 := by kernel_rfl
 t47 := by kernel_rfl
 a47 := fun w => by kernel_rfl
 z47 := fun w => by kernel_rfl
 v47 := fun w => by kernel_rfl
 i47 := by kernel_rfl }
end Go.Proofs
namespace Go.Proofs.YtpklkhgnjbopnaaGreatDoor
open Go Go.RowKit Go.Shelf
theorem Clone_any (s : ByteArray) (w : World) (hs : s.size ≤ 281474976710656) : CR 40 #[.string s] w (.string s) := by
 have HC := Lib.hid (AnyPu.stringslite_Clone Tryz.laysPu25 s w hs)
 go_enter Tryz.func40, Tryz.ntmps40
 go_wp2_with fail
 refine HC.out.mono ?_
 rintro e w1 ⟨rfl, hb⟩
 have HB := Lib.hid hb
 clear hb
 go_wp2_with fail
 go_ret
 exact ⟨rfl, HB.out⟩
end Go.Proofs.YtpklkhgnjbopnaaGreatDoor
namespace Go.Proofs.YtpklkhgnjbopnaaGreatDoor
open Go Go.RowKit Go.Shelf
theorem All_known (s : ByteArray) (bs : List (List UInt8)) (r : List UInt8) (no : Int) (fm ff : Addr) (w : World) (hz : s.size < 4294967281) (hE : GF fm ff w) (hT : Fr.GT w) (hF : Frames s.data.toList bs r no) :
  Calls Tryz.prog 35 #[.string s] w fun e w' => ∃ (a : Option Addr) (cap : Nat), e = .returned (.tuple #[.slice a bs.length cap, .string ⟨r.toArray⟩, .int .i64 no]) ∧ SlE encTx 1 w'.heap.size w' a bs.length (bs.map fun b => ⟨b.toArray⟩) ∧ Below w.heap.size w w' := by
 refine (All_any s fm ff w hz hE hT).mono ?_
 rintro e w' ⟨l, t, no', a, cap, rfl, hF', hS, hB⟩
 obtain ⟨h1, h2, rfl⟩ := hF'.one hF
 have hl : l = bs.map fun b => ⟨b.toArray⟩ := by
  rw [← h1, List.map_map]
  exact (List.map_id' l).symm.trans (List.map_congr_left fun x _ => rfl)
 have hlen : l.length = bs.length := by rw [hl, List.length_map]
 have ht : t = ⟨r.toArray⟩ := by rw [← h2]
 rw [hlen] at hS ⊢
 rw [hl] at hS
 rw [ht]
 exact ⟨a, cap, rfl, hS, hB⟩
theorem framed_known (e : Int) (w : World) (he : 0 ≤ e) (h2 : e ≤ 4611686018427387904) : CR 37 #[.agg #[.int .i64 e, .int .u64 0, .slice none 0 0, .slice none 0 0]] w (.string ⟨(mkF (Ry.B ⟨e, 0, [], []⟩)).toArray⟩) := by
 have h1 := (numsB_one_len e).2
 have h0 := (numsB_one_len e).1
 refine framed_ok ⟨e, 0, [], []⟩ none 0 none 0 w (show U64 0 from ⟨by decide, by decide⟩) (fun x hx => by cases hx) ⟨rfl, fun j x hx => by cases hx⟩ ⟨rfl, fun j x hx => by cases hx⟩ ?_ ?_ ?_
 ·unfold Ry.ok smallB
  simp [he, h2]
 ·unfold Ry.B
  rw [List.length_append]
  exact Nat.lt_of_lt_of_le (Nat.lt_of_lt_of_le Nat.zero_lt_one h0) (Nat.le_add_right _ _)
 ·unfold Ry.B
  have e0 : numsB [(0 : Int)] = [0] := by decide
  simp only [List.length_append, List.length_nil, List.flatMap_nil]
  show (numsB [e]).length + ((numsB [(0 : Int)]).length + ((numsB [(0 : Int)]).length + ((numsB []).length + ((numsB [(0 : Int)]).length + 0)))) ≤ 2000
  have := (numsB_len []).2
  rw [e0]
  simp only [List.length_cons, List.length_nil] at this ⊢
  omega
set_option maxRecDepth 100000 in
set_option maxHeartbeats 2000000 in
theorem Feed_ask0 (b : Nat) (cv : Value) (l m n : Ln) (s : ByteArray) (q : Rq) (fm ff : Addr) (w : World) (hz : s.size < 4294967281) (hE : ∀ W, Below w.heap.size w W → GF fm ff W) (hT : Fr.GT w) (hF : Frames s.data.toList [askB q] [] 20) (hok : q.ok = true) (hq : msgOf (askB q) = .ask q) (h : WireAt w b cv l m n) (hk : l.known = false) (hc : l.closed = false) (hl : l.left = ⟨#[]⟩) :
  Calls Tryz.prog 8 #[.pointer (some ⟨b, 0, none⟩), .int .i64 0, .string s] w fun e w' => e = .returned (.tuple #[.string ⟨(mkF (Ry.B ⟨201, 0, [], []⟩)).toArray⟩, .int .i64 0]) ∧ WireAt w' b cv l m n ∧ Kept (· ≠ b) w w' := by
 obtain ⟨-, -, -, -, c4, c5⟩ := h.at0
 rw [hc] at c4
 rw [hl] at c5
 have HN := Lib.hid fun V => wnone_some ⟨b, 0, none⟩ V
 have HI := Lib.hid fun V => isConn_any 0 V
 have hcat : (⟨#[]⟩ : ByteArray) ++ s = s := by apply ByteArray.ext; rw [ByteArray.data_append]; simp
 have HA := Lib.hid (All_known s _ _ _ fm ff w hz (hE w (Below.refl _ _)) hT hF)
 have hAns := fun (V : World) (hV : Below w.heap.size w V) => answer_ask0 b cv l m n ⟨(askB q).toArray⟩ q fm ff V (by have := askB_len hok; show (askB q).toArray.size < _; rw [List.size_toArray]; omega) (fun U hU => hE U (hV.trans (hU.mono hV.size))) hq (h.go hV) hk
 have HAns := Lib.hid hAns
 have HFr := Lib.hid fun V => framed_known 201 V (by omega) (by omega)
 have HW : Hid (∀ V, Below w.heap.size w V → V.cell? ⟨b, 5, none⟩ = some (.bool false) ∧ V.cell? ⟨b, 6, none⟩ = some (.string ⟨#[]⟩) ∧ V.frozen? ⟨b, 6, none⟩ = false ∧ V.setCell ⟨b, 6, none⟩ (.string ⟨#[]⟩) = V ∧ WireAt V b cv l m n) := fun V hV => by
  have h2 := h.go hV
  obtain ⟨-, -, -, -, c4, c5⟩ := h2.at0
  rw [hc] at c4
  rw [hl] at c5
  exact ⟨c4, c5, cFz h2 6, set_same h2 ((show (wcells cv l m n)[6]? = some (.string l.left) from rfl).trans (by rw [hl])), h2⟩
 have hTz : (⟨(mkF (Ry.B ⟨201, 0, [], []⟩)).toArray⟩ : ByteArray).size = 10 := by decide
 obtain ⟨T, hT0⟩ : ∃ T, (mkF (Ry.B ⟨201, 0, [], []⟩)) = T := ⟨_, rfl⟩
 rw [hT0] at HFr hTz ⊢
 clear hE hT hF hq h hk hc hl hAns hT0
 go_enter Tryz.func8, Tryz.ntmps8
 go_wp2_with fail
 refine (HN.out _).mono ?_
 rintro e w1 ⟨rfl, hw⟩
 have hw := hw.symm
 subst hw
 go_wp2_with fail
 refine (HI.out _).mono ?_
 rintro e w2 ⟨rfl, hw⟩
 have hw := hw.symm
 subst hw
 go_wp2_with fail
 refine HA.out.mono ?_
 rintro e w3 ⟨a, cap, rfl, hS, hb⟩
 obtain ⟨W, hW, hX, hB, hs1⟩ := boxes1 w3 #[.pointer none, .slice none 0 0] 86
 have hbu : Lib.IsBuilderF 86 5 w3.heap.size w3.heap.size [] W := by rw [← hW]; exact Lib.IsBuilderF.of (Lib.fresh_isBuilder _ _ w3)
 have HB3 := Lib.hid hb
 have HS := Lib.hid hS
 have hbW : Below w3.heap.size w3 W := hB
 clear hb hX hB HA hS
 go_wp2_with fail
 go_loopw [42] (fun i wr => (i = .int .i64 0 ∧ wr = W) ∨ (i = .int .i64 1 ∧ Hid (Lib.IsBuilderF 86 5 w3.heap.size w3.heap.size (Lib.byteCells T) wr) ∧ Hid (Below w3.heap.size w3 wr))) (fun i _ => 1 - (intOf i).toNat)
 case atStart => exact .inl ⟨rfl, rfl⟩
 case round =>
  rcases hrel with ⟨rfl, rfl⟩ | ⟨rfl, h1, h2⟩
  ·obtain ⟨x, b1, o1, hx, rfl, hb1, hc1⟩ := (HS.out.below hbW).at (show 0 < [askB q].length from Nat.zero_lt_one)
   obtain rfl : (⟨(askB q).toArray⟩ : ByteArray) = x := Option.some.inj hx
   have p0 : wr.cell? ⟨b1, o1, none⟩ = some (.string ⟨(askB q).toArray⟩) := hc1 0 (by omega)
   have hwb : Below w.heap.size w wr := HB3.out.trans (hbW.mono HB3.out.size)
   have hA := HAns.out _ hwb
   clear hc1 hx hb1
   go_wp2_with fail
   refine hA.mono ?_
   rintro e w4 ⟨rfl, hb4⟩
   go_wp2_with fail
   refine (HFr.out _).mono ?_
   rintro e w5 ⟨rfl, hb5⟩
   have hb45 : Below wr.heap.size wr w5 := hb4.trans (hb5.mono hb4.size)
   have hWS := WriteString_any w3.heap.size w3.heap.size [] ⟨T.toArray⟩ w5 (isB_old hbu (fun j hj => hb45.block j hj)) (by rw [hTz]; decide) (by have := hb45.size; omega)
   go_wp2_with fail
   refine hWS.mono ?_
   rintro e w6 ⟨rfl, hbd, hb6, -⟩
   have hb36 : Below w3.heap.size w3 w6 := (hbW.trans (hb45.mono (by omega))).trans hb6
   have hwb6 : Below w.heap.size w w6 := HB3.out.trans (hb36.mono HB3.out.size)
   have k4 := (HW.out _ hwb6).1
   have HB6 := Lib.hid hb36
   have HBD := Lib.hid hbd
   clear hb36 hwb6 hb6 hbd hWS hb45 hb5 hb4 hwb hbu
   go_wp2_with fail
   refine ⟨.inr ⟨rfl, ?_, HB6.out⟩, by simp [intOf]⟩
   have h := HBD.out
   rw [List.nil_append, strCells_list] at h
   exact .inr h
  ·have hwb6 : Below w.heap.size w wr := HB3.out.trans (h2.out.mono HB3.out.size)
   have HCl := Lib.hid (Clone_any ⟨#[]⟩ wr (by decide))
   clear hbu
   go_wp2_with fail
   refine HCl.out.mono ?_
   rintro e w7 ⟨rfl, hb7⟩
   have hwb7 : Below w.heap.size w w7 := hwb6.trans (hb7.mono hwb6.size)
   obtain ⟨-, k6, f6, s6, -⟩ := HW.out _ hwb7
   have HSt := Lib.hid (Tryz.Builder_String_any_f w3.heap.size w3.heap.size T w7 (isB_old h1.out (fun j hj => hb7.block j hj)) (Nat.le_trans h2.out.size hb7.size))
   have HB7 := Lib.hid hwb7
   have HB37 : Hid (Below w3.heap.size w3 w7) := h2.out.trans (hb7.mono h2.out.size)
   clear hwb6 hwb7 hb7
   go_wp2_with fail
   refine HSt.out.mono ?_
   rintro e w8 ⟨rfl, -, hb8⟩
   have HB8 : Hid (Below w.heap.size w w8) := HB3.out.trans ((HB37.out.trans hb8).mono HB3.out.size)
   clear hb8
   go_wp2_with fail
   go_ret2
   exact ⟨rfl, (HW.out _ HB8.out).2.2.2.2, Kept.of HB8.out⟩
end Go.Proofs.YtpklkhgnjbopnaaGreatDoor
namespace Go.Proofs.YtpklkhgnjbopnaaGreatDoor
open Go Go.RowKit Go.Shelf
theorem WireAt.set1 {W : World} {b : Nat} {c : Value} {l m n : Ln} (h : WireAt W b c l m n) (i : Nat) (v : Value) {k : Ln} (e : (wcells c l m n).setIfInBounds i v = wcells c l k n) : WireAt (W.setCell ⟨b, i, none⟩ v) b c l k n := by
 have h2 := hSk h v (i := i)
 rw [e] at h2
 exact h2
theorem isB_off {T e : TypeId} {B b : Nat} {bs : List Value} {w w' : World} (h : Lib.IsBuilderF T e B b bs w) (hs : ∀ j, B ≤ j → j < w.heap.size → w'.heap[j]? = w.heap[j]?) : Lib.IsBuilderF T e B b bs w' := by
 have one : ∀ p, Lib.BuilderAtF T e B b p bs w → Lib.BuilderAtF T e B b p bs w' := fun p ⟨h1, v, h2, h3, h4⟩ => by
  refine ⟨h1, v, (hs b h1 (Array.getElem?_eq_some_iff.1 h2).1).trans h2, ⟨h3.1, ?_⟩, h4⟩
  rcases h3.2 with h5 | ⟨g, cap, cur, fz, hv, hg, hh, r⟩
  ·exact .inl h5
  ·exact .inr ⟨g, cap, cur, fz, hv, hg, (hs g hg (Array.getElem?_eq_some_iff.1 hh).1).trans hh, r⟩
 exact h.imp (one _) (one _)
set_option maxRecDepth 100000 in
set_option maxHeartbeats 1000000 in
theorem close1 (b : Nat) (cv : Value) (l m n : Ln) (w : World) (h : WireAt w b cv l m n) :
  Calls Tryz.prog 41 #[.pointer (some ⟨b, 7, none⟩)] w fun e w' => e = .returned (.tuple #[]) ∧ WireAt w' b cv l lnX n ∧ Kept (· ≠ b) w w' := by
 have hK0 : Kept (· ≠ b) w w := Kept.refl
 obtain ⟨V0, hV0⟩ : ∃ V, w = V := ⟨_, rfl⟩
 have h0 : WireAt V0 b cv l m n := hV0 ▸ h
 obtain ⟨V1, hV1⟩ : ∃ V, V0.setCell ⟨b, 7, none⟩ (.int .u64 0) = V := ⟨_, rfl⟩
 have h1 : WireAt V1 b cv l ⟨0, m.role, m.till, m.known, m.closed, m.left⟩ n := by rw [← hV1]; exact h0.set1 7 _ rfl
 have hK1 : Kept (· ≠ b) w V1 := by rw [← hV1, ← hV0]; exact hK0.set (b := b) (fun _ h => h rfl) 7 _
 have c0 : V0.cell? ⟨b, 7, none⟩ = some (.int .u64 m.tnt) := cCc h0 7
 have f0 : V0.frozen? ⟨b, 7, none⟩ = false := cFz h0 7
 obtain ⟨V2, hV2⟩ : ∃ V, V1.setCell ⟨b, 8, none⟩ (.int .i64 0) = V := ⟨_, rfl⟩
 have h2 : WireAt V2 b cv l ⟨0, 0, m.till, m.known, m.closed, m.left⟩ n := by rw [← hV2]; exact h1.set1 8 _ rfl
 have hK2 : Kept (· ≠ b) w V2 := by rw [← hV2]; exact hK1.set (b := b) (fun _ h => h rfl) 8 _
 have c1 : V1.cell? ⟨b, 8, none⟩ = some (.int .i64 m.role) := cCc h1 8
 have f1 : V1.frozen? ⟨b, 8, none⟩ = false := cFz h1 8
 obtain ⟨V3, hV3⟩ : ∃ V, V2.setCell ⟨b, 9, none⟩ (.int .u64 0) = V := ⟨_, rfl⟩
 have h3 : WireAt V3 b cv l ⟨0, 0, 0, m.known, m.closed, m.left⟩ n := by rw [← hV3]; exact h2.set1 9 _ rfl
 have hK3 : Kept (· ≠ b) w V3 := by rw [← hV3]; exact hK2.set (b := b) (fun _ h => h rfl) 9 _
 have c2 : V2.cell? ⟨b, 9, none⟩ = some (.int .u64 m.till) := cCc h2 9
 have f2 : V2.frozen? ⟨b, 9, none⟩ = false := cFz h2 9
 obtain ⟨V4, hV4⟩ : ∃ V, V3.setCell ⟨b, 10, none⟩ (.bool false) = V := ⟨_, rfl⟩
 have h4 : WireAt V4 b cv l ⟨0, 0, 0, false, m.closed, m.left⟩ n := by rw [← hV4]; exact h3.set1 10 _ rfl
 have hK4 : Kept (· ≠ b) w V4 := by rw [← hV4]; exact hK3.set (b := b) (fun _ h => h rfl) 10 _
 have c3 : V3.cell? ⟨b, 10, none⟩ = some (.bool m.known) := cCc h3 10
 have f3 : V3.frozen? ⟨b, 10, none⟩ = false := cFz h3 10
 obtain ⟨V5, hV5⟩ : ∃ V, V4.setCell ⟨b, 11, none⟩ (.bool true) = V := ⟨_, rfl⟩
 have h5 : WireAt V5 b cv l ⟨0, 0, 0, false, true, m.left⟩ n := by rw [← hV5]; exact h4.set1 11 _ rfl
 have hK5 : Kept (· ≠ b) w V5 := by rw [← hV5]; exact hK4.set (b := b) (fun _ h => h rfl) 11 _
 have c4 : V4.cell? ⟨b, 11, none⟩ = some (.bool m.closed) := cCc h4 11
 have f4 : V4.frozen? ⟨b, 11, none⟩ = false := cFz h4 11
 obtain ⟨V6, hV6⟩ : ∃ V, V5.setCell ⟨b, 12, none⟩ (.string ⟨#[]⟩) = V := ⟨_, rfl⟩
 have h6 : WireAt V6 b cv l ⟨0, 0, 0, false, true, ⟨#[]⟩⟩ n := by rw [← hV6]; exact h5.set1 12 _ rfl
 have hK6 : Kept (· ≠ b) w V6 := by rw [← hV6]; exact hK5.set (b := b) (fun _ h => h rfl) 12 _
 have c5 : V5.cell? ⟨b, 12, none⟩ = some (.string m.left) := cCc h5 12
 have f5 : V5.frozen? ⟨b, 12, none⟩ = false := cFz h5 12
 have HK := Lib.hid (And.intro h6 hK6)
 clear h h0 h1 h2 h3 h4 h5 h6 hK0 hK1 hK2 hK3 hK4 hK5 hK6
 subst hV0
 go_enter Tryz.func41, Tryz.ntmps41
 go_wp2_with fail
 go_end0
 exact ⟨rfl, HK.out⟩
set_option maxRecDepth 100000 in
set_option maxHeartbeats 2000000 in
theorem Feed_bad1 (b : Nat) (cv : Value) (l m n : Ln) (s r : ByteArray) (no : Int) (fm ff : Addr) (w : World) (hz : s.size < 4294967281) (hrz : r.size ≤ 281474976710656) (hE : GF fm ff w) (hT : Fr.GT w) (hF : Frames s.data.toList [] r.data.toList no) (hno : no ≠ 20) (h : WireAt w b cv l m n) (hc : m.closed = false) (hl : m.left = ⟨#[]⟩) :
  Calls Tryz.prog 8 #[.pointer (some ⟨b, 0, none⟩), .int .i64 1, .string s] w fun e w' => e = .returned (.tuple #[.string ⟨(mkF (Ry.B ⟨200, 0, [], []⟩)).toArray⟩, .int .i64 0]) ∧ WireAt w' b cv l lnX n ∧ Kept (· ≠ b) w w' := by
 obtain ⟨-, -, -, -, c4, c5⟩ := h.at1
 rw [hc] at c4
 rw [hl] at c5
 have HN := Lib.hid fun V => wnone_some ⟨b, 0, none⟩ V
 have HI := Lib.hid fun V => isConn_any 1 V
 have hcat : (⟨#[]⟩ : ByteArray) ++ s = s := by apply ByteArray.ext; rw [ByteArray.data_append]; simp
 have hA := All_known s _ _ _ fm ff w hz hE hT hF
 rw [show (⟨r.data.toList.toArray⟩ : ByteArray) = r from rfl] at hA
 have HA := Lib.hid hA
 have HW := Lib.hid fun (V : World) (hV : Below w.heap.size w V) => h.go hV
 have HFr := Lib.hid fun V => framed_known 200 V (by omega) (by omega)
 have hTz : (⟨(mkF (Ry.B ⟨200, 0, [], []⟩)).toArray⟩ : ByteArray).size = 10 := by decide
 obtain ⟨T, hT0⟩ : ∃ T, (mkF (Ry.B ⟨200, 0, [], []⟩)) = T := ⟨_, rfl⟩
 rw [hT0] at HFr hTz ⊢
 have hne : (no == 20) = false := beq_eq_false_iff_ne.2 hno
 have HC := Lib.hid fun V => Clone_any r V hrz
 have HL := Lib.hid fun V (hV : Below w.heap.size w V) => (h.go hV)
 clear hE hT hF h hc hl hA hT0
 go_enter Tryz.func8, Tryz.ntmps8
 go_wp2_with fail
 refine (HN.out _).mono ?_
 rintro e w1 ⟨rfl, hw⟩
 have hw := hw.symm
 subst hw
 go_wp2_with fail
 refine (HI.out _).mono ?_
 rintro e w2 ⟨rfl, hw⟩
 have hw := hw.symm
 subst hw
 go_wp2_with fail
 refine HA.out.mono ?_
 rintro e w3 ⟨a, cap, rfl, -, hb⟩
 obtain ⟨W, hW, hX, hB, hs1⟩ := boxes1 w3 #[.pointer none, .slice none 0 0] 86
 have hbu : Lib.IsBuilderF 86 5 w3.heap.size w3.heap.size [] W := by rw [← hW]; exact Lib.IsBuilderF.of (Lib.fresh_isBuilder _ _ w3)
 have HB3 := Lib.hid hb
 have HBW : Hid (Below w3.heap.size w3 W) := hB
 have HBu := Lib.hid hbu
 clear hb hX hB HA hbu
 go_wp2_with fail
 go_loopw [42] (fun i wr => i = .int .i64 0 ∧ wr = W) (fun i _ => 0)
 case atStart => exact ⟨rfl, rfl⟩
 case round =>
  obtain ⟨rfl, rfl⟩ := hrel
  go_wp2_with fail
  refine (HC.out _).mono ?_
  rintro e w7 ⟨rfl, hb7⟩
  have hwr : Below w.heap.size w wr := HB3.out.trans (HBW.out.mono HB3.out.size)
  have hw7 : Below w.heap.size w w7 := hwr.trans (hb7.mono hwr.size)
  have hW7 := HL.out _ hw7
  have hbl := (Array.getElem?_eq_some_iff.1 (HL.out _ (Below.refl _ _))).1
  have hb3 := HB3.out.size
  obtain ⟨V, hV⟩ : ∃ V, w7.setCell ⟨b, 12, none⟩ (.string r) = V := ⟨_, rfl⟩
  have hWV : WireAt V b cv l { m with left := r } n := by rw [← hV]; exact hW7.set1 12 _ rfl
  have hKV : Kept (· ≠ b) w7 V := by rw [← hV]; exact Kept.refl.set (b := b) (fun _ h => h rfl) 12 _
  have c12 : w7.cell? ⟨b, 12, none⟩ = some (.string m.left) := cCc hW7 12
  have f12 : w7.frozen? ⟨b, 12, none⟩ = false := cFz hW7 12
  have HCl := Lib.hid (close1 b cv l _ n V hWV)
  have HKV := Lib.hid hKV
  have HS7 : Hid (Below w.heap.size w w7 ∧ Below w3.heap.size w3 w7 ∧ Below wr.heap.size wr w7 ∧ b < w.heap.size ∧ w.heap.size ≤ w3.heap.size ∧ w3.heap.size ≤ wr.heap.size) := ⟨hw7, HBW.out.trans (hb7.mono HBW.out.size), hb7, hbl, hb3, HBW.out.size⟩
  clear hwr hw7 hW7 hbl hb3 hWV hKV hb7
  go_wp2_with fail
  refine HCl.out.mono ?_
  rintro e w8 ⟨rfl, hWX, hK8⟩
  have HWX := Lib.hid hWX
  have HK8 : Hid (Kept (· ≠ b) w7 w8) := HKV.out.trans hK8
  clear hWX hK8
  go_wp2_with fail
  refine (HFr.out _).mono ?_
  rintro e w9 ⟨rfl, hb9⟩
  obtain ⟨s1, s2, s3, s4, s5, s6⟩ := HS7.out
  have hK9 : Kept (· ≠ b) w7 w9 := HK8.out.trans (.of hb9)
  have hbu9 : Lib.IsBuilderF 86 5 w3.heap.size w3.heap.size [] w9 := isB_off (isB_old HBu.out (fun j hj => s3.block j hj)) (fun j h1 h2 => hK9.block j h2 (by omega))
  have hWS := WriteString_any w3.heap.size w3.heap.size [] ⟨T.toArray⟩ w9 hbu9 (by rw [hTz]; decide) (by have := hK9.size; have := s3.size; omega)
  have HW9 : Hid (WireAt w9 b cv l lnX n) := HWX.out.go hb9
  have HK9 := Lib.hid hK9
  have HWS := Lib.hid hWS
  clear hWS hbu9 hK9 hb9 s1 s2 s3 s4 s5 s6
  go_wp2_with fail
  refine HWS.out.mono ?_
  rintro e w10 ⟨rfl, hbd, hb10, -⟩
  obtain ⟨s1, s2, s3, s4, s5, s6⟩ := HS7.out
  have h9s : w3.heap.size ≤ w9.heap.size := by have := HK9.out.size; have := s3.size; omega
  have hbd' : Lib.IsBuilderF 86 5 w3.heap.size w3.heap.size (Lib.byteCells T) w10 := by
   rw [List.nil_append, strCells_list] at hbd
   exact .inr hbd
  have HSt := Lib.hid (Tryz.Builder_String_any_f w3.heap.size w3.heap.size T w10 hbd' (by have := hb10.size; omega))
  have HW10 : Hid (WireAt w10 b cv l lnX n) := (hb10.block b (by omega)).trans HW9.out
  have HK10 : Hid (Kept (· ≠ b) w w10) := ⟨hb10.os.trans (HK9.out.os.trans s1.os), hb10.tape.trans (HK9.out.tape.trans s1.tape), hb10.output.trans (HK9.out.output.trans s1.output), Nat.le_trans s1.size (Nat.le_trans HK9.out.size hb10.size), fun k hk hq => (hb10.block k (by omega)).trans ((HK9.out.block k (by have := s1.size; omega) hq).trans (s1.block k hk))⟩
  have HSZ : Hid (b < w3.heap.size ∧ w.heap.size ≤ w3.heap.size) := ⟨by omega, s5⟩
  clear hbd hbd' hb10 s1 s2 s3 s4 s5 s6 h9s
  go_wp2_with fail
  refine HSt.out.mono ?_
  rintro e w11 ⟨rfl, -, hb11⟩
  have HF : Hid (WireAt w11 b cv l lnX n ∧ Kept (· ≠ b) w w11) := by
   obtain ⟨z1, z2⟩ := HSZ.out
   exact ⟨(hb11.block b z1).trans HW10.out, ⟨hb11.os.trans HK10.out.os, hb11.tape.trans HK10.out.tape, hb11.output.trans HK10.out.output, Nat.le_trans HK10.out.size hb11.size, fun k hk hq => (hb11.block k (by omega)).trans (HK10.out.block k hk hq)⟩⟩
  clear hb11
  go_wp2_with fail
  go_ret2
  exact ⟨rfl, HF.out⟩
end Go.Proofs.YtpklkhgnjbopnaaGreatDoor
namespace Go.Proofs.YtpklkhgnjbopnaaGreatDoor
open Go Go.RowKit Go.Shelf
def rqCost : Rq := ⟨7, 0, ⟨#[]⟩, ⟨#[]⟩, 0, [], 0, 0, 0, []⟩
theorem rqCost_ok : rqCost.ok = true := by decide
theorem rqCost_wf : rqCost.Wf := ⟨⟨by decide, by decide⟩, (fun i hi => by cases hi), ⟨by decide, by decide⟩, ⟨by decide, by decide⟩, ⟨by decide, by decide⟩, (fun i hi => by cases hi)⟩
set_option maxRecDepth 100000 in
set_option maxHeartbeats 2000000 in
theorem shown20_any (fm ff : Addr) (w : World) (hE : GF fm ff w) (hT : Fr.GT w) :
  Calls Tryz.prog 6 #[] w fun e w' => e = .returned (.bool true) ∧ Below w.heap.size w w' := by
 obtain ⟨W, hW, hX, hB, hs⟩ := boxes1 w #[.int .u64 1, .int .i64 1000, .int .u64 9] 41
 have HC := Lib.hid (collNew_one 1 2 1 1000 9 w.heap.size 1 W ⟨by decide, by decide⟩ (by decide) (by decide) hX)
 have HBW := Lib.hid hB
 clear hX hB hs
 go_enter Tryz.func6, Tryz.ntmps6
 go_wp2_with fail
 refine HC.out.mono ?_
 rintro e w1 ⟨b, rfl, hb1⟩
 have HN := Lib.hid (wireNew_any ⟨b, 0, none⟩ w1)
 have HB1 : Hid (Below w.heap.size w w1) := HBW.out.trans (hb1.mono HBW.out.size)
 clear hb1
 go_wp2_with fail
 refine HN.out.mono ?_
 rintro e w2 ⟨rfl, hWA, hb2⟩
 have HWA := Lib.hid hWA
 have HB2 : Hid (Below w.heap.size w w2) := HB1.out.trans (hb2.mono HB1.out.size)
 have HA := Lib.hid (Ask_ok rqCost none 0 none 0 w2 rqCost_wf (by decide) (by decide) ⟨rfl, fun j x hx => by cases hx⟩ ⟨rfl, fun j x hx => by cases hx⟩ rqCost_ok)
 clear hb2 hWA
 go_wp2_with fail
 refine HA.out.mono ?_
 rintro e w3 ⟨rfl, hb3⟩
 have HB3 : Hid (Below w.heap.size w w3) := HB2.out.trans (hb3.mono HB2.out.size)
 have HWA3 := Lib.hid (HWA.out.go hb3)
 have hF0 : Frames (mkF (askB rqCost)) [askB rqCost] [] 20 := by
  have h := askB_len rqCost_ok
  have e := rdF_mk (l := askB rqCost) (fun e => by rw [e] at h; exact absurd h.1 (by decide)) h.2 []
  rw [List.append_nil] at e
  exact .step e (.stop rfl)
 have HF0 := Lib.hid (Feed_ask0 w1.heap.size (.pointer (some ⟨b, 0, none⟩)) ln0 ln0 ln0 ⟨(mkF (askB rqCost)).toArray⟩ rqCost fm ff w3 (by decide) (fun V hV => hE.below (HB3.out.trans (hV.mono HB3.out.size))) (hT.go HB3.out) hF0 rqCost_ok (msgOf_ask rqCost_ok rqCost_wf) HWA3.out rfl rfl rfl)
 clear hb3 hF0
 go_wp2_with fail
 refine HF0.out.mono ?_
 rintro e w4 ⟨rfl, hWA4, hk4⟩
 have hB4 : Below w.heap.size w w4 := HB3.out.trans (hk4.below (fun k hk => by have := HB1.out.size; omega) HB3.out.size)
 have HB4 := Lib.hid hB4
 have HF1 := Lib.hid (Feed_bad1 w1.heap.size (.pointer (some ⟨b, 0, none⟩)) ln0 ln0 ln0 ⟨#[120]⟩ ⟨#[120]⟩ 30 fm ff w4 (by decide) (by decide) (hE.below hB4) (hT.go hB4) (.stop rfl) (by decide) hWA4 rfl rfl)
 clear hWA4 hk4 hB4
 go_wp2_with fail
 refine HF1.out.mono ?_
 rintro e w5 ⟨rfl, hWA5, hk5⟩
 have hB5 : Below w.heap.size w w5 := HB4.out.trans (hk5.below (fun k hk => by have := HB1.out.size; omega) HB4.out.size)
 have HB5 := Lib.hid hB5
 have HWA5 := Lib.hid hWA5
 have hrd : rdF (mkF (Ry.B ⟨201, 0, [], []⟩)) = .got (Ry.B ⟨201, 0, [], []⟩) [] := by
  have e := rdF_mk (l := Ry.B ⟨201, 0, [], []⟩) (by decide) (by decide) []
  rwa [List.append_nil] at e
 have HR := Lib.hid (Read_any ⟨(mkF (Ry.B ⟨201, 0, [], []⟩)).toArray⟩ _ _ fm ff w5 (by decide) (hE.below hB5) hrd)
 clear hWA5 hk5 hB5 hrd
 go_wp2_with fail
 refine HR.out.mono ?_
 rintro e w6 ⟨rfl, hb6⟩
 have HB6 : Hid (Below w.heap.size w w6) := HB5.out.trans (hb6.mono HB5.out.size)
 have HWA6 := Lib.hid (HWA5.out.go hb6)
 have HO0 : Hid (CR 12 #[.pointer (some ⟨w1.heap.size, 0, none⟩), .int .i64 0] w6 (.bool true)) := open0 w1.heap.size _ _ _ _ w6 HWA6.out
 have hz : (mkF (Ry.B ⟨200, 0, [], []⟩)).length = 10 := by decide
 have hz2 : (⟨(mkF (Ry.B ⟨200, 0, [], []⟩)).toArray⟩ : ByteArray).size = 10 := by decide
 clear hb6
 go_wp2_with fail
 refine HO0.out.mono ?_
 rintro e w7 ⟨rfl, hb7⟩
 have HB7 : Hid (Below w.heap.size w w7) := HB6.out.trans (hb7.mono HB6.out.size)
 have HO1 : Hid (CR 12 #[.pointer (some ⟨w1.heap.size, 0, none⟩), .int .i64 1] w7 (.bool false)) := open1 w1.heap.size _ _ _ _ w7 (HWA6.out.go hb7)
 clear hb7
 go_wp2_with fail
 refine HO1.out.mono ?_
 rintro e w8 ⟨rfl, hb8⟩
 have HB8 : Hid (Below w.heap.size w w8) := HB7.out.trans (hb8.mono HB7.out.size)
 clear hb8
 go_wp2_with fail
 go_ret
 exact ⟨rfl, HB8.out⟩
end Go.Proofs.YtpklkhgnjbopnaaGreatDoor

/- Package field: errno, behind, octets, number, Get. -/
import Derived.Test.YtpnlmfilmbodfaaGreatDoorZY7
namespace Go.Proofs.YtpnlmfilmbodfaaGreatDoor
open Go Go.RowKit Go.Shelf
attribute [local go_sem] Oper.semAt_some
abbrev errV (a : Addr) : Value := .iface 345 (.pointer (some a))
structure GE (fm ff cm cc : Addr) (w : World) : Prop where
  efm : w.cell? ⟨3, 0, none⟩ = some (errV fm)
  eff : w.cell? ⟨4, 0, none⟩ = some (errV ff)
  ecm : w.cell? ⟨0, 0, none⟩ = some (errV cm)
  ecc : w.cell? ⟨1, 0, none⟩ = some (errV cc)
  nf : ff ≠ fm
  nc : cc ≠ cm
  hfm : ∃ c t, w.heap[fm.block]? = some (.cells c t (0, 0))
  hff : ∃ c t, w.heap[ff.block]? = some (.cells c t (0, 0))
  hcm : ∃ c t, w.heap[cm.block]? = some (.cells c t (0, 0))
  hcc : ∃ c t, w.heap[cc.block]? = some (.cells c t (0, 0))
  lt : 8 ≤ w.heap.size
theorem GE.below {fm ff cm cc : Addr} {w w' : World} (h : GE fm ff cm cc w) (hb : Below w.heap.size w w') : GE fm ff cm cc w' := by
  have hl := h.lt
  obtain ⟨c1, t1, h1⟩ := h.hfm
  obtain ⟨c2, t2, h2⟩ := h.hff
  obtain ⟨c3, t3, h3⟩ := h.hcm
  obtain ⟨c4, t4, h4⟩ := h.hcc
  exact ⟨(hb.cell (p := ⟨3, 0, none⟩) (by show 3 < _; omega)).trans h.efm, (hb.cell (p := ⟨4, 0, none⟩) (by show 4 < _; omega)).trans h.eff,
    (hb.cell (p := ⟨0, 0, none⟩) (by show 0 < _; omega)).trans h.ecm, (hb.cell (p := ⟨1, 0, none⟩) (by show 1 < _; omega)).trans h.ecc, h.nf, h.nc,
    ⟨c1, t1, known hb (Nat.le_refl _) h1⟩, ⟨c2, t2, known hb (Nat.le_refl _) h2⟩, ⟨c3, t3, known hb (Nat.le_refl _) h3⟩, ⟨c4, t4, known hb (Nat.le_refl _) h4⟩, Nat.le_trans hl hb.size⟩
set_option maxRecDepth 100000 in
set_option maxHeartbeats 1000000 in
theorem errno_more (fm ff cm cc : Addr) (w : World) (hE : GE fm ff cm cc w) :
    Calls Tryz.prog 220 #[errV fm] w fun e w' => e = .returned (.int .i64 20) ∧ Below w.heap.size w w' := by
  have c0 := hE.efm
  have hI := is_same fm w
  clear hE
  go_enter Tryz.func220, Tryz.ntmps220
  go_wp2_with (go_at_call 105; refine hI.mono ?_; rintro e w' ⟨rfl, rfl⟩)
  go_ret
  exact ⟨rfl, Below.refl _ _⟩
set_option maxRecDepth 100000 in
set_option maxHeartbeats 1000000 in
theorem errno_field (fm ff cm cc : Addr) (w : World) (hE : GE fm ff cm cc w) :
    Calls Tryz.prog 220 #[errV ff] w fun e w' => e = .returned (.int .i64 21) ∧ Below w.heap.size w w' := by
  have c0 := hE.efm
  obtain ⟨c1, t1, h1⟩ := hE.hfm
  obtain ⟨c2, t2, h2⟩ := hE.hff
  have hI := is_other ff fm c2 c1 t2 t1 w hE.nf h2 h1
  clear hE h1 h2
  go_enter Tryz.func220, Tryz.ntmps220
  go_wp2_with (go_at_call 105; refine hI.mono ?_; rintro e w' ⟨rfl, rfl⟩)
  go_ret
  exact ⟨rfl, Below.refl _ _⟩
set_option maxRecDepth 100000 in
set_option maxHeartbeats 1000000 in
theorem behind_any (f : Nat) (w : World) (h1 : f < 256) :
    Calls Tryz.prog 240 #[.int .u8 f] w fun e w' => e = .returned (.int .i64 (behindN f)) ∧ w' = w := by
  by_cases c0 : f ≤ 240
  · have hb : behindN f = 0 := by unfold behindN; rw [if_pos c0]
    rw [hb]
    go_enter Tryz.func240, Tryz.ntmps240
    go_wp2_with fail
    go_ret
    exact ⟨rfl, rfl⟩
  by_cases c1 : f ≤ 248
  · have hb : behindN f = 1 := by unfold behindN; rw [if_neg c0, if_pos c1]
    rw [hb]
    go_enter Tryz.func240, Tryz.ntmps240
    go_wp2_with fail
    go_ret
    exact ⟨rfl, rfl⟩
  by_cases c2 : f = 249
  · subst c2
    go_enter Tryz.func240, Tryz.ntmps240
    go_wp2_with fail
    go_ret
    exact ⟨rfl, rfl⟩
  · have hb : behindN f = f - 247 := by unfold behindN; rw [if_neg c0, if_neg c1, if_neg c2]
    have e3 : ((f - 247 : Nat) : Int) = (f : Int) - 247 := by omega
    have hne : ((f : Int) == 249) = false := by simp; omega
    rw [hb, e3]
    clear hb e3 c2
    go_enter Tryz.func240, Tryz.ntmps240
    go_wp2_with fail
    go_ret
    exact ⟨rfl, rfl⟩
def KB (B : Nat) (W W' : World) : Prop := ∀ o, W.heap[B]? = some o → W'.heap[B]? = some o
theorem KB.trans {B : Nat} {X Y Z : World} (h : KB B X Y) (k : KB B Y Z) : KB B X Z := fun o ho => k o (h o ho)
theorem KB.refl (B : Nat) (X : World) : KB B X X := fun _ h => h
theorem wp_range_kb {α : Type} {P : Program} {g : Operand} {ps : Array Tmp} {assign body : Code} {Q : Exit → Act → World → Prop} {a : Act} {w : World} (Bs : Nat) (T : α → Array Value)
    {gf : Nat} {lb : Array Value} (hg : a.eval g = .func (.func gf) #[] lb) (eg : ∀ args w, (callFunc gf args).run P w = .ok (.enter gf args) w)
    {encs : α → Array Value} {xs : List α} {N : Nat} {w0 : World} (hseq : SeqStopsK Fence.wide 8 P gf lb encs (KB Bs) (fun ys => ys = xs) (fun pre => pre <+: xs) N w0)
    (hBs : Bs < w.heap.size) (hb0 : Below w0.heap.size w0 w) (hps : ∀ x, (encs x).size = ps.size)
    (I : List α → World → Prop) (Ix : Code → List α → World → Prop) (hI : OwnFrom w.heap.size I) (hIx : ∀ c, OwnFrom w.heap.size (Ix c)) (h0 : I [] w)
    (hassign : ∀ (l : Nat) (pre : List α) (x : α) (W : World) (K : Act → World → Prop), I pre W → (I pre W → K { tmps := T x, defers := [] } W) →
      assign.wpIn (Fence.wide.inRound l) 7 P (Exit.then K (fun _ _ _ => False)) { tmps := (ps.zip (encs x)).foldl (fun t (p, v) => t.setIfInBounds p v) a.tmps, defers := [] } W)
    (hbody : ∀ (l : Nat) (pre : List α) (x : α) (W : World), I pre W → pre.length < N → body.wpIn (Fence.wide.inRound l) 7 P (ownPostG w.heap.size (KB Bs) I Ix (pre ++ [x]) W) { tmps := T x, defers := [] } W)
    (hdone : ∀ (D : Nat) (W : World), w.heap.size ≤ D → I xs W → W.heap[D]? = some (.deferred (some [])) → Q .normal { a with defers := { target := .collected D, args := #[] } :: a.defers } W)
    (hstop : ∀ (D : Nat) (c : Code) (pre : List α) (W : World), w.heap.size ≤ D → pre <+: xs → Ix c pre W → W.heap[D]? = some (.deferred (some [])) → c.wp P Q { a with defers := { target := .collected D, args := #[] } :: a.defers } W) :
    (Code.rangeFunc g ps assign body).wp P Q a w :=
  (wpIn_wide (n := 9)).1 (wpIn_rangeFunc_ownH rfl (by omega) hg trivial eg hseq (fun h k => h.trans k)
    (fun W l o o' hl h _ _ o2 h2 => (World.putObj_heap_other (by omega)).trans h2) hb0 hps I Ix hI hIx h0 (fun x a' _ => a' = { tmps := T x, defers := [] }) (fun _ _ => ownFrom_pure _ _)
    (fun l pre x W K hi hK => hassign l pre x W K hi (fun hi' => hK _ _ (KeepsFrom.refl _ _) (KB.refl _ _) hi' rfl))
    (fun l pre x a' W _ _ hi hax hlt => by subst hax; exact hbody l pre x W hi hlt) (fun D ys W hD e hi hK => by subst e; exact hdone D W hD hi hK) (fun D c pre W hD hp hi hK => wpIn_wide.2 (hstop D c pre W hD hp hi hK)))
theorem octets_any (s : ByteArray) (w : World) :
    Calls Tryz.prog 241 #[.string s] w fun e w' => e = .returned (.func (.func 249) #[] #[.pointer (some ⟨w.heap.size, 0, none⟩)]) ∧ w' = w.alloc (.cells #[.string s] 9) := by
  go_enter Tryz.func241, Tryz.ntmps241
  go_wp2
  go_ret
  exact ⟨rfl, rfl⟩
set_option maxRecDepth 100000 in
set_option maxHeartbeats 1000000 in
theorem octets1 (l Bs : Nat) (s : ByteArray) (hreach : s.size < 4294967281) (J Jx : List (Nat × UInt8) → World → Prop)
    (hY : ∀ pre x W, J pre W → pre.length < (octs s).length → YieldAt Fence.wide 7 Tryz.prog l #[.int .i64 x.1, .int .u8 x.2.toNat] W fun e W' =>
      (e = .returned (.bool true) ∧ J (pre ++ [x]) W' ∧ KB Bs W W') ∨ (e = .returned (.bool false) ∧ Jx (pre ++ [x]) W'))
    (W : World) (hBs : W.heap[Bs]? = some (.cells #[.string s] 9 (0, 0))) (h0 : J [] W) :
    CallsIn Fence.wide 8 Tryz.prog 249 #[.func (.yield l) #[] #[], .pointer (some ⟨Bs, 0, none⟩)] W fun e W' => (∃ v, e = .returned v) ∧
      ((∃ ys, ys = octs s ∧ J ys W') ∨ (∃ pre, pre <+: octs s ∧ Jx pre W')) := by
  have hol := octs_len s
  refine callsIn_of_wp Tryz.func249 rfl trivial ?_ rfl
  simp only [Tryz.ntmps249, List.size_toArray, List.length_cons, List.length_nil, Nat.reduceAdd, Nat.reduceSub, Array.replicate_succ, Array.replicate_zero, List.push_toArray, List.append_toArray, List.nil_append, List.cons_append]
  have HO := Lib.hid hol
  have c9 : W.cell? ⟨Bs, 0, none⟩ = some (.string s) := cCc hBs 0
  clear hol
  gi_wp2
  gi_loopw [3, 6] (fun _ i wr => ∃ k : Nat, k ≤ s.size ∧ i = .int .i64 k ∧ J ((octs s).take k) wr ∧ KB Bs W wr) (fun _ i _ => s.size - (intOf i).toNat)
  case atStart => exact ⟨0, Nat.zero_le _, rfl, h0, KB.refl _ _⟩
  case round =>
    obtain ⟨k, hk, rfl, hJs, hnx⟩ := hrel
    by_cases hlt : k < s.size
    · have hx := octs_at s k hlt
      obtain ⟨fn, tmps, assign, body, hy, hR⟩ := hY _ (k, s[k]'hlt) _ hJs (by rw [List.length_take, HO.out]; omega)
      have HX := Lib.hid hx
      have c0 : wr.cell? ⟨Bs, 0, none⟩ = some (.string s) := cCc (hnx _ hBs) 0
      clear hx
      gi_wp2
      refine hR.mono ?_
      rintro e W3 (⟨rfl, hJ3, hk3⟩ | ⟨rfl, hJx3⟩)
      · gi_wp2
        go_roundw
        case rel => exact ⟨k + 1, by omega, by simp, by rw [take_snoc' HX.out]; exact hJ3, hnx.trans hk3⟩
        case measure => simp [intOf]; omega
      · gi_wp2
        refine bodyPost_ret (results_none rfl _ _ _) rfl ?_
        exact ⟨⟨_, rfl⟩, .inr ⟨_, by have h := List.take_prefix (k + 1) (octs s); rwa [take_snoc' HX.out] at h, hJx3⟩⟩
    · obtain rfl : k = s.size := by omega
      gi_wp2
      go_end0
      exact ⟨⟨_, rfl⟩, .inl ⟨_, List.take_of_length_le (by rw [HO.out]; omega), hJs⟩⟩
theorem octets_seq (Bs : Nat) (s : ByteArray) (hreach : s.size < 4294967281) (w : World) (hc : w.heap[Bs]? = some (.cells #[.string s] 9 (0, 0))) :
    SeqStopsK Fence.wide 8 Tryz.prog 249 #[.pointer (some ⟨Bs, 0, none⟩)] (fun x : Nat × UInt8 => #[.int .i64 x.1, .int .u8 x.2.toNat]) (KB Bs) (fun ys => ys = octs s) (fun pre => pre <+: octs s) (octs s).length w := fun l J Jx W hW _ _ hY h0 =>
  octets1 l Bs s hreach J Jx hY W (known hW (Nat.le_refl _) hc) h0
end Go.Proofs.YtpnlmfilmbodfaaGreatDoor

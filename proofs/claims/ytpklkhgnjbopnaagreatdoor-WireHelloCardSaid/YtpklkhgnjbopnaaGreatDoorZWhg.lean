/- Package token: the reader, Body, Check. Printed by gen_whd.py. Package token: Check. Printed by gen_whe.py. Package collector: Mint, Auth; tokens that were minted. What rows have in common: configs and claims opened, beside keys, requests and replies. Package wire: Feed of one frame on the third connection; Who. -/
import Derived.Test.YtpklkhgnjbopnaaGreatDoorZWhc
import Derived.Test.YtpklkhgnjbopnaaGreatDoorZRKk
namespace Go.Proofs.YtpklkhgnjbopnaaGreatDoor
open Go Go.RowKit Go.Shelf
def TkAt (b : Nat) (st : Rd) (W : World) : Prop := match st with
 | some l => l.length < 4294967281 ∧ W.heap[b]? = some (.cells #[.string ⟨l.toArray⟩, .bool false] 183 (0, 0))
 | none => ∃ s : ByteArray, W.heap[b]? = some (.cells #[.string s, .bool true] 183 (0, 0))
theorem TkAt.lt {b : Nat} {st : Rd} {W : World} (h : TkAt b st W) : b < W.heap.size := by
 cases st with
 | none => obtain ⟨s, h⟩ := h; exact (Array.getElem?_eq_some_iff.1 h).1
 | some l => exact (Array.getElem?_eq_some_iff.1 h.2).1
theorem TkAt.keep {b : Nat} {st : Rd} {q : Nat → Prop} {A B : World} (h : TkAt b st A) (hk : Kept q A B) (hq : q b) : TkAt b st B := by
 cases st with
 | none => obtain ⟨s, h⟩ := h; exact ⟨s, hk.known hq h⟩
 | some l => exact ⟨h.1, hk.known hq h.2⟩
set_option maxRecDepth 100000 in
set_option maxHeartbeats 4000000 in
theorem tknum_x (b : Nat) (st : Rd) (fm ff : Addr) (w : World) (h : TkAt b st w) (hE : GF fm ff w) :
  Calls Tryz.prog 88 #[.pointer (some ⟨b, 0, none⟩)] w fun e w' => e = .returned (.int .u64 (rNum st).1) ∧ TkAt b (rNum st).2 w' ∧ Kept (· ≠ b) w w' := by
 cases st with
 | none =>
  obtain ⟨s, hX⟩ := h
  have c1 : w.cell? ⟨b, 1, none⟩ = some (.bool true) := cCc hX 1
  have HF : Hid (TkAt b none w) := ⟨s, hX⟩
  clear hE hX
  go_enter Tryz.func88, Tryz.ntmps88
  go_wp2_with fail
  go_ret
  exact ⟨rfl, HF.out, .refl⟩
 | some l =>
  obtain ⟨hl, hX⟩ := h
  obtain ⟨c0, c1⟩ := cl2 hX
  have hG := Get_any ⟨l.toArray⟩ fm ff w (by rw [str_size]; exact hl) hE
  rw [str_list] at hG
  have HX := Lib.hid hX
  have hfr : Hid (∀ w1, Below w.heap.size w w1 → (w1.frozen? ⟨b, 0, none⟩ = false ∧ w1.cell? ⟨b, 0, none⟩ = some (.string ⟨l.toArray⟩)) ∧ w1.frozen? ⟨b, 1, none⟩ = false ∧ w1.cell? ⟨b, 1, none⟩ = some (.bool false)) := fun w1 hb =>
   have h1 := known hb (Nat.le_refl _) hX
   ⟨⟨cFz h1 0, cCc h1 0⟩, cFz h1 1, cCc h1 1⟩
  cases hg : getN l with
  | got n r =>
   rw [hg] at hG
   have e : rNum (some l) = (n, some r) := by unfold rNum; dsimp only; rw [hg]
   rw [e]
   have HF : Hid (∀ w1, Below w.heap.size w w1 → TkAt b (some r) (w1.setCell ⟨b, 0, none⟩ (.string ⟨r.toArray⟩)) ∧ Kept (· ≠ b) w (w1.setCell ⟨b, 0, none⟩ (.string ⟨r.toArray⟩))) := fun w1 hb =>
    ⟨⟨Nat.lt_of_le_of_lt (getN_len hg) hl, hSk (known hb (Nat.le_refl _) hX) (i := 0) _⟩, (Kept.of hb).set (fun _ h => h rfl) _ _⟩
   clear hE hX hg e
   go_enter Tryz.func88, Tryz.ntmps88
   go_wp2_with (go_at_call 90; refine hG.mono ?_; rintro e w1 ⟨rfl, hb1⟩; unfold getRes; obtain ⟨⟨f0, d0⟩, f1, d1⟩ := hfr.out w1 hb1; have HB1 := Lib.hid hb1; clear hb1)
   go_ret
   exact ⟨rfl, HF.out w1 HB1.out⟩
  | more =>
   rw [hg] at hG
   have e : rNum (some l) = (0, none) := by unfold rNum; dsimp only; rw [hg]
   rw [e]
   have HF : Hid (∀ w1, Below w.heap.size w w1 → TkAt b none (w1.setCell ⟨b, 1, none⟩ (.bool true)) ∧ Kept (· ≠ b) w (w1.setCell ⟨b, 1, none⟩ (.bool true))) := fun w1 hb =>
    ⟨⟨_, hSk (known hb (Nat.le_refl _) hX) (i := 1) _⟩, (Kept.of hb).set (fun _ h => h rfl) _ _⟩
   clear hE hX hg e
   go_enter Tryz.func88, Tryz.ntmps88
   go_wp2_with (go_at_call 90; refine hG.mono ?_; rintro e w1 ⟨rfl, hb1⟩; unfold getRes; obtain ⟨⟨f0, d0⟩, f1, d1⟩ := hfr.out w1 hb1; have HB1 := Lib.hid hb1; clear hb1)
   go_ret
   exact ⟨rfl, HF.out w1 HB1.out⟩
  | bad =>
   rw [hg] at hG
   have e : rNum (some l) = (0, none) := by unfold rNum; dsimp only; rw [hg]
   rw [e]
   have HF : Hid (∀ w1, Below w.heap.size w w1 → TkAt b none (w1.setCell ⟨b, 1, none⟩ (.bool true)) ∧ Kept (· ≠ b) w (w1.setCell ⟨b, 1, none⟩ (.bool true))) := fun w1 hb =>
    ⟨⟨_, hSk (known hb (Nat.le_refl _) hX) (i := 1) _⟩, (Kept.of hb).set (fun _ h => h rfl) _ _⟩
   clear hE hX hg e
   go_enter Tryz.func88, Tryz.ntmps88
   go_wp2_with (go_at_call 90; refine hG.mono ?_; rintro e w1 ⟨rfl, hb1⟩; unfold getRes; obtain ⟨⟨f0, d0⟩, f1, d1⟩ := hfr.out w1 hb1; have HB1 := Lib.hid hb1; clear hb1)
   go_ret
   exact ⟨rfl, HF.out w1 HB1.out⟩
theorem stor3 {w W : World} {b : Nat} {x0 x1 x2 : Value} (v0 v1 v2 : Value) {t : TypeId} (h : W.heap[b]? = some (.cells #[x0, x1, x2] t (0, 0))) {n : Nat} (hB : Below n w W) (hn : n ≤ b) :
  ∃ V, ((W.setCell ⟨b, 0, none⟩ v0).setCell ⟨b, 1, none⟩ v1).setCell ⟨b, 2, none⟩ v2 = V ∧ V.heap[b]? = some (.cells #[v0, v1, v2] t (0, 0)) ∧ Below n w V ∧ Kept (· ≠ b) W V := by
 refine ⟨_, rfl, ?_⟩
 have hK : ∀ X, Kept (· ≠ b) W X → ∀ i v, Kept (· ≠ b) W (X.setCell ⟨b, i, none⟩ v) := fun X hX i v => hX.set (fun _ h => h rfl) _ _
 have hG : ∀ X, Below n w X → ∀ i v, Below n w (X.setCell ⟨b, i, none⟩ v) := fun X hX i v => hX.setCell (p := ⟨b, i, none⟩) hn _
 refine ⟨?_, hG _ (hG _ (hG _ hB _ _) _ _) _ _, hK _ (hK _ (hK _ Kept.refl _ _) _ _) _ _⟩
 clear hK hG hB
 replace h : (W.setCell ⟨b, 0, none⟩ v0).heap[b]? = some (.cells #[v0, x1, x2] t (0, 0)) := hSk h v0
 generalize W.setCell ⟨b, 0, none⟩ v0 = W at h ⊢
 replace h : (W.setCell ⟨b, 1, none⟩ v1).heap[b]? = some (.cells #[v0, v1, x2] t (0, 0)) := hSk h v1
 generalize W.setCell ⟨b, 1, none⟩ v1 = W at h ⊢
 exact hSk h v2
def tBody (l : List UInt8) : Option (Int × Int × Int) :=
 match (rNum (rNum (rNum (some l)).2).2).2 with
 | some r => if r.length = 8 ∧ 1 ≤ (rNum (rNum (some l)).2).1 ∧ (rNum (rNum (some l)).2).1 ≤ 3 then some ((rNum (some l)).1, (rNum (rNum (some l)).2).1, (rNum (rNum (rNum (some l)).2).2).1) else none
 | none => none
def tBodyV : Option (Int × Int × Int) → Value
 | some (t, r, u) => .tuple #[.agg #[.int .u64 t, .int .i64 r, .int .u64 u], .bool true]
 | none => .tuple #[.agg #[.int .u64 0, .int .i64 0, .int .u64 0], .bool false]
set_option maxRecDepth 100000 in
set_option maxHeartbeats 4000000 in
theorem Body_any (s : ByteArray) (fm ff : Addr) (w : World) (hs : s.size < 4294967281) (hE : GF fm ff w) : CR 51 #[.string s] w (tBodyV (tBody s.data.toList)) := by
 obtain ⟨W, hW, hX, hY, hB, hz⟩ := boxes2 w #[.int .u64 0, .int .i64 0, .int .u64 0] 34 #[.string s, .bool false] 183
 obtain ⟨l, hl⟩ : ∃ l, s.data.toList = l := ⟨_, rfl⟩
 have hsl : s = ⟨l.toArray⟩ := by rw [← hl]
 have h0 : TkAt (w.heap.size + 1) (some l) W := ⟨by rw [← hl]; simpa using hs, by rw [← hsl]; exact hY⟩
 unfold tBody
 rw [hl]
 obtain ⟨⟨t, s0⟩, e0⟩ : ∃ p, rNum (some l) = p := ⟨_, rfl⟩
 rw [e0]
 dsimp only
 obtain ⟨⟨r, s1⟩, e1⟩ : ∃ p, rNum s0 = p := ⟨_, rfl⟩
 rw [e1]
 dsimp only
 have hru : U64 r := by have := rNum_u64 s0; rwa [e1] at this
 obtain ⟨⟨u, s2⟩, e2⟩ : ∃ p, rNum s1 = p := ⟨_, rfl⟩
 rw [e2]
 dsimp only
 have HN : Hid (∀ st V, TkAt (w.heap.size + 1) st V → Below w.heap.size w V → Calls Tryz.prog 88 #[.pointer (some ⟨w.heap.size + 1, 0, none⟩)] V fun e w' => e = .returned (.int .u64 (rNum st).1) ∧ TkAt (w.heap.size + 1) (rNum st).2 w' ∧ Kept (· ≠ w.heap.size + 1) V w') := fun st V h hb => tknum_x (w.heap.size + 1) st fm ff V h (hE.below hb)
 have H0 := Lib.hid (HN.out _ W h0 hB)
 rw [e0] at H0
 have H1 : Hid (∀ V, TkAt (w.heap.size + 1) s0 V → Below w.heap.size w V → Calls Tryz.prog 88 #[.pointer (some ⟨w.heap.size + 1, 0, none⟩)] V fun e w' => e = .returned (.int .u64 r) ∧ TkAt (w.heap.size + 1) s1 w' ∧ Kept (· ≠ w.heap.size + 1) V w') := fun V h hb => by have := HN.out _ V h hb; rwa [e1] at this
 have H2 : Hid (∀ V, TkAt (w.heap.size + 1) s1 V → Below w.heap.size w V → Calls Tryz.prog 88 #[.pointer (some ⟨w.heap.size + 1, 0, none⟩)] V fun e w' => e = .returned (.int .u64 u) ∧ TkAt (w.heap.size + 1) s2 w' ∧ Kept (· ≠ w.heap.size + 1) V w') := fun V h hb => by have := HN.out _ V h hb; rwa [e2] at this
 have HW : Hid (W.heap[w.heap.size]? = some (.cells #[.int .u64 0, .int .i64 0, .int .u64 0] 34 (0, 0)) ∧ Below w.heap.size w W ∧ w.heap.size + 1 < W.heap.size) := ⟨hX, hB, by omega⟩
 have HKb : Hid (∀ V V', Kept (· ≠ w.heap.size + 1) V V' → (V.heap[w.heap.size]? = some (.cells #[.int .u64 0, .int .i64 0, .int .u64 0] 34 (0, 0)) ∧ Below w.heap.size w V ∧ w.heap.size + 1 < V.heap.size) → (V'.heap[w.heap.size]? = some (.cells #[.int .u64 0, .int .i64 0, .int .u64 0] 34 (0, 0)) ∧ Below w.heap.size w V' ∧ w.heap.size + 1 < V'.heap.size)) := fun V V' hk ⟨a1, a2, a3⟩ =>
  ⟨hk.known (show w.heap.size ≠ w.heap.size + 1 by omega) a1, a2.trans (hk.below (fun k hk => by show k ≠ w.heap.size + 1; omega) (by omega)), Nat.lt_of_lt_of_le a3 hk.size⟩
 rw [hsl] at hW ⊢
 obtain ⟨o, ho⟩ : ∃ o, (match s2 with | some r' => if r'.length = 8 ∧ 1 ≤ r ∧ r ≤ 3 then some (t, r, u) else none | none => none : Option (Int × Int × Int)) = o := ⟨_, rfl⟩
 rw [ho]
 have HO := Lib.hid ho
 clear ho
 clear h0 e0 e1 e2 HN hX hY hB hz hl hsl hs hE
 obtain ⟨hr0, hr1⟩ := hru
 go_enter Tryz.func51, Tryz.ntmps51
 go_wp2_with fail
 refine H0.out.mono ?_
 rintro e w1 ⟨rfl, hr, hk⟩
 have HW1 := Lib.hid (HKb.out _ _ hk HW.out)
 have HR1 := Lib.hid (H1.out w1 hr HW1.out.2.1)
 clear hr hk
 go_wp2_with fail
 refine HR1.out.mono ?_
 rintro e w2 ⟨rfl, hr, hk⟩
 have HW2 := Lib.hid (HKb.out _ _ hk HW1.out)
 have HR2 := Lib.hid (H2.out w2 hr HW2.out.2.1)
 clear hr hk
 go_wp2_with fail
 refine HR2.out.mono ?_
 rintro e w3 ⟨rfl, hr, hk⟩
 have HW3 := Lib.hid (HKb.out _ _ hk HW2.out)
 clear hk
 obtain ⟨V0, hV0, hV0X, hV0B, -⟩ := stor3 (.int .u64 0) (.int .i64 0) (.int .u64 0) HW3.out.1 HW3.out.2.1 (Nat.le_refl _)
 have h3X := HW3.out.1
 obtain ⟨f0, f1, f2⟩ := cz3 h3X
 obtain ⟨z0, z1, z2⟩ := cl3 h3X
 cases s2 with
 | none =>
  obtain ⟨sx, hr⟩ := hr
  have c1 : w3.cell? ⟨w.heap.size + 1, 1, none⟩ = some (.bool true) := cCc hr 1
  obtain ⟨v0, v1, v2⟩ := cl3 hV0X
  have HB := Lib.hid hV0B
  clear h3X hr hV0X hV0B
  go_wp2_with fail
  exact bodyPost_ret (v := .tuple #[.agg #[.int .u64 0, .int .i64 0, .int .u64 0], .bool false]) (by simp [results, Tryz.f51, go_sem, v0, v1, v2]) rfl ⟨by rw [← HO.out]; rfl, HB.out⟩
 | some q =>
  obtain ⟨hq, hr⟩ := hr
  obtain ⟨c0, c1⟩ := cl2 hr
  have hqs : (⟨q.toArray⟩ : ByteArray).size = q.length := str_size _
  by_cases h8 : q.length = 8
  ·have h8' : ((q.length : Int) != 8) = false := by simp [h8]
   have h8'' : ((q.length : Int) == 8) = true := by simp [h8]
   have h9 : (q.length : Int) = 8 := by omega
   by_cases hA : r < 1
   ·have g1 : decide (r < 1) = true := decide_eq_true hA
    obtain ⟨v0, v1, v2⟩ := cl3 hV0X
    have HB := Lib.hid hV0B
    clear h3X hr hV0X hV0B
    go_wp2_with fail
    exact bodyPost_ret (v := .tuple #[.agg #[.int .u64 0, .int .i64 0, .int .u64 0], .bool false]) (by simp [results, Tryz.f51, go_sem, v0, v1, v2]) rfl ⟨by rw [← HO.out]; rw [if_neg (by omega)]; rfl, HB.out⟩
   ·have g1 : decide (r < 1) = false := decide_eq_false hA
    by_cases hC : 3 < r
    ·have g2 : decide (3 < r) = true := decide_eq_true hC
     obtain ⟨v0, v1, v2⟩ := cl3 hV0X
     have HB := Lib.hid hV0B
     clear h3X hr hV0X hV0B
     go_wp2_with fail
     exact bodyPost_ret (v := .tuple #[.agg #[.int .u64 0, .int .i64 0, .int .u64 0], .bool false]) (by simp [results, Tryz.f51, go_sem, v0, v1, v2]) rfl ⟨by rw [← HO.out]; rw [if_neg (by omega)]; rfl, HB.out⟩
    ·have g2 : decide (3 < r) = false := decide_eq_false hC
     have g3 : IntKind.i64.wrap r = r := wrap_i64_nonneg (by omega) (by omega)
     clear hV0 hV0X hV0B
     clear V0
     obtain ⟨V, hV, hVX, hVB, -⟩ := stor3 (.int .u64 t) (.int .i64 r) (.int .u64 u) HW3.out.1 HW3.out.2.1 (Nat.le_refl _)
     obtain ⟨v0, v1, v2⟩ := cl3 hVX
     have HB := Lib.hid hVB
     clear h3X hr hVX hVB
     go_wp2_with fail
     exact bodyPost_ret (v := .tuple #[.agg #[.int .u64 t, .int .i64 r, .int .u64 u], .bool true]) (by simp [results, Tryz.f51, go_sem, v0, v1, v2]) rfl ⟨by rw [← HO.out]; rw [if_pos ⟨h8, by omega, by omega⟩]; rfl, HB.out⟩
  ·have h8' : ((q.length : Int) != 8) = true := by simp; omega
   have h8'' : ((q.length : Int) == 8) = false := by simp; omega
   have h9 : ¬ (q.length : Int) = 8 := by omega
   obtain ⟨v0, v1, v2⟩ := cl3 hV0X
   have HB := Lib.hid hV0B
   clear h3X hr hV0X hV0B
   go_wp2_with fail
   exact bodyPost_ret (v := .tuple #[.agg #[.int .u64 0, .int .i64 0, .int .u64 0], .bool false]) (by simp [results, Tryz.f51, go_sem, v0, v1, v2]) rfl ⟨by rw [← HO.out]; rw [if_neg (fun h => h8 h.1)]; rfl, HB.out⟩
end Go.Proofs.YtpklkhgnjbopnaaGreatDoor
namespace Go.Proofs.YtpklkhgnjbopnaaGreatDoor
open Go Go.RowKit Go.Shelf
theorem rNum_len {st : Rd} {q : List UInt8} (h : (rNum st).2 = some q) : ∃ l, st = some l ∧ q.length ≤ l.length := by
 cases st with
 | none => cases h
 | some l =>
  refine ⟨l, rfl, ?_⟩
  unfold rNum at h
  dsimp only at h
  split at h
  ·rename_i e
   cases h
   exact getN_len e
  ·cases h
  ·cases h
theorem tBody_len {l : List UInt8} {x : Int × Int × Int} (h : tBody l = some x) : 8 ≤ l.length := by
 unfold tBody at h
 split at h
 ·rename_i q hq
  split at h
  ·rename_i h8
   obtain ⟨l2, e2, h2⟩ := rNum_len hq
   obtain ⟨l1, e1, h1⟩ := rNum_len e2
   obtain ⟨l0, e0, h0⟩ := rNum_len e1
   cases e0
   omega
  ·cases h
 ·cases h
theorem strne2 {a b : ByteArray} (h : a ≠ b) : (a.toList == b.toList) = false := by
 rw [beq_eq_false_iff_ne]
 intro e
 apply h
 rw [Lib.toList_data, Lib.toList_data] at e
 exact ByteArray.ext (Array.ext' e)
def chkV (A B : Int) (s : ByteArray) (now : Int) : Value := match tBody s.data.toList with
 | none => .tuple #[.agg #[.int .u64 0, .int .i64 0, .int .u64 0], .int .i64 170]
 | some (t, r, u) => if s.extract (s.size - 8) s.size = tokSum A B (s.extract 0 (s.size - 8)) then (if u < now then .tuple #[.agg #[.int .u64 0, .int .i64 0, .int .u64 0], .int .i64 171] else .tuple #[.agg #[.int .u64 t, .int .i64 r, .int .u64 u], .int .i64 0])
  else .tuple #[.agg #[.int .u64 0, .int .i64 0, .int .u64 0], .int .i64 170]
set_option maxRecDepth 100000 in
set_option maxHeartbeats 4000000 in
theorem tCheck_any (A B : Int) (s : ByteArray) (now : Int) (fm ff : Addr) (w : World) (hs : s.size < 4294967281) (hE : GF fm ff w) : CR 52 #[.agg #[.int .u64 A, .int .u64 B], .string s, .int .u64 now] w (chkV A B s now) := by
 obtain ⟨W, hW, hX, hY, hB, hz⟩ := boxes2 w #[.int .u64 A, .int .u64 B] 24 #[.int .u64 0, .int .i64 0, .int .u64 0] 34
 have HBd := Lib.hid (Body_any s fm ff W hs (hE.below hB))
 have HW : Hid (W.heap[w.heap.size]? = some (.cells #[.int .u64 A, .int .u64 B] 24 (0, 0)) ∧ W.heap[w.heap.size + 1]? = some (.cells #[.int .u64 0, .int .i64 0, .int .u64 0] 34 (0, 0)) ∧ Below w.heap.size w W) := ⟨hX, hY, hB⟩
 unfold chkV
 cases hb : tBody s.data.toList with
 | none =>
  rw [hb] at HBd
  dsimp only [tBodyV] at HBd ⊢
  clear hX hY hB hz hE hb
  go_enter Tryz.func52, Tryz.ntmps52
  go_wp2_with fail
  refine HBd.out.mono ?_
  rintro e w1 ⟨rfl, hb⟩
  obtain ⟨V, hV, hVX, hBV, hzV⟩ := boxes1 w1 #[.int .u64 0, .int .i64 0, .int .u64 0] 34
  have r0 := known hBV (Nat.le_refl _) (known hb (Nat.le_refl _) HW.out.2.1)
  obtain ⟨f0, f1, f2⟩ := cz3 r0
  obtain ⟨z0, z1, z2⟩ := cl3 r0
  have e0 : V.setCell ⟨w.heap.size + 1, 0, none⟩ (.int .u64 0) = V := set_same r0 rfl
  have e1 : V.setCell ⟨w.heap.size + 1, 1, none⟩ (.int .i64 0) = V := set_same r0 rfl
  have e2 : V.setCell ⟨w.heap.size + 1, 2, none⟩ (.int .u64 0) = V := set_same r0 rfl
  have HBV : Hid (Below w.heap.size w V) := (HW.out.2.2.trans (hb.mono HW.out.2.2.size)).trans (hBV.mono (Nat.le_trans HW.out.2.2.size hb.size))
  obtain ⟨y0, y1, y2⟩ := cl3 hVX
  obtain ⟨g0, g1, g2⟩ := cz3 hVX
  have e3 : V.setCell ⟨w1.heap.size, 0, none⟩ (.int .u64 0) = V := set_same hVX rfl
  have e4 : V.setCell ⟨w1.heap.size, 1, none⟩ (.int .i64 0) = V := set_same hVX rfl
  have e5 : V.setCell ⟨w1.heap.size, 2, none⟩ (.int .u64 0) = V := set_same hVX rfl
  clear hb hVX hBV hzV r0
  go_wp2_with fail
  exact bodyPost_ret (v := .tuple #[.agg #[.int .u64 0, .int .i64 0, .int .u64 0], .int .i64 170]) (by simp [results, Tryz.f52, go_sem, z0, z1, z2]) rfl ⟨rfl, HBV.out⟩
 | some x =>
  obtain ⟨t, r, u⟩ := x
  rw [hb] at HBd
  dsimp only [tBodyV] at HBd ⊢
  have h8 : 8 ≤ s.size := tBody_len hb
  obtain ⟨a, ha⟩ : ∃ a, s.extract (s.size - 8) s.size = a := ⟨_, rfl⟩
  obtain ⟨q, hq⟩ : ∃ q, s.extract 0 (s.size - 8) = q := ⟨_, rfl⟩
  have hqs : q.size < 4294967281 := by rw [← hq, ByteArray.size_extract]; omega
  rw [ha, hq]
  have HS := Lib.hid fun V => sumOf_any A B q V hqs
  obtain ⟨p, hp⟩ : ∃ p, tokSum A B q = p := ⟨_, rfl⟩
  rw [hp] at HS ⊢
  obtain ⟨R, hR⟩ : ∃ R, (if a = p then (if u < now then Value.tuple #[.agg #[.int .u64 0, .int .i64 0, .int .u64 0], .int .i64 171] else .tuple #[.agg #[.int .u64 t, .int .i64 r, .int .u64 u], .int .i64 0]) else .tuple #[.agg #[.int .u64 0, .int .i64 0, .int .u64 0], .int .i64 170]) = R := ⟨_, rfl⟩
  rw [hR]
  have HR := Lib.hid hR
  clear hX hY hB hz hE hb hp hqs hR
  go_enter Tryz.func52, Tryz.ntmps52
  go_wp2_with fail
  refine HBd.out.mono ?_
  rintro e w1 ⟨rfl, hb⟩
  obtain ⟨V, hV, hVX, hBV, hzV⟩ := boxes1 w1 #[.int .u64 t, .int .i64 r, .int .u64 u] 34
  obtain ⟨D, hD⟩ : ∃ D, V.drew = D := ⟨_, rfl⟩
  have k0 := known hBV (Nat.le_refl _) (known hb (Nat.le_refl _) HW.out.1)
  have k1 := known hBV (Nat.le_refl _) (known hb (Nat.le_refl _) HW.out.2.1)
  have hc9 : (8 : Int) ≤ (s.size : Int) ∧ (s.size : Int) - 8 ≤ (s.size : Int) := by omega
  have htn : ((s.size : Int) - 8).toNat = s.size - 8 := by omega
  have HD : Hid (V.drew = D) := hD
  have HQ : Hid (D.heap[w.heap.size]? = some (.cells #[.int .u64 A, .int .u64 B] 24 (0, 0)) ∧ D.heap[w.heap.size + 1]? = some (.cells #[.int .u64 0, .int .i64 0, .int .u64 0] 34 (0, 0)) ∧ D.heap[w1.heap.size]? = some (.cells #[.int .u64 t, .int .i64 r, .int .u64 u] 34 (0, 0)) ∧ Below w.heap.size w D) := by
   rw [Hid, ← hD]
   exact ⟨k0, k1, hVX, ((HW.out.2.2.trans (hb.mono HW.out.2.2.size)).trans (hBV.mono (Nat.le_trans HW.out.2.2.size hb.size))).drew⟩
  have HF : Hid (∀ Y, Below D.heap.size D Y → Y.cell? ⟨w.heap.size, 0, none⟩ = some (.int .u64 A) ∧ Y.cell? ⟨w.heap.size, 1, none⟩ = some (.int .u64 B)) := fun Y hY => by
   have y1 := known hY (Nat.le_refl _) HQ.out.1
   exact ⟨cCc y1 0, cCc y1 1⟩
  have HG : Hid (∀ Y, Below D.heap.size D Y → Y.heap[w.heap.size + 1]? = some (.cells #[.int .u64 0, .int .i64 0, .int .u64 0] 34 (0, 0)) ∧ Y.heap[w1.heap.size]? = some (.cells #[.int .u64 t, .int .i64 r, .int .u64 u] 34 (0, 0)) ∧ Below w.heap.size w Y) := fun Y hY =>
   ⟨known hY (Nat.le_refl _) HQ.out.2.1, known hY (Nat.le_refl _) HQ.out.2.2.1, HQ.out.2.2.2.trans (hY.mono HQ.out.2.2.2.size)⟩
  obtain ⟨d0, d1⟩ := HF.out D (Below.refl _ _)
  clear hb hVX hBV hzV k0 k1 hD
  go_wp2_with fail
  refine wp_region_held_drew (S := fun w' => w'.cell? ⟨w.heap.size, 0, none⟩ = some (.int .u64 A) ∧ w'.cell? ⟨w.heap.size, 1, none⟩ = some (.int .u64 B)) (by kernel_rfl) (by rw [HD.out]; exact ⟨d0, d1⟩) (fun hS => ?_)
  rw [HD.out] at hS ⊢
  refine wpAnyH_take (i := 0) (v := ?_) rfl (by kernel_rfl) (by kernel_rfl) (by kernel_rfl) (fun _ _ _ h => h) (Or.inl ⟨by rfl, ?_⟩) (by assumption) ?_
  rotate_left
  ·intro w hSw; go_simp; with_reducible rfl
  refine wpAnyH_take (i := 1) (v := ?_) rfl (by kernel_rfl) (by kernel_rfl) (by kernel_rfl) (fun _ _ _ h => h) (Or.inl ⟨by rfl, ?_⟩) (by assumption) ?_
  rotate_left
  ·intro w hSw; go_simp; with_reducible rfl
  refine wpAnyH_take (i := 2) (v := ?_) rfl (by kernel_rfl) (by kernel_rfl) (by kernel_rfl) (fun _ _ _ h => h) (Or.inl ⟨by rfl, ?_⟩) (by assumption) ?_
  rotate_left
  ·intro w hSw; go_simp; with_reducible rfl
  refine wpAnyH_take (i := 3) (v := ?_) rfl (by kernel_rfl) (by kernel_rfl) (by kernel_rfl) (fun _ _ _ h => h) (Or.inl ⟨by rfl, ?_⟩) (by assumption) ?_
  rotate_left
  ·intro w hSw; go_split_ands; go_simp; with_reducible rfl
  refine wpAnyH_take (i := 4) (v := ?_) rfl (by kernel_rfl) (by kernel_rfl) (by kernel_rfl) (fun _ _ _ h => h) (Or.inl ⟨by rfl, ?_⟩) (by assumption) ?_
  rotate_left
  ·intro w hSw; go_simp; with_reducible rfl
  refine wpAnyH_take (i := 5) (v := ?_) rfl (by kernel_rfl) (by kernel_rfl) (by kernel_rfl) (fun _ _ _ h => h) (Or.inl ⟨by rfl, ?_⟩) (by assumption) ?_
  rotate_left
  ·intro w hSw; go_simp; with_reducible rfl
  refine wpAnyH_take (i := 6) (v := ?_) rfl (by kernel_rfl) (by kernel_rfl) (by kernel_rfl) (fun _ _ _ h => h) (Or.inl ⟨by rfl, ?_⟩) (by assumption) ?_
  rotate_left
  ·intro w hSw; go_simp; with_reducible rfl
  refine wpAnyH_ready (rs := [7]) (by kernel_rfl) (by simp) ?_
  refine AllReadyH.cons rfl (fun K hK => ?_) ?_
  ·go_simp
   refine (HS.out _).mono ?_
   rintro e x1 ⟨rfl, hb⟩
   have HX1 := Lib.hid hb
   clear hb
   refine hK.out _ _ ?_ (fun hS2 => ?_)
   ·exact HF.out _ HX1.out
   clear hK K hS
   have hS := hS2
   clear hS2
   refine wpAnyH_take (i := 8) (v := ?_) rfl (by kernel_rfl) (by kernel_rfl) (by kernel_rfl) (fun _ _ _ h => h) (Or.inl ⟨by rfl, ?_⟩) (by assumption) ?_
   rotate_left
   ·intro w hSw; go_simp; with_reducible rfl
   refine wpAnyH_done (by kernel_rfl) ?_ _
   clear hS
   obtain ⟨r0, cX, hB1⟩ := HG.out x1 HX1.out
   obtain ⟨V0, hV0, hV0X, hV0B, -⟩ := stor3 (.int .u64 0) (.int .i64 0) (.int .u64 0) r0 hB1 (Nat.le_succ _)
   obtain ⟨V1, hV1, hV1X, hV1B, -⟩ := stor3 (.int .u64 t) (.int .i64 r) (.int .u64 u) r0 hB1 (Nat.le_succ _)
   obtain ⟨f0, f1, f2⟩ := cz3 r0
   obtain ⟨z0, z1, z2⟩ := cl3 r0
   obtain ⟨c0, c1, c2⟩ := cl3 cX
   obtain ⟨v0, v1, v2⟩ := cl3 hV0X
   obtain ⟨y0, y1, y2⟩ := cl3 hV1X
   have HB0 := Lib.hid hV0B
   have HB1 := Lib.hid hV1B
   clear r0 cX hB1 hV0X hV0B hV1X hV1B
   by_cases hp : a = p
   ·subst hp
    have hq3 : (!(a.toList == a.toList)) = false := by rw [beq_self_eq_true]; rfl
    rw [hq3]
    by_cases hu : u < now
    ·go_wp2_with fail
     exact bodyPost_ret (v := .tuple #[.agg #[.int .u64 0, .int .i64 0, .int .u64 0], .int .i64 171]) (by simp [results, Tryz.f52, go_sem, v0, v1, v2]) rfl ⟨by rw [← HR.out, if_pos trivial, if_pos hu], HB0.out⟩
    ·go_wp2_with fail
     exact bodyPost_ret (v := .tuple #[.agg #[.int .u64 t, .int .i64 r, .int .u64 u], .int .i64 0]) (by simp [results, Tryz.f52, go_sem, y0, y1, y2]) rfl ⟨by rw [← HR.out, if_pos trivial, if_neg (Int.not_lt.2 hu)], HB1.out⟩
   ·have hq3 : (!(a.toList == p.toList)) = true := by rw [strne2 hp]; rfl
    rw [hq3]
    go_wp2_with fail
    exact bodyPost_ret (v := .tuple #[.agg #[.int .u64 0, .int .i64 0, .int .u64 0], .int .i64 170]) (by simp [results, Tryz.f52, go_sem, v0, v1, v2]) rfl ⟨by rw [← HR.out, if_neg hp], HB0.out⟩
  exact AllReadyH.nil
end Go.Proofs.YtpklkhgnjbopnaaGreatDoor
namespace Go.Proofs.YtpklkhgnjbopnaaGreatDoor
open Go Go.RowKit Go.Shelf
def Cfg.ok (x : Cfg) : Prop := U64 x.id ∧ I64 x.bud ∧ U64 x.life
theorem tBody_mint (A B tn rl un : Int) (ht : U64 tn) (hu : U64 un) (h1 : 1 ≤ rl) (h3 : rl ≤ 3) : tBody (mintT A B tn rl un).data.toList = some (tn, rl, un) := by
 obtain ⟨q, hq⟩ : ∃ q, (tokSum A B (bodyB tn rl un)).data.toList = q := ⟨_, rfl⟩
 have hl : q.length = 8 := by rw [← hq, Array.length_toList]; exact tokSum_size A B (bodyB tn rl un)
 have e : (mintT A B tn rl un).data.toList = numsB [tn] ++ (numsB [rl] ++ (numsB [un] ++ q)) := by
  unfold mintT
  rw [ByteArray.data_append, Array.toList_append, hq]
  show numsB [tn, rl, un] ++ q = _
  rw [show ([tn, rl, un] : List Int) = [tn] ++ ([rl] ++ [un]) from rfl, numsB_append, numsB_append, List.append_assoc, List.append_assoc]
 have e0 := reads_num.put tn (numsB [rl] ++ (numsB [un] ++ q)) ht
 have e1 := reads_num.put rl (numsB [un] ++ q) ⟨by omega, by omega⟩
 have e2 := reads_num.put un q hu
 rw [e]
 unfold tBody
 rw [e0]
 dsimp only
 rw [e1]
 dsimp only
 rw [e2]
 dsimp only
 rw [if_pos ⟨hl, h1, h3⟩]
def chkR (A B : Int) (s : ByteArray) (now : Int) : (Int × Int × Int) × Int := match tBody s.data.toList with
 | none => ((0, 0, 0), 170)
 | some (t, r, u) => if s.extract (s.size - 8) s.size = tokSum A B (s.extract 0 (s.size - 8)) then (if u < now then ((0, 0, 0), 171) else ((t, r, u), 0)) else ((0, 0, 0), 170)
def clV (x : (Int × Int × Int) × Int) : Value := .tuple #[.agg #[.int .u64 x.1.1, .int .i64 x.1.2.1, .int .u64 x.1.2.2], .int .i64 x.2]
theorem chkV_eq (A B : Int) (s : ByteArray) (now : Int) : chkV A B s now = clV (chkR A B s now) := by
 unfold chkV chkR
 cases tBody s.data.toList with
 | none => rfl
 | some x =>
  obtain ⟨t, r, u⟩ := x
  dsimp only
  by_cases h1 : s.extract (s.size - 8) s.size = tokSum A B (s.extract 0 (s.size - 8))
  ·rw [if_pos h1, if_pos h1]
   by_cases h2 : u < now
   ·rw [if_pos h2, if_pos h2]; rfl
   ·rw [if_neg h2, if_neg h2]; rfl
  ·rw [if_neg h1, if_neg h1]; rfl
theorem chkR_mint (A B tn rl un now : Int) (ht : U64 tn) (hu : U64 un) (h1 : 1 ≤ rl) (h3 : rl ≤ 3) : chkR A B (mintT A B tn rl un) now = if un < now then ((0, 0, 0), 171) else ((tn, rl, un), 0) := by
 unfold chkR
 rw [tBody_mint A B tn rl un ht hu h1 h3]
 dsimp only
 have hs : (mintT A B tn rl un).size = (bodyB tn rl un).size + 8 := by unfold mintT; rw [ByteArray.size_append, tokSum_size]
 have e0 : (mintT A B tn rl un).extract 0 ((mintT A B tn rl un).size - 8) = bodyB tn rl un := by
  rw [hs, Nat.add_sub_cancel]
  unfold mintT
  apply ByteArray.ext
  apply Array.toList_inj.1
  rw [ByteArray.data_extract, ByteArray.data_append, Array.toList_extract, Array.toList_append, List.extract_eq_take_drop]
  show List.take ((bodyB tn rl un).data.size - 0) (List.drop 0 _) = _
  rw [Nat.sub_zero, List.drop_zero, ← Array.length_toList, List.take_left]
 have e1 : (mintT A B tn rl un).extract ((mintT A B tn rl un).size - 8) (mintT A B tn rl un).size = tokSum A B (bodyB tn rl un) := by
  have h8 := tokSum_size A B (bodyB tn rl un)
  rw [hs, Nat.add_sub_cancel]
  unfold mintT
  apply ByteArray.ext
  apply Array.toList_inj.1
  rw [ByteArray.data_extract, ByteArray.data_append, Array.toList_extract, Array.toList_append, List.extract_eq_take_drop]
  show List.take ((bodyB tn rl un).data.size + 8 - (bodyB tn rl un).data.size) (List.drop (bodyB tn rl un).data.size _) = _
  rw [← Array.length_toList, List.drop_left, Nat.add_sub_cancel_left, List.take_of_length_le]
  rw [Array.length_toList]
  exact Nat.le_of_eq h8
 rw [e0, e1, if_pos rfl]
theorem cnone_some (a : Addr) (w : World) : Calls Tryz.prog 46 #[.pointer (some a)] w fun e w' => e = .returned (.bool false) ∧ w' = w := by
 go_enter Tryz.func46, Tryz.ntmps46
 go_wp2_with fail
 go_ret
 exact ⟨rfl, rfl⟩
theorem tMint_any (A B tn rl un : Int) (w : World) (ht : U64 tn) (hun : U64 un) : CR 47 #[.agg #[.int .u64 A, .int .u64 B], .agg #[.int .u64 tn, .int .i64 rl, .int .u64 un]] w (.tuple #[.string (if 1 ≤ rl ∧ rl ≤ 3 then mintT A B tn rl un else ⟨#[]⟩), .int .i64 (if 1 ≤ rl ∧ rl ≤ 3 then 0 else 170)]) := by
 by_cases h : 1 ≤ rl ∧ rl ≤ 3
 ·rw [if_pos h, if_pos h]
  exact Mint_ok A B tn rl un w h.1 h.2 ht hun
 ·rw [if_neg h, if_neg h]
  exact Mint_bad A B tn rl un w h
def cMintR (A B : Int) (ids : List Int) (tn rl un : Int) : ByteArray × Int :=
 if tn ∈ ids ∧ 1 ≤ rl ∧ rl ≤ 3 then (mintT (keyC A B tn).1 (keyC A B tn).2 tn rl un, 0) else (⟨#[]⟩, 170)
set_option maxRecDepth 100000 in
set_option maxHeartbeats 2000000 in
theorem cMint_any (c : Nat) (A B : Int) (ids : List Int) (tn rl un : Int) (w : World) (h : CollAt c A B ids w.heap.size w) (ht : U64 tn) (hu : U64 un) :
  CR 14 #[.pointer (some ⟨c, 0, none⟩), .agg #[.int .u64 tn, .int .i64 rl, .int .u64 un]] w (.tuple #[.string (cMintR A B ids tn rl un).1, .int .i64 (cMintR A B ids tn rl un).2]) := by
 obtain ⟨W, hW, hX, hB, -⟩ := boxes1 w #[.int .u64 tn, .int .i64 rl, .int .u64 un] 34
 have hc : CollAt c A B ids W.heap.size W := (h.below hB).mono hB.size
 have HFi := Lib.hid (find_any c A B tn ids W hc)
 have HN := Lib.hid (cnone_some ⟨c, 0, none⟩ W)
 have HK := Lib.hid fun V => Key_any A B tn V ht
 have HMt := Lib.hid fun V => tMint_any (keyC A B tn).1 (keyC A B tn).2 tn rl un V ht hu
 have HR : Hid (∀ b : Bool, (tn ∈ ids ↔ b = true) → cMintR A B ids tn rl un = if b = true then (if 1 ≤ rl ∧ rl ≤ 3 then mintT (keyC A B tn).1 (keyC A B tn).2 tn rl un else ⟨#[]⟩, if 1 ≤ rl ∧ rl ≤ 3 then 0 else 170) else (⟨#[]⟩, 170)) := fun b hb => by
  unfold cMintR
  cases b with
  | true =>
   rw [if_pos rfl]
   by_cases hr : 1 ≤ rl ∧ rl ≤ 3
   ·rw [if_pos ⟨hb.2 rfl, hr⟩, if_pos hr, if_pos hr]
   ·rw [if_neg (fun h => hr h.2), if_neg hr, if_neg hr]
  | false => rw [if_neg (fun h => by have := hb.1 h.1; cases this)]; rfl
 obtain ⟨R, hR⟩ : ∃ R, cMintR A B ids tn rl un = R := ⟨_, rfl⟩
 rw [hR] at HR ⊢
 obtain ⟨m, hm⟩ : ∃ m, (if 1 ≤ rl ∧ rl ≤ 3 then mintT (keyC A B tn).1 (keyC A B tn).2 tn rl un else ⟨#[]⟩) = m := ⟨_, rfl⟩
 obtain ⟨er, her⟩ : ∃ er : Int, (if 1 ≤ rl ∧ rl ≤ 3 then 0 else 170) = er := ⟨_, rfl⟩
 rw [hm, her] at HMt HR
 obtain ⟨⟨K0, K1⟩, hk⟩ : ∃ k, keyC A B tn = k := ⟨_, rfl⟩
 rw [hk] at HK HMt
 dsimp only at HK HMt
 obtain ⟨ia, ic, ta, tc, ps, h0, hcl, -, -, -⟩ := hc
 have HC : Hid (∀ V, Below W.heap.size W V → (V.cell? ⟨c, 0, none⟩ = some (.int .u64 A) ∧ V.cell? ⟨c, 1, none⟩ = some (.int .u64 B)) ∧ V.cell? ⟨w.heap.size, 0, none⟩ = some (.int .u64 tn) ∧ V.cell? ⟨w.heap.size, 1, none⟩ = some (.int .i64 rl) ∧ V.cell? ⟨w.heap.size, 2, none⟩ = some (.int .u64 un)) := fun V hV => by
  have y0 := known hV (Nat.le_refl _) h0
  have y1 := known hV (Nat.le_refl _) hX
  exact ⟨⟨cCc y0 0, cCc y0 1⟩, cCc y1 0, cCc y1 1, cCc y1 2⟩
 obtain ⟨⟨k0, k1⟩, x0, x1, x2⟩ := HC.out W (Below.refl _ _)
 have HB := Lib.hid hB
 clear h h0 hcl hX hB ht hu hR hm her hk
 go_enter Tryz.func14, Tryz.ntmps14
 go_wp2_with fail
 refine HN.out.mono ?_
 rintro e w1 ⟨rfl, hw⟩
 have hw := hw.symm
 subst hw
 go_wp2_with fail
 refine HFi.out.mono ?_
 rintro e w1 ⟨hw, ⟨hin, rfl⟩ | ⟨hin, p, rfl⟩⟩
 ·have hw := hw.symm
  subst hw
  have hR := HR.out false ⟨fun h => absurd h hin, fun h => by cases h⟩
  rw [if_neg (by decide)] at hR
  subst hR
  clear hin HR
  go_wp2_with fail
  go_ret2
  exact ⟨rfl, HB.out⟩
 ·have hw := hw.symm
  subst hw
  have hR := HR.out true ⟨fun _ => rfl, fun _ => hin⟩
  rw [if_pos rfl] at hR
  subst hR
  clear hin HR
  go_wp2_with fail
  let Inv0 : World → Prop := fun V => Below W.heap.size W V
  have hgo : ∀ V V', Inv0 V → Below V.heap.size V V' → Inv0 V' := fun V V' h hb => Below.trans h (hb.mono (Below.size h))
  have q0 : ∀ X : WIn Inv0, X.world.cell? ⟨c, 0, none⟩ = some (.int .u64 A) := fun X => (HC.out X.world X.ok).1.1
  have q1 : ∀ X : WIn Inv0, X.world.cell? ⟨c, 1, none⟩ = some (.int .u64 B) := fun X => (HC.out X.world X.ok).1.2
  have q2 : ∀ X : WIn Inv0, X.world.cell? ⟨w.heap.size, 0, none⟩ = some (.int .u64 tn) := fun X => (HC.out X.world X.ok).2.1
  have q3 : ∀ X : WIn Inv0, X.world.cell? ⟨w.heap.size, 1, none⟩ = some (.int .i64 rl) := fun X => (HC.out X.world X.ok).2.2.1
  have q4 : ∀ X : WIn Inv0, X.world.cell? ⟨w.heap.size, 2, none⟩ = some (.int .u64 un) := fun X => (HC.out X.world X.ok).2.2.2
  have C1 : Hid (∀ X : WIn Inv0, Calls Tryz.prog 45 #[.agg #[.int .u64 A, .int .u64 B], .int .u64 tn] X.world fun e w' => e = .returned (.agg #[.int .u64 K0, .int .u64 K1]) ∧ ∃ Y : WIn Inv0, w' = Y.world) := fun X => calls_class_below hgo (HK.out X.world)
  have C2 : Hid (∀ X : WIn Inv0, Calls Tryz.prog 47 #[.agg #[.int .u64 K0, .int .u64 K1], .agg #[.int .u64 tn, .int .i64 rl, .int .u64 un]] X.world fun e w' => e = .returned (.tuple #[.string m, .int .i64 er]) ∧ ∃ Y : WIn Inv0, w' = Y.world) := fun X => calls_class_below hgo (HMt.out X.world)
  have HQ : Hid (∀ X : WIn Inv0, Below W.heap.size W X.world) := fun X => X.ok
  have hI0 : Hid (Inv0 (World.drew W)) := (Below.refl _ _).drew
  have hne : Nonempty (WIn Inv0) := ⟨⟨_, hI0.out⟩⟩
  clear hgo
  clear_value Inv0
  refine wp_region_class Inv0 (by kernel_rfl) (by kernel_rfl) hI0.out ?_
  repeat (first | go_big_quiet_step ((first | (go_at_call 45; with_reducible exact C1.out _) | (go_at_call 47; with_reducible exact C2.out _))) | quiet_step ((first | (go_at_call 45; with_reducible exact C1.out _) | (go_at_call 47; with_reducible exact C2.out _))))
  refine wpQuiet_nil ?_
  rintro _ ⟨X, rfl⟩
  have HBX : Hid (Below w.heap.size w X.world) := HB.out.trans ((HQ.out X).mono HB.out.size)
  generalize X.world = V at HBX ⊢
  go_wp2_with fail
  go_ret2
  exact ⟨rfl, HBX.out⟩
def authR (A B : Int) (ids : List Int) (s : ByteArray) (now : Int) : (Int × Int × Int) × Int := match tBody s.data.toList with
 | none => ((0, 0, 0), 170)
 | some (t, _, _) => if t ∈ ids then chkR (keyC A B t).1 (keyC A B t).2 s now else ((0, 0, 0), 170)
theorem tBody_u64 {l : List UInt8} {t r u : Int} (h : tBody l = some (t, r, u)) : U64 t := by
 unfold tBody at h
 split at h
 ·split at h
  ·cases h; exact rNum_u64 _
  ·cases h
 ·cases h
set_option maxRecDepth 100000 in
set_option maxHeartbeats 4000000 in
theorem cAuth_any (c : Nat) (A B : Int) (ids : List Int) (s : ByteArray) (now : Int) (fm ff : Addr) (w : World) (hs : s.size < 4294967281) (hE : GF fm ff w) (h : CollAt c A B ids w.heap.size w) :
  CR 16 #[.pointer (some ⟨c, 0, none⟩), .string s, .int .u64 now] w (clV (authR A B ids s now)) := by
 obtain ⟨W, hW, hX, hB, -⟩ := boxes1 w #[.int .u64 0, .int .i64 0, .int .u64 0] 34
 have hcW : CollAt c A B ids W.heap.size W := (h.below hB).mono hB.size
 have HBd := Lib.hid (Body_any s fm ff W hs (hE.below hB))
 have HN := Lib.hid (cnone_some ⟨c, 0, none⟩ W)
 have HW : Hid (W.heap[w.heap.size]? = some (.cells #[.int .u64 0, .int .i64 0, .int .u64 0] 34 (0, 0)) ∧ Below w.heap.size w W) := ⟨hX, hB⟩
 unfold authR
 cases hb : tBody s.data.toList with
 | none =>
  rw [hb] at HBd
  dsimp only [tBodyV] at HBd ⊢
  show CR _ _ _ (.tuple #[.agg #[.int .u64 0, .int .i64 0, .int .u64 0], .int .i64 170])
  clear hX hB hE hb h hcW
  go_enter Tryz.func16, Tryz.ntmps16
  go_wp2_with fail
  refine HN.out.mono ?_
  rintro e w0 ⟨rfl, hw⟩
  have hw := hw.symm
  subst hw
  go_wp2_with fail
  refine HBd.out.mono ?_
  rintro e w1 ⟨rfl, hb⟩
  obtain ⟨V, hV, hVX, hBV, hzV⟩ := boxes1 w1 #[.int .u64 0, .int .i64 0, .int .u64 0] 34
  have r0 := known hBV (Nat.le_refl _) (known hb (Nat.le_refl _) HW.out.1)
  obtain ⟨f0, f1, f2⟩ := cz3 r0
  obtain ⟨z0, z1, z2⟩ := cl3 r0
  have e0 : V.setCell ⟨w.heap.size, 0, none⟩ (.int .u64 0) = V := set_same r0 rfl
  have e1 : V.setCell ⟨w.heap.size, 1, none⟩ (.int .i64 0) = V := set_same r0 rfl
  have e2 : V.setCell ⟨w.heap.size, 2, none⟩ (.int .u64 0) = V := set_same r0 rfl
  have HBV : Hid (Below w.heap.size w V) := (HW.out.2.trans (hb.mono HW.out.2.size)).trans (hBV.mono (Nat.le_trans HW.out.2.size hb.size))
  obtain ⟨y0, y1, y2⟩ := cl3 hVX
  obtain ⟨g0, g1, g2⟩ := cz3 hVX
  have e3 : V.setCell ⟨w1.heap.size, 0, none⟩ (.int .u64 0) = V := set_same hVX rfl
  have e4 : V.setCell ⟨w1.heap.size, 1, none⟩ (.int .i64 0) = V := set_same hVX rfl
  have e5 : V.setCell ⟨w1.heap.size, 2, none⟩ (.int .u64 0) = V := set_same hVX rfl
  clear hb hVX hBV hzV r0
  go_wp2_with fail
  exact bodyPost_ret (v := .tuple #[.agg #[.int .u64 0, .int .i64 0, .int .u64 0], .int .i64 170]) (by simp [results, Tryz.f16, go_sem, z0, z1, z2]) rfl ⟨rfl, HBV.out⟩
 | some x =>
  obtain ⟨t, r, u⟩ := x
  rw [hb] at HBd
  dsimp only [tBodyV] at HBd ⊢
  have htu : U64 t := tBody_u64 hb
  have HK0 := Lib.hid fun V => Key_any A B t V htu
  obtain ⟨⟨K0, K1⟩, hk⟩ : ∃ k, keyC A B t = k := ⟨_, rfl⟩
  rw [hk] at HK0 ⊢
  dsimp only at HK0 ⊢
  have HK := HK0
  have hCk : ∀ V, Below w.heap.size w V → CR 52 #[.agg #[.int .u64 K0, .int .u64 K1], .string s, .int .u64 now] V (clV (chkR K0 K1 s now)) := fun V hV => by
   rw [← chkV_eq]
   exact tCheck_any K0 K1 s now fm ff V hs (hE.below hV)
  obtain ⟨⟨⟨t2, r2, u2⟩, er⟩, hc⟩ : ∃ x, chkR K0 K1 s now = x := ⟨_, rfl⟩
  rw [hc] at hCk ⊢
  unfold clV at hCk
  dsimp only at hCk
  have HCk := Lib.hid hCk
  have HFi : Hid (∀ V, Below W.heap.size W V → Calls Tryz.prog 43 #[.pointer (some ⟨c, 0, none⟩), .int .u64 t] V fun e w' => w' = V ∧ ((t ∉ ids ∧ e = .returned (.pointer none)) ∨ (t ∈ ids ∧ ∃ p, e = .returned (.pointer (some p))))) := fun V hV => find_any c A B t ids V ((hcW.below hV).mono hV.size)
  obtain ⟨ia, ic, ta, tc, ps, h0, hcl, -, -, -⟩ := hcW
  have HKc : Hid (∀ V, Below W.heap.size W V → V.cell? ⟨c, 0, none⟩ = some (.int .u64 A) ∧ V.cell? ⟨c, 1, none⟩ = some (.int .u64 B)) := fun V hV => by
   have y := known hV (Nat.le_refl _) h0
   exact ⟨cCc y 0, cCc y 1⟩
  have hne : c ≠ w.heap.size := by
   intro e
   have := h
   obtain ⟨_, _, _, _, _, _, hcl2, -⟩ := this
   omega
  have HNe := Lib.hid hne
  obtain ⟨R, hR⟩ : ∃ R, clV (if t ∈ ids then ((t2, r2, u2), er) else ((0, 0, 0), 170)) = R := ⟨_, rfl⟩
  rw [hR]
  have HR := Lib.hid hR
  clear hX hB hE hb h h0 hcl hne hk hc hCk HK0 htu hR
  go_enter Tryz.func16, Tryz.ntmps16
  go_wp2_with fail
  refine HN.out.mono ?_
  rintro e w0 ⟨rfl, hw⟩
  have hw := hw.symm
  subst hw
  go_wp2_with fail
  refine HBd.out.mono ?_
  rintro e w1 ⟨rfl, hb⟩
  obtain ⟨V, hV, hVX, hBV, hzV⟩ := boxes1 w1 #[.int .u64 t, .int .i64 r, .int .u64 u] 34
  have hWV : Below W.heap.size W V := hb.trans (hBV.mono hb.size)
  have HWV := Lib.hid hWV
  have HFV := Lib.hid (HFi.out V hWV)
  obtain ⟨y0, y1, y2⟩ := cl3 hVX
  have HVX := Lib.hid hVX
  have hb1 := hb.size
  have HLT : Hid (w.heap.size < w1.heap.size) := by have := HW.out.1; have := (Array.getElem?_eq_some_iff.1 this).1; rw [Hid]; omega
  clear hb hVX hBV hzV hWV hb1
  go_wp2_with fail
  refine HFV.out.mono ?_
  rintro e w2 ⟨hw, ⟨hin, rfl⟩ | ⟨hin, p, rfl⟩⟩
  ·have hw := hw.symm
   subst hw
   rw [if_neg hin] at HR
   have r0 := known HWV.out (Nat.le_refl _) HW.out.1
   obtain ⟨f0, f1, f2⟩ := cz3 r0
   obtain ⟨z0, z1, z2⟩ := cl3 r0
   have e0 : V.setCell ⟨w.heap.size, 0, none⟩ (.int .u64 0) = V := set_same r0 rfl
   have e1 : V.setCell ⟨w.heap.size, 1, none⟩ (.int .i64 0) = V := set_same r0 rfl
   have e2 : V.setCell ⟨w.heap.size, 2, none⟩ (.int .u64 0) = V := set_same r0 rfl
   have HBV : Hid (Below w.heap.size w V) := HW.out.2.trans (HWV.out.mono HW.out.2.size)
   clear r0 hin
   go_wp2_with fail
   exact bodyPost_ret (v := .tuple #[.agg #[.int .u64 0, .int .i64 0, .int .u64 0], .int .i64 170]) (by simp [results, Tryz.f16, go_sem, z0, z1, z2]) rfl ⟨by rw [← HR.out]; rfl, HBV.out⟩
  ·have hw := hw.symm
   subst hw
   rw [if_pos hin] at HR
   obtain rfl : R = .tuple #[.agg #[.int .u64 t2, .int .i64 r2, .int .u64 u2], .int .i64 er] := HR.out.symm
   obtain ⟨D, hD⟩ : ∃ D, V.drew = D := ⟨_, rfl⟩
   have HD : Hid (V.drew = D) := hD
   have hWD : Below W.heap.size W D := by rw [← hD]; exact HWV.out.drew
   have hxD : D.heap[w1.heap.size]? = some (.cells #[.int .u64 t, .int .i64 r, .int .u64 u] 34 (0, 0)) := by rw [← hD]; exact HVX.out
   have HD1 : Hid (Below w.heap.size w D) := HW.out.2.trans (hWD.mono HW.out.2.size)
   have HF : Hid (∀ Y, Below D.heap.size D Y → (Y.cell? ⟨c, 0, none⟩ = some (.int .u64 A) ∧ Y.cell? ⟨c, 1, none⟩ = some (.int .u64 B)) ∧ Y.cell? ⟨w1.heap.size, 0, none⟩ = some (.int .u64 t)) := fun Y hY =>
    ⟨HKc.out Y (hWD.trans (hY.mono hWD.size)), cCc (known hY (Nat.le_refl _) hxD) 0⟩
   have HG : Hid (∀ Y, Below D.heap.size D Y → Y.heap[w.heap.size]? = some (.cells #[.int .u64 0, .int .i64 0, .int .u64 0] 34 (0, 0)) ∧ Below w.heap.size w Y) := fun Y hY =>
    ⟨known (hWD.trans (hY.mono hWD.size)) (Nat.le_refl _) HW.out.1, HD1.out.trans (hY.mono HD1.out.size)⟩
   have HH : Hid (∀ Y Z, Below D.heap.size D Y → Kept (· ≠ w.heap.size) Y Z → (Z.cell? ⟨c, 0, none⟩ = some (.int .u64 A) ∧ Z.cell? ⟨c, 1, none⟩ = some (.int .u64 B)) ∧ Z.cell? ⟨w1.heap.size, 0, none⟩ = some (.int .u64 t)) := fun Y Z hY hK => by
    obtain ⟨⟨a1, a2⟩, a3⟩ := HF.out Y hY
    exact ⟨⟨hK.cell (p := ⟨c, 0, none⟩) HNe.out a1, hK.cell (p := ⟨c, 1, none⟩) HNe.out a2⟩, hK.cell (p := ⟨w1.heap.size, 0, none⟩) (Nat.ne_of_gt HLT.out) a3⟩
   obtain ⟨⟨d0, d1⟩, d2⟩ := HF.out D (Below.refl _ _)
   clear hD hWD hxD hin HR
   go_wp2_with fail
   refine wp_region_held_drew (S := fun w' => (w'.cell? ⟨c, 0, none⟩ = some (.int .u64 A) ∧ w'.cell? ⟨c, 1, none⟩ = some (.int .u64 B)) ∧ w'.cell? ⟨w1.heap.size, 0, none⟩ = some (.int .u64 t)) (by kernel_rfl) (by rw [HD.out]; exact ⟨⟨d0, d1⟩, d2⟩) (fun hS => ?_)
   rw [HD.out] at hS ⊢
   refine wpAnyH_take (i := 0) (v := ?_) rfl (by kernel_rfl) (by kernel_rfl) (by kernel_rfl) (fun _ _ _ h => h) (Or.inl ⟨by rfl, ?_⟩) (by assumption) ?_
   rotate_left
   ·intro w hSw; go_simp; with_reducible rfl
   refine wpAnyH_take (i := 1) (v := ?_) rfl (by kernel_rfl) (by kernel_rfl) (by kernel_rfl) (fun _ _ _ h => h) (Or.inl ⟨by rfl, ?_⟩) (by assumption) ?_
   rotate_left
   ·intro w hSw; go_simp; with_reducible rfl
   refine wpAnyH_take (i := 2) (v := ?_) rfl (by kernel_rfl) (by kernel_rfl) (by kernel_rfl) (fun _ _ _ h => h) (Or.inl ⟨by rfl, ?_⟩) (by assumption) ?_
   rotate_left
   ·intro w hSw; go_simp; with_reducible rfl
   refine wpAnyH_take (i := 3) (v := ?_) rfl (by kernel_rfl) (by kernel_rfl) (by kernel_rfl) (fun _ _ _ h => h) (Or.inl ⟨by rfl, ?_⟩) (by assumption) ?_
   rotate_left
   ·intro w hSw; go_split_ands; go_simp; with_reducible rfl
   refine wpAnyH_take (i := 4) (v := ?_) rfl (by kernel_rfl) (by kernel_rfl) (by kernel_rfl) (fun _ _ _ h => h) (Or.inl ⟨by rfl, ?_⟩) (by assumption) ?_
   rotate_left
   ·intro w hSw; go_simp; with_reducible rfl
   refine wpAnyH_take (i := 5) (v := ?_) rfl (by kernel_rfl) (by kernel_rfl) (by kernel_rfl) (fun _ _ _ h => h) (Or.inl ⟨by rfl, ?_⟩) (by assumption) ?_
   rotate_left
   ·intro w hSw; go_split_ands; go_simp; with_reducible rfl
   refine wpAnyH_take (i := 7) (v := ?_) rfl (by kernel_rfl) (by kernel_rfl) (by kernel_rfl) (fun _ _ _ h => h) (Or.inl ⟨by rfl, ?_⟩) (by assumption) ?_
   rotate_left
   ·intro w hSw; go_simp; with_reducible rfl
   refine wpAnyH_take (i := 8) (v := ?_) rfl (by kernel_rfl) (by kernel_rfl) (by kernel_rfl) (fun _ _ _ h => h) (Or.inl ⟨by rfl, ?_⟩) (by assumption) ?_
   rotate_left
   ·intro w hSw; go_simp; with_reducible rfl
   refine wpAnyH_ready (rs := [6]) (by kernel_rfl) (by simp) ?_
   refine AllReadyH.cons rfl (fun K hK => ?_) ?_
   ·go_simp
    refine (HK.out _).mono ?_
    rintro e x1 ⟨rfl, hb⟩
    have HX1 := Lib.hid hb
    clear hb
    refine hK.out _ _ ?_ (fun hS2 => ?_)
    ·exact HF.out _ HX1.out
    clear hK K hS
    have hS := hS2
    clear hS2
    refine wpAnyH_ready (rs := [9]) (by kernel_rfl) (by simp) ?_
    refine AllReadyH.cons rfl (fun K hK => ?_) ?_
    ·go_simp
     refine (HCk.out _ (HD1.out.trans (HX1.out.mono HD1.out.size))).mono ?_
     rintro e x2 ⟨rfl, hb⟩
     have HX2 : Hid (Below D.heap.size D x2) := HX1.out.trans (hb.mono HX1.out.size)
     clear hb
     refine hK.out _ _ ?_ (fun hS2 => ?_)
     ·exact HF.out _ HX2.out
     clear hK K hS
     have hS := hS2
     clear hS2
     obtain ⟨r0, hB1⟩ := HG.out x2 HX2.out
     obtain ⟨V1, hV1, hV1X, hV1B, hV1K⟩ := stor3 (.int .u64 t2) (.int .i64 r2) (.int .u64 u2) r0 hB1 (Nat.le_refl _)
     obtain ⟨f0, f1, f2⟩ := cz3 r0
     obtain ⟨z0, z1, z2⟩ := cl3 r0
     obtain ⟨y0, y1, y2⟩ := cl3 hV1X
     have HB1 := Lib.hid hV1B
     have HS1 := Lib.hid (HH.out x2 V1 HX2.out hV1K)
     clear r0 hB1 hV1X hV1B hV1K
     refine wpAnyH_take (i := 10) (v := ?_) rfl (by kernel_rfl) (by kernel_rfl) (by kernel_rfl) (fun _ _ _ h => h) (Or.inl ⟨by rfl, ?_⟩) (by assumption) ?_
     rotate_left
     ·intro w hSw; go_simp; with_reducible rfl
     refine wpAnyH_take (i := 11) (v := ?_) rfl (by kernel_rfl) (by kernel_rfl) (by kernel_rfl) (fun _ _ _ h => h) (Or.inl ⟨by rfl, ?_⟩) (by assumption) ?_
     rotate_left
     ·intro w hSw; go_simp; with_reducible rfl
     refine wpAnyH_ready (rs := [12]) (by kernel_rfl) (by simp) ?_
     refine AllReadyH.cons rfl (fun K hK => ?_) ?_
     ·go_simp
      refine hK.out _ _ ?_ (fun hS2 => ?_)
      ·exact HS1.out
      clear hK K hS
      have hS := hS2
      clear hS2
      refine wpAnyH_ready (rs := [13]) (by kernel_rfl) (by simp) ?_
      refine AllReadyH.cons rfl (fun K hK => ?_) ?_
      ·go_simp
       refine hK.out _ _ ?_ (fun hS2 => ?_)
       ·exact hS
       clear hK K hS
       have hS := hS2
       clear hS2
       refine wpAnyH_done (by kernel_rfl) ?_ _
       clear hS
       go_wp2_with fail
       exact bodyPost_ret (v := .tuple #[.agg #[.int .u64 t2, .int .i64 r2, .int .u64 u2], .int .i64 er]) (by simp [results, Tryz.f16, go_sem, y0, y1, y2]) rfl ⟨rfl, HB1.out⟩
      exact AllReadyH.nil
     exact AllReadyH.nil
    exact AllReadyH.nil
   exact AllReadyH.nil
end Go.Proofs.YtpklkhgnjbopnaaGreatDoor
namespace Go.Proofs.YtpklkhgnjbopnaaGreatDoor
open Go Go.ChangeShapes Go.WideShapes Go.ChangeAt Go.RowKit Go.Lib Go.Deep Go.Shelf
section
variable {H : Type} {enc : TypeId × Value → H} {w : World} {base : Nat} {held : Bool}
set_option maxRecDepth 100000 in
theorem cfg_elem (n : Nat) (cs : List Value) (x : DataW H × List MemPlace) (h : DataW.trod enc Tryz.prog w base (fun _ => true) held n 41 cs = some x) : ∃ y : Cfg, cs = encC y ∧ Cfg.ok y := by
 obtain ⟨hl, m, hf⟩ := struct_cells Tryz.underlying41 (by kernel_rfl) (by kernel_rfl) h
 obtain ⟨v0, y0, e0, h0⟩ := hf 0 _ rfl
 obtain ⟨v1, y1, e1, h1⟩ := hf 1 _ rfl
 obtain ⟨v2, y2, e2, h2⟩ := hf 2 _ rfl
 obtain ⟨s0, c0, -, w0⟩ := DataW.trod_int undU64 h0
 obtain ⟨s1, c1, -, w1⟩ := DataW.trod_int undInt h1
 obtain ⟨s2, c2, -, w2⟩ := DataW.trod_int undU64 h2
 match cs, hl with
 | [a, b, c], _ =>
  simp only [List.getElem?_cons_zero, List.getElem?_cons_succ, Option.some.injEq, List.cons.injEq, and_true] at e0 e1 e2 c0 c1 c2
  exact ⟨⟨s0, s1, s2⟩, by rw [e0, e1, e2, c0, c1, c2]; rfl, wf_u64 w0, wf_i64 w1, wf_u64 w2⟩
set_option maxRecDepth 100000 in
theorem open_cfgs {r : Reach} {b0 : Nat} {v : Value} {d : DataW H} {p : List MemPlace} (hv : Value.okWide Tryz.prog w r b0 42 v) (h : DataW.Trod enc Tryz.prog w base (fun _ => true) held 42 v d p) :
  ∃ a len cap l, v = .slice a len cap ∧ SlC encC 3 w.heap.size w a len cap l ∧ ∀ i ∈ l, Cfg.ok i := by
 obtain ⟨a, len, cap, rfl⟩ := okWide_slice Tryz.underlying42 hv
 obtain ⟨fuel, hf⟩ := h
 obtain ⟨a', len', cap', l, e, S, U⟩ := slC_open (k := 3) (encA := encC) (by omega) Tryz.underlying42 (by kernel_rfl) cfg_elem hf
 injection e with e1 e2 e3
 subst e1 e2 e3
 exact ⟨a, len, cap, l, rfl, S, U⟩
set_option maxRecDepth 100000 in
theorem claim_elem (n : Nat) (cs : List Value) (x : DataW H × List MemPlace) (h : DataW.trod enc Tryz.prog w base (fun _ => true) held n 34 cs = some x) : ∃ tn rl un : Int, cs = [.int .u64 tn, .int .i64 rl, .int .u64 un] ∧ U64 tn ∧ I64 rl ∧ U64 un := by
 obtain ⟨hl, m, hf⟩ := struct_cells Tryz.underlying34 (by kernel_rfl) (by kernel_rfl) h
 obtain ⟨v0, y0, e0, h0⟩ := hf 0 _ rfl
 obtain ⟨v1, y1, e1, h1⟩ := hf 1 _ rfl
 obtain ⟨v2, y2, e2, h2⟩ := hf 2 _ rfl
 obtain ⟨s0, c0, -, w0⟩ := DataW.trod_int undU64 h0
 obtain ⟨s1, c1, -, w1⟩ := DataW.trod_int undInt h1
 obtain ⟨s2, c2, -, w2⟩ := DataW.trod_int undU64 h2
 match cs, hl with
 | [a, b, c], _ =>
  simp only [List.getElem?_cons_zero, List.getElem?_cons_succ, Option.some.injEq, List.cons.injEq, and_true] at e0 e1 e2 c0 c1 c2
  exact ⟨s0, s1, s2, by rw [e0, e1, e2, c0, c1, c2], wf_u64 w0, wf_i64 w1, wf_u64 w2⟩
set_option maxRecDepth 100000 in
theorem open_claim {r : Reach} {b0 : Nat} {v : Value} {d : DataW H} {p : List MemPlace} (hv : Value.okWide Tryz.prog w r b0 34 v) (h : DataW.Trod enc Tryz.prog w base (fun _ => true) held 34 v d p) :
  ∃ tn rl un : Int, v = .agg #[.int .u64 tn, .int .i64 rl, .int .u64 un] ∧ U64 tn ∧ I64 rl ∧ U64 un := by
 obtain ⟨cs, rfl, -⟩ := okWide_struct Tryz.underlying34 hv
 obtain ⟨fuel, hf⟩ := h
 obtain ⟨tn, rl, un, h1, h2⟩ := claim_elem _ _ _ hf
 refine ⟨tn, rl, un, ?_, h2⟩
 have h1' : cs.toList = [.int .u64 tn, .int .i64 rl, .int .u64 un] := h1
 rw [← Array.toArray_toList (xs := cs), h1']
end
end Go.Proofs.YtpklkhgnjbopnaaGreatDoor
namespace Go.Proofs.YtpklkhgnjbopnaaGreatDoor
open Go Go.RowKit Go.Shelf
set_option maxRecDepth 100000 in
set_option maxHeartbeats 2000000 in
theorem Feed_one2 (b : Nat) (cv : Value) (l m n n' : Ln) (s : ByteArray) (body : List UInt8) (er : Int) (fm ff : Addr) (w : World) (hz : s.size < 4294967281) (hE : GF fm ff w) (hT : Fr.GT w) (hF : Frames s.data.toList [body] [] 20) (h : WireAt w b cv l m n) (hc : n.closed = false) (hl : n.left = ⟨#[]⟩) (hc' : n'.closed = false) (hl' : n'.left = ⟨#[]⟩) (he : 0 ≤ er) (he2 : er ≤ 4611686018427387904)
  (hA : ∀ V, WireAt V b cv l m n → Kept (· ≠ b) w V → Calls Tryz.prog 38 #[.pointer (some ⟨b, 0, none⟩), .pointer (some ⟨b, 13, none⟩), .string ⟨body.toArray⟩] V fun e w' => e = .returned (.agg #[.int .i64 er, .int .u64 0, .slice none 0 0, .slice none 0 0]) ∧ WireAt w' b cv l m n' ∧ Kept (· ≠ b) V w') :
  Calls Tryz.prog 8 #[.pointer (some ⟨b, 0, none⟩), .int .i64 2, .string s] w fun e w' => (∃ t, e = .returned (.tuple #[.string t, .int .i64 0])) ∧ WireAt w' b cv l m n' ∧ Kept (· ≠ b) w w' := by
 obtain ⟨-, -, -, -, c4, c5⟩ := h.at2
 rw [hc] at c4
 rw [hl] at c5
 have HN := Lib.hid fun V => wnone_some ⟨b, 0, none⟩ V
 have HI := Lib.hid fun V => isConn_any 2 V
 have hcat : (⟨#[]⟩ : ByteArray) ++ s = s := by apply ByteArray.ext; rw [ByteArray.data_append]; simp
 have HA := Lib.hid (All_known s _ _ _ fm ff w hz hE hT hF)
 have HAns := Lib.hid hA
 have HFr := Lib.hid fun V => framed_known er V he he2
 have HW := Lib.hid fun (V : World) (hV : Below w.heap.size w V) => h.go hV
 have hbl := (Array.getElem?_eq_some_iff.1 h).1
 have HBL := Lib.hid hbl
 have hTz : (mkF (Ry.B ⟨er, 0, [], []⟩)).length ≤ 100 := by
  have h1 := (numsB_one_len er).2
  have e0 : numsB [(0 : Int)] = [0] := by decide
  have e1 : (Ry.B ⟨er, 0, [], []⟩).length ≤ 20 := by
   unfold Ry.B
   simp only [List.length_append, List.length_nil, List.flatMap_nil]
   show (numsB [er]).length + ((numsB [(0 : Int)]).length + ((numsB [(0 : Int)]).length + ((numsB []).length + ((numsB [(0 : Int)]).length + 0)))) ≤ 20
   have := (numsB_len []).2
   rw [e0]
   simp only [List.length_cons, List.length_nil] at this ⊢
   omega
  have h2 := (numsB_one_len ((Ry.B ⟨er, 0, [], []⟩).length : Int)).2
  unfold mkF
  simp only [List.length_cons, List.length_append, fourB_len]
  omega
 obtain ⟨T, hT0⟩ : ∃ T, (mkF (Ry.B ⟨er, 0, [], []⟩)) = T := ⟨_, rfl⟩
 rw [hT0] at HFr hTz
 have hTs : (⟨T.toArray⟩ : ByteArray).size ≤ 100 := by rw [str_size]; exact hTz
 have HTs := Lib.hid hTs
 have HF' : Hid (∀ V, WireAt V b cv l m n' → V.cell? ⟨b, 17, none⟩ = some (.bool false) ∧ V.cell? ⟨b, 18, none⟩ = some (.string ⟨#[]⟩) ∧ V.frozen? ⟨b, 18, none⟩ = false ∧ V.setCell ⟨b, 18, none⟩ (.string ⟨#[]⟩) = V) := fun V hV => by
  obtain ⟨-, -, -, -, c4, c5⟩ := hV.at2
  rw [hc'] at c4
  rw [hl'] at c5
  exact ⟨c4, c5, cFz hV 18, set_same hV ((show (wcells cv l m n')[18]? = some (.string n'.left) from rfl).trans (by rw [hl']))⟩
 clear hE hT hF h hc hl hc' hl' hA hT0 hTz hTs hbl he he2
 go_enter Tryz.func8, Tryz.ntmps8
 go_wp2_with fail
 refine (HN.out _).mono ?_
 rintro e w1 ⟨rfl, hw⟩
 have hw := hw.symm
 subst hw
 go_wp2_with fail
 refine (HI.out _).mono ?_
 rintro e w2 ⟨rfl, hw⟩
 have hw := hw.symm
 subst hw
 go_wp2_with fail
 refine HA.out.mono ?_
 rintro e w3 ⟨a, cap, rfl, hS, hb⟩
 obtain ⟨W, hW, hX, hB, hs1⟩ := boxes1 w3 #[.pointer none, .slice none 0 0] 86
 have hbu : Lib.IsBuilderF 86 5 w3.heap.size w3.heap.size [] W := by rw [← hW]; exact Lib.IsBuilderF.of (Lib.fresh_isBuilder _ _ w3)
 have HB3 := Lib.hid hb
 have HS := Lib.hid hS
 have HBU := Lib.hid hbu
 have HBW : Hid (Below w3.heap.size w3 W) := hB
 clear hb hX hB HA hS hbu
 go_wp2_with fail
 go_loopw [42] (fun i wr => (i = .int .i64 0 ∧ wr = W) ∨ (i = .int .i64 1 ∧ Hid (Lib.IsBuilderF 86 5 w3.heap.size w3.heap.size (Lib.byteCells T) wr) ∧ Hid (WireAt wr b cv l m n' ∧ Kept (· ≠ b) w wr ∧ w3.heap.size ≤ wr.heap.size))) (fun i _ => 1 - (intOf i).toNat)
 case atStart => exact .inl ⟨rfl, rfl⟩
 case round =>
  rcases hrel with ⟨rfl, rfl⟩ | ⟨rfl, h1, h2⟩
  ·obtain ⟨x, b1, o1, hx, rfl, hb1, hc1⟩ := (HS.out.below HBW.out).at (show 0 < [body].length from Nat.zero_lt_one)
   obtain rfl : (⟨body.toArray⟩ : ByteArray) = x := Option.some.inj hx
   have p0 : wr.cell? ⟨b1, o1, none⟩ = some (.string ⟨body.toArray⟩) := hc1 0 (by omega)
   have hwb : Below w.heap.size w wr := HB3.out.trans (HBW.out.mono HB3.out.size)
   have hA := Lib.hid (HAns.out _ (HW.out _ hwb) (.of hwb))
   have HWB := Lib.hid hwb
   clear hc1 hx hb1 hwb
   go_wp2_with fail
   refine hA.out.mono ?_
   rintro e w4 ⟨rfl, hW4, hK4⟩
   have HW4 := Lib.hid hW4
   have HK4 := Lib.hid hK4
   clear hW4 hK4
   go_wp2_with fail
   refine (HFr.out _).mono ?_
   rintro e w5 ⟨rfl, hb5⟩
   have hK5 : Kept (· ≠ b) wr w5 := HK4.out.trans (.of hb5)
   have hbl := HBL.out
   have hs3 := HB3.out.size
   have hsr := HBW.out.size
   have hWS := WriteString_any w3.heap.size w3.heap.size [] ⟨T.toArray⟩ w5 (isB_off HBU.out (fun j h1 h2 => hK5.block j h2 (by omega))) (by have := HTs.out; rw [List.length_nil]; omega) (by have := hK5.size; omega)
   have HK5 := Lib.hid hK5
   have HW5 : Hid (WireAt w5 b cv l m n') := HW4.out.go hb5
   have HWS := Lib.hid hWS
   clear hK5 hWS hb5 hbl hs3 hsr
   go_wp2_with fail
   refine HWS.out.mono ?_
   rintro e w6 ⟨rfl, hbd, hb6, -⟩
   have hW6 : WireAt w6 b cv l m n' := (hb6.block b (by have := HBL.out; have := HB3.out.size; omega)).trans HW5.out
   have hK6 : Kept (· ≠ b) w w6 := by
    have s1 := HB3.out.size
    have s2 := HBW.out.size
    exact ⟨hb6.os.trans (HK5.out.os.trans HWB.out.os), hb6.tape.trans (HK5.out.tape.trans HWB.out.tape), hb6.output.trans (HK5.out.output.trans HWB.out.output), Nat.le_trans HWB.out.size (Nat.le_trans HK5.out.size hb6.size), fun k hk hq => (hb6.block k (by omega)).trans ((HK5.out.block k (by omega) hq).trans (HWB.out.block k hk))⟩
   have k4 := (HF'.out _ hW6).1
   have HR : Hid (WireAt w6 b cv l m n' ∧ Kept (· ≠ b) w w6 ∧ w3.heap.size ≤ w6.heap.size) := ⟨hW6, hK6, Nat.le_trans HBW.out.size (Nat.le_trans HK5.out.size hb6.size)⟩
   have HBD := Lib.hid hbd
   clear hW6 hK6 hb6 hbd
   go_wp2_with fail
   refine ⟨.inr ⟨rfl, ?_, HR⟩, by simp [intOf]⟩
   have h := HBD.out
   rw [List.nil_append, strCells_list] at h
   exact .inr h
  ·have HCl := Lib.hid (Clone_any ⟨#[]⟩ wr (by decide))
   go_wp2_with fail
   refine HCl.out.mono ?_
   rintro e w7 ⟨rfl, hb7⟩
   have hW7 : WireAt w7 b cv l m n' := h2.out.1.go hb7
   obtain ⟨-, k6, f6, s6⟩ := HF'.out _ hW7
   have HSt := Lib.hid (Tryz.Builder_String_any_f w3.heap.size w3.heap.size T w7 (isB_old h1.out (fun j hj => hb7.block j hj)) (Nat.le_trans h2.out.2.2 hb7.size))
   have HR : Hid (WireAt w7 b cv l m n' ∧ Kept (· ≠ b) w w7 ∧ b < w3.heap.size ∧ w.heap.size ≤ w3.heap.size) := ⟨hW7, h2.out.2.1.trans (.of hb7), by have := HBL.out; have := HB3.out.size; omega, HB3.out.size⟩
   clear hW7 hb7
   go_wp2_with fail
   refine HSt.out.mono ?_
   rintro e w8 ⟨rfl, -, hb8⟩
   have HG : Hid (WireAt w8 b cv l m n' ∧ Kept (· ≠ b) w w8) := by
    obtain ⟨r1, r2, r3, r4⟩ := HR.out
    exact ⟨(hb8.block b r3).trans r1, ⟨hb8.os.trans r2.os, hb8.tape.trans r2.tape, hb8.output.trans r2.output, Nat.le_trans r2.size hb8.size, fun k hk hq => (hb8.block k (by omega)).trans (r2.block k hk hq)⟩⟩
   clear hb8
   go_wp2_with fail
   go_ret2
   exact ⟨⟨_, rfl⟩, HG.out⟩
theorem Who2_any (b : Nat) (cv : Value) (l m n : Ln) (w : World) (h : WireAt w b cv l m n) (hc : n.closed = false) : CR 10 #[.pointer (some ⟨b, 0, none⟩), .int .i64 2] w (.tuple #[.agg #[.int .u64 (if n.known then n.tnt else 0), .int .i64 (if n.known then n.role else 0), .int .u64 (if n.known then n.till else 0)], .bool n.known]) := by
 obtain ⟨W, hW, hX, hB, -⟩ := boxes1 w #[.int .u64 0, .int .i64 0, .int .u64 0] 34
 have hO := open2 b cv l m n W (h.go hB)
 rw [hc] at hO
 have HO := Lib.hid hO
 have HX := Lib.hid hX
 have HWA := Lib.hid (h.go hB)
 have HB := Lib.hid hB
 have HBL := Lib.hid (Array.getElem?_eq_some_iff.1 h).1
 clear hO hX hB h hc
 obtain ⟨tn, rl, un, kn, cl, lf⟩ := n
 cases kn with
 | false =>
  go_enter Tryz.func10, Tryz.ntmps10
  go_wp2_with fail
  refine HO.out.mono ?_
  rintro e w1 ⟨rfl, hb⟩
  obtain ⟨g0, g1, g2, g3, g4, g5⟩ := (HWA.out.go hb).at2
  have hY := known hb (Nat.le_refl _) HX.out
  obtain ⟨c0, c1, c2⟩ := cl3 hY
  obtain ⟨f0, f1, f2⟩ := cz3 hY
  have s0 : w1.setCell ⟨w.heap.size, 0, none⟩ (.int .u64 0) = w1 := set_same hY rfl
  have s1 : w1.setCell ⟨w.heap.size, 1, none⟩ (.int .i64 0) = w1 := set_same hY rfl
  have s2 : w1.setCell ⟨w.heap.size, 2, none⟩ (.int .u64 0) = w1 := set_same hY rfl
  have HB1 : Hid (Below w.heap.size w w1) := HB.out.trans (hb.mono HB.out.size)
  clear hb hY
  go_wp2_with fail
  exact bodyPost_ret (v := .tuple #[.agg #[.int .u64 0, .int .i64 0, .int .u64 0], .bool false]) (by simp [results, Tryz.results10, go_sem, c0, c1, c2]) rfl ⟨rfl, HB1.out⟩
 | true =>
  go_enter Tryz.func10, Tryz.ntmps10
  go_wp2_with fail
  refine HO.out.mono ?_
  rintro e w1 ⟨rfl, hb⟩
  obtain ⟨g0, g1, g2, g3, g4, g5⟩ := (HWA.out.go hb).at2
  have hY := known hb (Nat.le_refl _) HX.out
  have HB1 : Below w.heap.size w w1 := HB.out.trans (hb.mono HB.out.size)
  obtain ⟨V, hV, hVX, hVB, -⟩ := stor3 (.int .u64 tn) (.int .i64 rl) (.int .u64 un) hY HB1 (Nat.le_refl _)
  obtain ⟨c0, c1, c2⟩ := cl3 hY
  obtain ⟨f0, f1, f2⟩ := cz3 hY
  obtain ⟨v0, v1, v2⟩ := cl3 hVX
  have HVB := Lib.hid hVB
  clear hb hY HB1 hVX hVB
  go_wp2_with fail
  exact bodyPost_ret (v := .tuple #[.agg #[.int .u64 tn, .int .i64 rl, .int .u64 un], .bool true]) (by simp [results, Tryz.results10, go_sem, v0, v1, v2]) rfl ⟨rfl, HVB.out⟩
end Go.Proofs.YtpklkhgnjbopnaaGreatDoor

/- Package field: Get. Package code: number, count. Package code: the reader's exact. Package code: the reader's counters. Package code: the reader's bins. Package code: the reader's distinct, sketch; Decode. -/
import Derived.Test.YtpnlmfilmbodfaaGreatDoorZYA
import Derived.Test.YtpnlmfilmbodfaaGreatDoorZY8
namespace Go.Proofs.YtpnlmfilmbodfaaGreatDoor
open Go Go.RowKit Go.Shelf
def getRes (s : ByteArray) : NumR → Value
  | .got n r => .tuple #[.int .u64 n, .string ⟨r.toArray⟩, .int .i64 0]
  | .more => .tuple #[.int .u64 0, .string s, .int .i64 20]
  | .bad => .tuple #[.int .u64 0, .string s, .int .i64 21]
set_option maxRecDepth 100000 in
set_option maxHeartbeats 4000000 in
theorem Get_any (s : ByteArray) (fm ff cm cc : Addr) (w : World) (hl : s.size < 4294967281) (hE : GE fm ff cm cc w) :
    Calls Tryz.prog 192 #[.string s] w fun e w' => e = .returned (getRes s (getN s.data.toList)) ∧ Below w.heap.size w w' := by
  obtain ⟨W0, hW0, hX0, hB0, hs0⟩ := boxes1 w #[.string s] 308
  have hN := number_any w.heap.size s fm ff cm cc W0 hX0 hl (hE.below hB0)
  have HE : Hid (∀ w', Below w.heap.size w w' → GE fm ff cm cc w') := fun w' hb => hE.below hb
  have HX0 := Lib.hid hX0
  cases hg : getN s.data.toList with
  | got n r =>
    rw [hg] at hN
    clear hE hg hX0
    go_enter Tryz.func192, Tryz.ntmps192
    go_wp2_with (go_at_call 219; refine hN.mono ?_; rintro e w1 ⟨rfl, hb1⟩)
    have hW1 : w1.heap[w.heap.size]? = some (.cells #[.string ⟨r.toArray⟩] 308 (0, 0)) := (hb1.block _ (by omega)).trans (one_setCell HX0.out)
    have c1 : w1.cell? ⟨w.heap.size, 0, none⟩ = some (.string ⟨r.toArray⟩) := cCc hW1 0
    go_quiet (fail)
    go_wp2_with fail
    go_ret3
    exact ⟨rfl, bDr ((hB0.setCell (p := ⟨w.heap.size, 0, none⟩) (Nat.le_refl _) _).trans (hb1.mono (by omega))) _⟩
  | more =>
    rw [hg] at hN
    clear hE hg hX0
    go_enter Tryz.func192, Tryz.ntmps192
    go_wp2_with (first | (go_at_call 219; refine hN.mono ?_; rintro e w1 ⟨rfl, hb1⟩) | (go_at_call 220; refine (errno_more fm ff cm cc w1 (HE.out w1 (hB0.trans (hb1.mono (by omega))))).mono ?_; rintro e w2 ⟨rfl, hb2⟩))
    go_ret3
    exact ⟨rfl, hB0.trans ((hb1.trans (hb2.mono hb1.size)).mono (by omega))⟩
  | bad =>
    rw [hg] at hN
    clear hE hg hX0
    go_enter Tryz.func192, Tryz.ntmps192
    go_wp2_with (first | (go_at_call 219; refine hN.mono ?_; rintro e w1 ⟨rfl, hb1⟩) | (go_at_call 220; refine (errno_field fm ff cm cc w1 (HE.out w1 (hB0.trans (hb1.mono (by omega))))).mono ?_; rintro e w2 ⟨rfl, hb2⟩))
    go_ret3
    exact ⟨rfl, hB0.trans ((hb1.trans (hb2.mono hb1.size)).mono (by omega))⟩
def NumPost (b : Nat) (cm cc : Addr) (k : IntKind) (w : World) (g : NumR) (e : Ending) (w' : World) : Prop := match g with
  | .got n r => e = .returned (.tuple #[.int k n, .nilIface]) ∧ Below w.heap.size (w.setCell ⟨b, 0, none⟩ (.string ⟨r.toArray⟩)) w'
  | .more => e = .returned (.tuple #[.int k 0, errV cm]) ∧ Below b w w'
  | .bad => e = .returned (.tuple #[.int k 0, errV cc]) ∧ Below b w w'
def KeepB (b : Nat) (w w' : World) : Prop := w'.heap[b]? = w.heap[b]? ∨ ∃ s' : ByteArray, w'.heap[b]? = (w.setCell ⟨b, 0, none⟩ (.string s')).heap[b]?
theorem KeepB.of {b : Nat} {w w1 : World} {s' : ByteArray} (h : Below w.heap.size (w.setCell ⟨b, 0, none⟩ (.string s')) w1) (hb : b < w.heap.size) : KeepB b w w1 := .inr ⟨s', h.block b hb⟩
theorem KeepB.same {b : Nat} {w w1 : World} (h : Below w.heap.size w w1) (hb : b < w.heap.size) : KeepB b w w1 := .inl (h.block b hb)
set_option maxRecDepth 100000 in
set_option maxHeartbeats 4000000 in
theorem rnumber_keep (b : Nat) (c : Array Value) (t : TypeId) (s : ByteArray) (fm ff cm cc : Addr) (w : World) (hX : w.heap[b]? = some (.cells c t (0, 0))) (h0 : c[0]? = some (.string s)) (hl : s.size < 4294967281) (hE : GE fm ff cm cc w) :
    Calls Tryz.prog 151 #[.pointer (some ⟨b, 0, none⟩)] w fun e w' => NumPost b cm cc .u64 w (getN s.data.toList) e w' ∧ KeepB b w w' := by
  have hblt : b < w.heap.size := (Array.getElem?_eq_some_iff.1 hX).1
  have c0 : w.cell? ⟨b, 0, none⟩ = some (.string s) := (cCc hX 0).trans h0
  have hG := Get_any s fm ff cm cc w hl hE
  have HX := Lib.hid hX
  have HE := Lib.hid hE
  cases hg : getN s.data.toList with
  | got n r =>
    rw [hg] at hG
    unfold NumPost
    have fr := fun w1 (hb : Below w.heap.size w w1) => cFz (known hb (Nat.le_refl _) hX) 0
    have cl := fun w1 (hb : Below w.heap.size w w1) => (cCc (known hb (Nat.le_refl _) hX) 0).trans h0
    clear hX hE hg
    go_enter Tryz.func151, Tryz.ntmps151
    go_wp2_with (go_at_call 192; refine hG.mono ?_; rintro e w1 ⟨rfl, hb1⟩; unfold getRes; have f1 := fr w1 hb1; have c1 := cl w1 hb1)
    go_ret2
    exact ⟨⟨rfl, Below.set_both hb1 _⟩, KeepB.of (Below.set_both hb1 _) hblt⟩
  | more =>
    rw [hg] at hG
    unfold NumPost
    have gc := fun w1 (hb : Below w.heap.size w w1) => (hE.below hb).ecm
    clear hX hE hg
    go_enter Tryz.func151, Tryz.ntmps151
    go_wp2_with (go_at_call 192; refine hG.mono ?_; rintro e w1 ⟨rfl, hb1⟩; unfold getRes; have f1 := gc w1 hb1)
    go_quiet (fail)
    go_wp2_with fail
    go_ret2
    exact ⟨⟨rfl, bDr (hb1.mono (by omega)) _⟩, KeepB.same (bDr hb1 _) hblt⟩
  | bad =>
    rw [hg] at hG
    unfold NumPost
    have gc := fun w1 (hb : Below w.heap.size w w1) => (hE.below hb).ecc
    clear hX hE hg
    go_enter Tryz.func151, Tryz.ntmps151
    go_wp2_with (go_at_call 192; refine hG.mono ?_; rintro e w1 ⟨rfl, hb1⟩; unfold getRes; have f1 := gc w1 hb1)
    go_quiet (fail)
    go_wp2_with fail
    go_ret2
    exact ⟨⟨rfl, bDr (hb1.mono (by omega)) _⟩, KeepB.same (bDr hb1 _) hblt⟩
theorem rnumber_any (b : Nat) (c : Array Value) (t : TypeId) (s : ByteArray) (fm ff cm cc : Addr) (w : World) (hX : w.heap[b]? = some (.cells c t (0, 0))) (h0 : c[0]? = some (.string s)) (hl : s.size < 4294967281) (hE : GE fm ff cm cc w) :
    Calls Tryz.prog 151 #[.pointer (some ⟨b, 0, none⟩)] w (NumPost b cm cc .u64 w (getN s.data.toList)) := (rnumber_keep b c t s fm ff cm cc w hX h0 hl hE).mono fun _ _ h => h.1
set_option maxRecDepth 100000 in
set_option maxHeartbeats 4000000 in
theorem rcount_keep (b : Nat) (c : Array Value) (t : TypeId) (s : ByteArray) (lim : Int) (fm ff cm cc : Addr) (w : World) (hX : w.heap[b]? = some (.cells c t (0, 0))) (h0 : c[0]? = some (.string s)) (hl : s.size < 4294967281) (hE : GE fm ff cm cc w) (hl0 : 0 ≤ lim) (hl1 : lim ≤ 1000) (hbG : 8 ≤ b) :
    Calls Tryz.prog 152 #[.pointer (some ⟨b, 0, none⟩), .int .i64 lim] w fun e w' => NumPost b cm cc .i64 w (cntG lim s.data.toList) e w' ∧ KeepB b w w' := by
  have hblt : b < w.heap.size := (Array.getElem?_eq_some_iff.1 hX).1
  have hG := rnumber_keep b c t s fm ff cm cc w hX h0 hl hE
  have hc0 : 0 < c.size := (Array.getElem?_eq_some_iff.1 h0).1
  unfold cntG
  cases hg : getN s.data.toList with
  | got n r =>
    rw [hg] at hG
    obtain ⟨⟨n0, n1⟩, -⟩ := getN_got hg
    simp only
    unfold NumPost at hG ⊢
    simp only at hG
    by_cases hn : lim < n
    · rw [if_pos hn]
      have gc := fun w1 (hb : Below w.heap.size (w.setCell ⟨b, 0, none⟩ (.string ⟨r.toArray⟩)) w1) => (hb.cell (p := ⟨1, 0, none⟩) (by show 1 < w.heap.size; omega)).trans ((World.cell?_of_block (Below.heap_setCell _ _ _ _ (by show 1 ≠ b; omega))).trans hE.ecc)
      clear hX hE hg h0
      go_enter Tryz.func152, Tryz.ntmps152
      go_wp2_with (go_at_call 151; refine hG.mono ?_; rintro e w1 ⟨⟨rfl, hb1⟩, hk⟩; have f1 := gc w1 hb1)
      go_quiet (fail)
      go_wp2_with fail
      go_ret2
      exact ⟨⟨rfl, bDr (((Below.refl b w).setCell (p := ⟨b, 0, none⟩) (Nat.le_refl _) _).trans (hb1.mono (by omega))) _⟩, hk⟩
    · rw [if_neg hn]
      clear hX hE hg h0
      go_enter Tryz.func152, Tryz.ntmps152
      go_wp2_with (go_at_call 151; refine hG.mono ?_; rintro e w1 ⟨⟨rfl, hb1⟩, hk⟩)
      go_ret2
      exact ⟨⟨rfl, hb1⟩, hk⟩
  | more =>
    rw [hg] at hG
    simp only
    unfold NumPost at hG ⊢
    simp only at hG
    clear hX hE hg h0
    go_enter Tryz.func152, Tryz.ntmps152
    go_wp2_with (go_at_call 151; refine hG.mono ?_; rintro e w1 ⟨⟨rfl, hb1⟩, hk⟩)
    go_ret2
    exact ⟨⟨rfl, hb1⟩, hk⟩
  | bad =>
    rw [hg] at hG
    simp only
    unfold NumPost at hG ⊢
    simp only at hG
    clear hX hE hg h0
    go_enter Tryz.func152, Tryz.ntmps152
    go_wp2_with (go_at_call 151; refine hG.mono ?_; rintro e w1 ⟨⟨rfl, hb1⟩, hk⟩)
    go_ret2
    exact ⟨⟨rfl, hb1⟩, hk⟩
theorem rcount_any (b : Nat) (c : Array Value) (t : TypeId) (s : ByteArray) (lim : Int) (fm ff cm cc : Addr) (w : World) (hX : w.heap[b]? = some (.cells c t (0, 0))) (h0 : c[0]? = some (.string s)) (hl : s.size < 4294967281) (hE : GE fm ff cm cc w) (hl0 : 0 ≤ lim) (hl1 : lim ≤ 1000) (hbG : 8 ≤ b) :
    Calls Tryz.prog 152 #[.pointer (some ⟨b, 0, none⟩), .int .i64 lim] w (NumPost b cm cc .i64 w (cntG lim s.data.toList)) := (rcount_keep b c t s lim fm ff cm cc w hX h0 hl hE hl0 hl1 hbG).mono fun _ _ h => h.1
end Go.Proofs.YtpnlmfilmbodfaaGreatDoor
namespace Go.Proofs.YtpnlmfilmbodfaaGreatDoor
open Go Go.RowKit Go.Shelf
def rdCells (s : ByteArray) (kind level : Int) (e : Value) (hb : Int) (hr : ByteArray) (cr cc : Int) (cl : Value) (gf : Int) (gl : Value) : Array Value :=
  #[.string s, .int .i64 kind, .int .i64 level, e, .int .i64 hb, .string hr, .int .i64 cr, .int .i64 cc, cl, .int .i64 gf, gl]
abbrev nilS : Value := .slice none 0 0
def RdAt (b : Nat) (x : Sk) (r : List UInt8) (w : World) : Prop := ∃ s : SS, w.heap[b]? = some (.cells #[.string ⟨r.toArray⟩, .int .i64 x.kind, .int .i64 x.level, .slice s.ea s.el s.ec, .int .i64 x.hb, .string x.hr, .int .i64 x.cr, .int .i64 x.cc, .slice s.ca s.cl s.cc, .int .i64 x.gf, .slice s.ga s.gl s.gc] 142 (0, 0)) ∧ s.At w.heap.size w x
def RdPost (b : Nat) (cm cc : Addr) (w : World) (d : DecR) (e : Ending) (w' : World) : Prop := Below b w w' ∧ match d with
  | .got x r => e = .returned .nilIface ∧ RdAt b x r w'
  | .more => e = .returned (errV cm)
  | .code => e = .returned (errV cc)
theorem heap_set {w : World} {b o : Nat} {c : Array Value} {t : TypeId} {fz : Nat × Nat} {u : Value} (h : w.heap[b]? = some (.cells c t fz)) : (w.setCell ⟨b, o, none⟩ u).heap[b]? = some (.cells (c.setIfInBounds o u) t fz) := by
  simp only [World.setCell, Array.getElem?_modify, h]
  simp
theorem cntG_got {lim : Int} {l : List UInt8} {n : Int} {r : List UInt8} (h : cntG lim l = .got n r) : 0 ≤ n ∧ n ≤ lim ∧ r.length < l.length := by
  unfold cntG at h
  cases hg : getN l with
  | more => rw [hg] at h; cases h
  | bad => rw [hg] at h; cases h
  | got m r1 =>
    rw [hg] at h
    simp only at h
    obtain ⟨⟨h1, h2⟩, h3⟩ := getN_got hg
    split at h
    · cases h
    · injection h with h4 h5
      subst h4; subst h5
      exact ⟨h1, by omega, h3⟩
theorem size_list (l : List UInt8) : (⟨l.toArray⟩ : ByteArray).size = l.length := List.size_toArray
theorem owns_set {w : World} {b o base e size n : Nat} {v u : Value} {xs : List Value} (h : w.ownsRow base e size v n xs) (hb : b < base) : (w.setCell ⟨b, o, none⟩ u).ownsRow base e size v n xs :=
  owns_of_blocks h (fun j h1 _ => Below.heap_setCell _ _ _ _ (by show j ≠ b; omega))
theorem app_u64 {wr w2 : World} {b k : Nat} {c : Array Value} {t : TypeId} {v u : Value} {acc : List Int} (hX : wr.heap[b]? = some (.cells c t (0, 0))) (hO : wr.ownsRow (b + 1) 43 1 v k (acc.flatMap encU)) (hb2 : Below wr.heap.size (wr.setCell ⟨b, 0, none⟩ u) w2) (y : Int) (hk : k < 2147483648) :
    ∃ a cap, v = .slice a k cap ∧ w2.heap[b]? = some (.cells (c.setIfInBounds 0 u) t (0, 0)) ∧ ∃ V, w2.alloc (.cells #[.int .u64 y] 43) = V ∧ ∃ g cap9 W9, (Builtin.append_ #[22, 22] 22 #[.slice a k cap, .slice (some ⟨w2.heap.size, 0, none⟩) 1 1]).run Tryz.prog V = .ok (.slice (some ⟨g, 0, none⟩) (k + 1) cap9) W9 ∧
      W9.heap[b]? = some (.cells (c.setIfInBounds 0 u) t (0, 0)) ∧ W9.ownsRow (b + 1) 43 1 (.slice (some ⟨g, 0, none⟩) (k + 1) cap9) (k + 1) ((acc ++ [y]).flatMap encU) ∧ Below b wr W9 ∧ wr.heap.size ≤ W9.heap.size := by
  have hblt : b < wr.heap.size := (Array.getElem?_eq_some_iff.1 hX).1
  have hz : wr.heap.size ≤ w2.heap.size := by simpa using hb2.size
  have hX2 : w2.heap[b]? = some (.cells (c.setIfInBounds 0 u) t (0, 0)) := (hb2.block _ hblt).trans (heap_set hX)
  have hO2 : w2.ownsRow (b + 1) 43 1 v k (acc.flatMap encU) := owns_of_blocks hO (fun j h1 h2 => (hb2.block j h2).trans (Below.heap_setCell _ _ _ _ (by show j ≠ b; omega)))
  obtain ⟨g, cap9, W9, hap, hO9, hB9, hz9, hk9, -⟩ := append_one Tryz.prog 22 und_u64 info_u64 rfl (by decide) hO2 (Below.refl (b + 1) w2) (Nat.le_refl _) (by omega) [.int .u64 y] rfl (by simp [Value.oneCell']) (by omega) (by decide)
  obtain ⟨a, cap, rfl⟩ : ∃ a cap, v = .slice a k cap := by
    rcases hO2.2 with ⟨rfl, rfl⟩ | ⟨g, cap, cur, rfl, _⟩
    · exact ⟨none, 0, rfl⟩
    · exact ⟨_, _, rfl⟩
  have hBw : Below b wr w2 := ((Below.refl b wr).setCell (p := ⟨b, 0, none⟩) (Nat.le_refl _) u).trans (hb2.mono (by omega))
  exact ⟨a, cap, rfl, hX2, _, rfl, g, cap9, W9, hap, (hk9 b (by omega)).trans hX2, by rw [List.flatMap_append]; exact hO9, hBw.trans (hB9.mono (by omega)), by omega⟩
attribute [-go_sem] Builtin.append_
set_option maxRecDepth 100000 in
set_option maxHeartbeats 4000000 in
theorem rexact_any (b : Nat) (s : ByteArray) (level : Int) (fm ff cm cc : Addr) (w : World) (hX : w.heap[b]? = some (.cells (rdCells s 1 level nilS 0 ⟨#[]⟩ 0 0 nilS 0 nilS) 142 (0, 0))) (hl : s.size < 4294967281) (hE : ∀ w', Below b w w' → GE fm ff cm cc w') (hbG : 8 ≤ b) :
    Calls Tryz.prog 193 #[.pointer (some ⟨b, 0, none⟩)] w (RdPost b cm cc w (exDec level s.data.toList)) := by
  have hblt : b < w.heap.size := (Array.getElem?_eq_some_iff.1 hX).1
  have hC := rcount_any b _ _ s 64 fm ff cm cc w hX rfl hl (hE w (Below.refl _ _)) (by omega) (by omega) hbG
  unfold exDec
  cases hg : cntG 64 s.data.toList with
  | more =>
    rw [hg] at hC
    unfold NumPost at hC
    simp only at hC ⊢
    unfold RdPost
    clear hX hE hg
    go_enter Tryz.func193, Tryz.ntmps193
    go_wp2_with (go_at_call 152; refine hC.mono ?_; rintro e w1 ⟨rfl, hb1⟩)
    go_ret
    exact ⟨hb1, rfl⟩
  | bad =>
    rw [hg] at hC
    unfold NumPost at hC
    simp only at hC ⊢
    unfold RdPost
    clear hX hE hg
    go_enter Tryz.func193, Tryz.ntmps193
    go_wp2_with (go_at_call 152; refine hC.mono ?_; rintro e w1 ⟨rfl, hb1⟩)
    go_ret
    exact ⟨hb1, rfl⟩
  | got n r =>
    rw [hg] at hC
    unfold NumPost at hC
    simp only at hC ⊢
    have HX := Lib.hid hX
    have HE := Lib.hid hE
    obtain ⟨hn0, hn1, hrl⟩ := cntG_got hg
    have hsl : s.data.toList.length = s.size := Array.length_toList
    have HRL : Hid (r.length < 4294967281) := by rw [hsl] at hrl; exact Nat.lt_trans hrl hl
    clear hX hE hg hrl hsl
    go_enter Tryz.func193, Tryz.ntmps193
    go_wp2_with (go_at_call 152; refine hC.mono ?_; rintro e w1 ⟨rfl, hb1⟩)
    have hB1 : Below b w w1 := ((Below.refl b w).setCell (p := ⟨b, 0, none⟩) (Nat.le_refl _) _).trans (hb1.mono (by omega))
    have hX1 : w1.heap[b]? = some (.cells (rdCells ⟨r.toArray⟩ 1 level nilS 0 ⟨#[]⟩ 0 0 nilS 0 nilS) 142 (0, 0)) := (hb1.block _ hblt).trans (heap_set HX.out)
    have hz1 : w.heap.size ≤ w1.heap.size := by simpa using hb1.size
    have HX1 := Lib.hid hX1
    clear hb1 hX1
    go_loopw [5, 19] (fun la i wr => ∃ (k : Nat) (last : Int) (acc : List Int) (l : List UInt8) (v : Value), i = .int .i64 k ∧ la = .int .u64 last ∧ (k : Int) ≤ n ∧ (0 ≤ last ∧ last ≤ 18446744073709551615) ∧ Hid (acc.length = k) ∧ Hid (wr.heap[b]? = some (.cells (rdCells ⟨l.toArray⟩ 1 level v 0 ⟨#[]⟩ 0 0 nilS 0 nilS) 142 (0, 0))) ∧
      Hid (wr.ownsRow (b + 1) 43 1 v k (acc.flatMap encU)) ∧ Below b w wr ∧ w.heap.size ≤ wr.heap.size ∧ Hid (l.length < 4294967281) ∧ Hid (exG (n.toNat - k) last acc l = exG n.toNat 0 [] r)) (fun _ i _ => n.toNat - (intOf i).toNat)
    case atStart => exact ⟨0, 0, [], r, nilS, rfl, rfl, by omega, by omega, rfl, HX1.out, World.ownsRow_nil _ _ _ _, hB1, hz1, HRL.out, rfl⟩
    case round =>
      obtain ⟨k, last, acc, l, v, rfl, rfl, hkn, ⟨hla0, hla1⟩, HA, HB, HO, hB, hz, HLl, HEq⟩ := hrel
      have hblr : b < wr.heap.size := by omega
      by_cases hlt : (k : Int) < n
      · have hN := rnumber_any b _ _ ⟨l.toArray⟩ fm ff cm cc wr HB.out rfl (by rw [size_list]; exact HLl.out) (HE.out wr hB)
        obtain ⟨m, hm⟩ : ∃ m, n.toNat - k = m + 1 := ⟨n.toNat - k - 1, by omega⟩
        have hEq := HEq.out
        rw [hm] at hEq
        simp only [exG] at hEq
        change Calls _ _ _ _ (NumPost b cm cc .u64 wr (getN l)) at hN
        cases hg : getN l with
        | more =>
          rw [hg] at hN hEq
          unfold NumPost at hN
          simp only at hN hEq
          have HEq2 := Lib.hid hEq
          clear hEq hm HEq hg
          go_wp2_with (go_at_call 151; refine hN.mono ?_; rintro e w2 ⟨rfl, hb2⟩)
          go_ret
          unfold RdPost
          rw [← HEq2.out]
          exact ⟨hB.trans hb2, rfl⟩
        | bad =>
          rw [hg] at hN hEq
          unfold NumPost at hN
          simp only at hN hEq
          have HEq2 := Lib.hid hEq
          clear hEq hm HEq hg
          go_wp2_with (go_at_call 151; refine hN.mono ?_; rintro e w2 ⟨rfl, hb2⟩)
          go_ret
          unfold RdPost
          rw [← HEq2.out]
          exact ⟨hB.trans hb2, rfl⟩
        | got x r2 =>
          rw [hg] at hN hEq
          unfold NumPost at hN
          simp only at hN hEq
          obtain ⟨⟨hx0, hx1⟩, hr2⟩ := getN_got hg
          have HR2 : Hid (r2.length < 4294967281) := Nat.lt_trans hr2 HLl.out
          obtain ⟨y, hy⟩ : ∃ y, (last + x) % 18446744073709551616 = y := ⟨_, rfl⟩
          rw [hy] at hEq
          have HEq2 := Lib.hid hEq
          have HM := Lib.hid hm
          have hyw : IntKind.u64.wrap (last + x) = y := by rw [IntKind.wrap_u64]; exact hy
          have hy0 : 0 ≤ y ∧ y ≤ 18446744073709551615 := by omega
          clear hEq hm HEq hg hr2 hy
          have HY0 := Lib.hid hy0
          clear hy0 hx0 hx1
          go_wp2_with (go_at_call 151; refine hN.mono ?_; rintro e w2 ⟨rfl, hb2⟩; obtain ⟨a, cap, rfl, hX2, V, hV, g9, cap9, W9, hap, hX9, hO9, hB9, hz9⟩ := app_u64 HB.out HO.out hb2 y (by omega); have c3 : w2.cell? ⟨b, 3, none⟩ = some (.slice a k cap) := cCc hX2 3; have f9 : W9.frozen? ⟨b, 3, none⟩ = false := cFz hX9 3; have c9 : W9.cell? ⟨b, 3, none⟩ = some (.slice a k cap) := cCc hX9 3)
          go_roundw
          case rel =>
            refine ⟨k + 1, y, acc ++ [y], r2, _, by go_num, rfl, by omega, HY0.out, by rw [Hid, List.length_append, HA.out]; rfl, heap_set hX9, owns_set hO9 (Nat.lt_succ_self _), (hB.trans hB9).setCell (p := ⟨b, 3, none⟩) (Nat.le_refl _) _, by simp; omega, HR2.out, ?_⟩
            rw [Hid, show n.toNat - (k + 1) = m by have := HM.out; omega]; exact HEq2.out
          case measure => simp [intOf]; omega
      · have hkn2 : n = k := by omega
        have hEq := HEq.out
        rw [hkn2, Int.toNat_natCast, Nat.sub_self] at hEq
        simp only [exG] at hEq
        have HEq2 := Lib.hid hEq
        have hO := HO.out
        rw [← HA.out] at hO
        obtain ⟨a, cap, hv, hS, -⟩ := slC_of_owns (enc := encU) (fun _ => rfl) hO
        have HS := Lib.hid hS
        have HV := Lib.hid hv
        clear hEq HEq hO hS hv
        go_wp2_with fail
        go_ret
        unfold RdPost
        rw [← HEq2.out]
        have h1 := HB.out
        rw [HV.out] at h1
        exact ⟨hB, rfl, ⟨a, acc.length, cap, none, 0, 0, none, 0, 0⟩, h1, HS.out, SlC.nil, SlC.nil⟩
end Go.Proofs.YtpnlmfilmbodfaaGreatDoor
namespace Go.Proofs.YtpnlmfilmbodfaaGreatDoor
open Go Go.RowKit Go.Shelf
attribute [-go_sem] Builtin.append_
set_option maxRecDepth 100000 in
set_option maxHeartbeats 4000000 in
theorem rcounters_any (b : Nat) (s : ByteArray) (level : Int) (fm ff cm cc : Addr) (w : World) (hX : w.heap[b]? = some (.cells (rdCells s 2 level nilS 0 ⟨#[]⟩ 0 0 nilS 0 nilS) 142 (0, 0))) (hl : s.size < 4294967281) (hE : ∀ w', Below b w w' → GE fm ff cm cc w') (hl0 : 0 ≤ level) (hl1 : level ≤ 3) :
    Calls Tryz.prog 154 #[.pointer (some ⟨b, 0, none⟩)] w (RdPost b cm cc w (cnDec level s.data.toList)) := by
  have hblt : b < w.heap.size := (Array.getElem?_eq_some_iff.1 hX).1
  unfold cnDec
  obtain ⟨q, hq⟩ : ∃ q : Nat, 32 / 2 ^ level.toNat = q := ⟨_, rfl⟩
  have hqi : (32 : Int) / 2 ^ level.toNat = (q : Int) := by rw [← hq]; norm_cast
  have hq32 : q ≤ 32 := by rw [← hq]; exact Nat.div_le_self _ _
  rw [hqi, hq]
  have c0 : w.cell? ⟨b, 0, none⟩ = some (.string s) := cCc hX 0
  have c1 : w.cell? ⟨b, 1, none⟩ = some (.int .i64 2) := cCc hX 1
  have c2 : w.cell? ⟨b, 2, none⟩ = some (.int .i64 level) := cCc hX 2
  have c3 : w.cell? ⟨b, 3, none⟩ = some (nilS) := cCc hX 3
  have c4 : w.cell? ⟨b, 4, none⟩ = some (.int .i64 0) := cCc hX 4
  have c5 : w.cell? ⟨b, 5, none⟩ = some (.string ⟨#[]⟩) := cCc hX 5
  have c6 : w.cell? ⟨b, 6, none⟩ = some (.int .i64 0) := cCc hX 6
  have c7 : w.cell? ⟨b, 7, none⟩ = some (.int .i64 0) := cCc hX 7
  have c8 : w.cell? ⟨b, 8, none⟩ = some (nilS) := cCc hX 8
  have f0 : w.frozen? ⟨b, 0, none⟩ = false := cFz hX 0
  have f1 : w.frozen? ⟨b, 1, none⟩ = false := cFz hX 1
  have f2 : w.frozen? ⟨b, 2, none⟩ = false := cFz hX 2
  have f3 : w.frozen? ⟨b, 3, none⟩ = false := cFz hX 3
  have f4 : w.frozen? ⟨b, 4, none⟩ = false := cFz hX 4
  have f5 : w.frozen? ⟨b, 5, none⟩ = false := cFz hX 5
  have f6 : w.frozen? ⟨b, 6, none⟩ = false := cFz hX 6
  have f7 : w.frozen? ⟨b, 7, none⟩ = false := cFz hX 7
  have f8 : w.frozen? ⟨b, 8, none⟩ = false := cFz hX 8
  have f9 : w.frozen? ⟨b, 9, none⟩ = false := cFz hX 9
  have f10 : w.frozen? ⟨b, 10, none⟩ = false := cFz hX 10
  have HX := Lib.hid hX
  have HE := Lib.hid hE
  have HL := Lib.hid hl
  obtain ⟨W7, hW7⟩ : ∃ W7, (w.setCell ⟨b, 6, none⟩ (.int .i64 2)).setCell ⟨b, 7, none⟩ (.int .i64 q) = W7 := ⟨_, rfl⟩
  have hX7 : W7.heap[b]? = some (.cells (rdCells s 2 level nilS 0 ⟨#[]⟩ 2 q nilS 0 nilS) 142 (0, 0)) := by rw [← hW7]; exact heap_set (heap_set hX)
  have hB7 : Below b w W7 := by rw [← hW7]; exact ((Below.refl b w).setCell (p := ⟨b, 6, none⟩) (Nat.le_refl _) _).setCell (p := ⟨b, 7, none⟩) (Nat.le_refl _) _
  have hz7 : W7.heap.size = w.heap.size := by rw [← hW7]; simp
  have d6 : W7.cell? ⟨b, 6, none⟩ = some (.int .i64 2) := cCc hX7 6
  have d7 : W7.cell? ⟨b, 7, none⟩ = some (.int .i64 q) := cCc hX7 7
  clear hX hE hl c0 c1 c3 c4 c5 c8 hq
  go_enter Tryz.func154, Tryz.ntmps154
  go_wp2_with fail
  go_quiet (fail)
  go_wp2_with fail
  have HX7 := Lib.hid hX7
  clear hX7 hW7 d6 d7 c2 c6 c7 f0 f1 f2 f3 f4 f5 f6 f7 f8 f9 f10
  go_loopw [34] (fun i wr => ∃ (k : Nat) (acc : List Int) (l : List UInt8) (v : Value), i = .int .i64 k ∧ k ≤ 2 * q ∧ Hid (acc.length = k) ∧ Hid (wr.heap[b]? = some (.cells (rdCells ⟨l.toArray⟩ 2 level nilS 0 ⟨#[]⟩ 2 q v 0 nilS) 142 (0, 0))) ∧
      Hid (wr.ownsRow (b + 1) 43 1 v k (acc.flatMap encU)) ∧ Below b w wr ∧ w.heap.size ≤ wr.heap.size ∧ Hid (l.length < 4294967281) ∧ Hid (cnG (2 * q - k) acc l = cnG (2 * q) [] s.data.toList)) (fun i _ => 2 * q - (intOf i).toNat)
  case atStart => exact ⟨0, [], s.data.toList, nilS, rfl, by omega, rfl, HX7.out, World.ownsRow_nil _ _ _ _, bDr hB7 nq, by show _ ≤ W7.heap.size; omega, by rw [Hid, Array.length_toList]; exact HL.out, rfl⟩
  case round =>
    obtain ⟨k, acc, l, v, rfl, hkn, HA, HB, HO, hB, hz, HLl, HEq⟩ := hrel
    have hblr : b < wr.heap.size := by omega
    by_cases hlt : k < 2 * q
    · have hN := rnumber_any b _ _ ⟨l.toArray⟩ fm ff cm cc wr HB.out rfl (by rw [size_list]; exact HLl.out) (HE.out wr hB)
      obtain ⟨m, hm⟩ : ∃ m, 2 * q - k = m + 1 := ⟨2 * q - k - 1, by omega⟩
      have hEq := HEq.out
      rw [hm] at hEq
      simp only [cnG] at hEq
      change Calls _ _ _ _ (NumPost b cm cc .u64 wr (getN l)) at hN
      cases hg : getN l with
      | more =>
        rw [hg] at hN hEq
        unfold NumPost at hN
        simp only at hN hEq
        have HEq2 := Lib.hid hEq
        clear hEq hm HEq hg
        go_wp2_with (go_at_call 151; refine hN.mono ?_; rintro e w2 ⟨rfl, hb2⟩)
        go_ret
        unfold RdPost
        rw [← HEq2.out]
        exact ⟨hB.trans hb2, rfl⟩
      | bad =>
        rw [hg] at hN hEq
        unfold NumPost at hN
        simp only at hN hEq
        have HEq2 := Lib.hid hEq
        clear hEq hm HEq hg
        go_wp2_with (go_at_call 151; refine hN.mono ?_; rintro e w2 ⟨rfl, hb2⟩)
        go_ret
        unfold RdPost
        rw [← HEq2.out]
        exact ⟨hB.trans hb2, rfl⟩
      | got y r2 =>
        rw [hg] at hN hEq
        unfold NumPost at hN
        simp only at hN hEq
        obtain ⟨⟨hx0, hx1⟩, hr2⟩ := getN_got hg
        have HR2 : Hid (r2.length < 4294967281) := Nat.lt_trans hr2 HLl.out
        have HEq2 := Lib.hid hEq
        have HM := Lib.hid hm
        clear hEq hm HEq hg hr2 hx0 hx1
        go_wp2_with (go_at_call 151; refine hN.mono ?_; rintro e w2 ⟨rfl, hb2⟩; obtain ⟨a, cap, rfl, hX2, V, hV, g9, cap9, W9, hap, hX9, hO9, hB9, hz9⟩ := app_u64 HB.out HO.out hb2 y (by omega); have c3 : w2.cell? ⟨b, 8, none⟩ = some (.slice a k cap) := cCc hX2 8; have f9 : W9.frozen? ⟨b, 8, none⟩ = false := cFz hX9 8; have c9 : W9.cell? ⟨b, 8, none⟩ = some (.slice a k cap) := cCc hX9 8)
        go_roundw
        case rel =>
          refine ⟨k + 1, acc ++ [y], r2, _, by go_num, by omega, by rw [Hid, List.length_append, HA.out]; rfl, heap_set hX9, owns_set hO9 (Nat.lt_succ_self _), (hB.trans hB9).setCell (p := ⟨b, 8, none⟩) (Nat.le_refl _) _, by simp; omega, HR2.out, ?_⟩
          rw [Hid, show 2 * q - (k + 1) = m by have := HM.out; omega]; exact HEq2.out
        case measure => simp [intOf]; omega
    · have hkn2 : k = 2 * q := by omega
      have hEq := HEq.out
      rw [hkn2, Nat.sub_self] at hEq
      simp only [cnG] at hEq
      have HEq2 := Lib.hid hEq
      have hO := HO.out
      rw [← HA.out] at hO
      obtain ⟨a, cap, hv, hS, -⟩ := slC_of_owns (enc := encU) (fun _ => rfl) hO
      have HS := Lib.hid hS
      have HV := Lib.hid hv
      clear hEq HEq hO hS hv
      go_wp2_with fail
      go_ret
      unfold RdPost
      rw [← HEq2.out]
      have h1 := HB.out
      rw [HV.out] at h1
      exact ⟨hB, rfl, ⟨none, 0, 0, a, acc.length, cap, none, 0, 0⟩, h1, SlC.nil, HS.out, SlC.nil⟩
end Go.Proofs.YtpnlmfilmbodfaaGreatDoor
namespace Go.Proofs.YtpnlmfilmbodfaaGreatDoor
open Go Go.RowKit Go.Shelf
theorem app_bin {w2 : World} {b k : Nat} {c : Array Value} {t : TypeId} {v : Value} {acc : List (Int × Int)} (hX2 : w2.heap[b]? = some (.cells c t (0, 0))) (hO2 : w2.ownsRow (b + 1) 192 2 v k (acc.flatMap encB)) (x y : Int) (hk : k < 2147483648) :
    ∃ a cap, v = .slice a k cap ∧ ∃ V, w2.alloc (.cells #[.int .i64 x, .int .u64 y] 192) = V ∧ ∃ g cap9 W9, (Builtin.append_ #[29, 29] 29 #[.slice a k cap, .slice (some ⟨w2.heap.size, 0, none⟩) 1 1]).run Tryz.prog V = .ok (.slice (some ⟨g, 0, none⟩) (k + 1) cap9) W9 ∧
      W9.heap[b]? = some (.cells c t (0, 0)) ∧ W9.ownsRow (b + 1) 192 2 (.slice (some ⟨g, 0, none⟩) (k + 1) cap9) (k + 1) ((acc ++ [(x, y)]).flatMap encB) ∧ Below b w2 W9 ∧ w2.heap.size ≤ W9.heap.size := by
  have hblt : b < w2.heap.size := (Array.getElem?_eq_some_iff.1 hX2).1
  obtain ⟨g, cap9, W9, hap, hO9, hB9, hz9, hk9, -⟩ := append_one Tryz.prog 29 und_bin info_bin rfl (by decide) hO2 (Below.refl (b + 1) w2) (Nat.le_refl _) (by omega) [.int .i64 x, .int .u64 y] rfl (by simp [Value.oneCell']) (by omega) (by decide)
  obtain ⟨a, cap, rfl⟩ : ∃ a cap, v = .slice a k cap := by
    rcases hO2.2 with ⟨rfl, rfl⟩ | ⟨g, cap, cur, rfl, _⟩
    · exact ⟨none, 0, rfl⟩
    · exact ⟨_, _, rfl⟩
  exact ⟨a, cap, rfl, _, rfl, g, cap9, W9, hap, (hk9 b (by omega)).trans hX2, by rw [List.flatMap_append]; exact hO9, hB9.mono (by omega), by omega⟩
theorem wrap_toI (y : Int) (h0 : 0 ≤ y) (h1 : y ≤ 18446744073709551615) : IntKind.i64.wrap y = toI y := by
  rw [IntKind.wrap_i64]
  unfold toI
  split <;> omega
attribute [-go_sem] Builtin.append_
set_option maxRecDepth 100000 in
set_option maxHeartbeats 4000000 in
theorem rbins_any (b : Nat) (s : ByteArray) (level : Int) (fm ff cm cc : Addr) (w : World) (hX : w.heap[b]? = some (.cells (rdCells s 3 level nilS 0 ⟨#[]⟩ 0 0 nilS 0 nilS) 142 (0, 0))) (hl : s.size < 4294967281) (hE : ∀ w', Below b w w' → GE fm ff cm cc w') (hbG : 8 ≤ b) (hl0 : 0 ≤ level) (hl1 : level ≤ 3) :
    Calls Tryz.prog 155 #[.pointer (some ⟨b, 0, none⟩)] w (RdPost b cm cc w (biDec level s.data.toList)) := by
  have hblt : b < w.heap.size := (Array.getElem?_eq_some_iff.1 hX).1
  obtain ⟨W7, hW7⟩ : ∃ W7, w.setCell ⟨b, 9, none⟩ (.int .i64 (3 - level)) = W7 := ⟨_, rfl⟩
  have hX7 : W7.heap[b]? = some (.cells (rdCells s 3 level nilS 0 ⟨#[]⟩ 0 0 nilS (3 - level) nilS) 142 (0, 0)) := by rw [← hW7]; exact heap_set hX
  have hB7 : Below b w W7 := by rw [← hW7]; exact (Below.refl b w).setCell (p := ⟨b, 9, none⟩) (Nat.le_refl _) _
  have hz7 : W7.heap.size = w.heap.size := by rw [← hW7]; simp
  have hC := rcount_any b _ _ s 1000 fm ff cm cc W7 hX7 rfl hl (hE W7 hB7) (by omega) (by omega) hbG
  have c2 : w.cell? ⟨b, 2, none⟩ = some (.int .i64 level) := cCc hX 2
  have c9 : w.cell? ⟨b, 9, none⟩ = some (.int .i64 0) := cCc hX 9
  have f9 : w.frozen? ⟨b, 9, none⟩ = false := cFz hX 9
  unfold biDec
  cases hg : cntG 1000 s.data.toList with
  | more =>
    rw [hg] at hC
    unfold NumPost at hC
    simp only at hC ⊢
    unfold RdPost
    clear hX hE hg hX7
    go_enter Tryz.func155, Tryz.ntmps155
    go_wp2_with (go_at_call 152; refine hC.mono ?_; rintro e w1 ⟨rfl, hb1⟩)
    go_ret
    exact ⟨hB7.trans hb1, rfl⟩
  | bad =>
    rw [hg] at hC
    unfold NumPost at hC
    simp only at hC ⊢
    unfold RdPost
    clear hX hE hg hX7
    go_enter Tryz.func155, Tryz.ntmps155
    go_wp2_with (go_at_call 152; refine hC.mono ?_; rintro e w1 ⟨rfl, hb1⟩)
    go_ret
    exact ⟨hB7.trans hb1, rfl⟩
  | got n r =>
    rw [hg] at hC
    unfold NumPost at hC
    simp only at hC ⊢
    have HX := Lib.hid hX7
    have HE := Lib.hid hE
    obtain ⟨hn0, hn1, hrl⟩ := cntG_got hg
    have hsl : s.data.toList.length = s.size := Array.length_toList
    have HRL : Hid (r.length < 4294967281) := by rw [hsl] at hrl; exact Nat.lt_trans hrl hl
    clear hX hE hg hrl hsl hX7
    go_enter Tryz.func155, Tryz.ntmps155
    go_wp2_with (go_at_call 152; refine hC.mono ?_; rintro e w1 ⟨rfl, hb1⟩)
    have hB1 : Below b w w1 := hB7.trans (((Below.refl b W7).setCell (p := ⟨b, 0, none⟩) (Nat.le_refl _) _).trans (hb1.mono (by omega)))
    have hX1 : w1.heap[b]? = some (.cells (rdCells ⟨r.toArray⟩ 3 level nilS 0 ⟨#[]⟩ 0 0 nilS (3 - level) nilS) 142 (0, 0)) := (hb1.block _ (by omega)).trans (heap_set HX.out)
    have hz1 : w.heap.size ≤ w1.heap.size := by have := hb1.size; simp at this; omega
    have HX1 := Lib.hid hX1
    clear hb1 hX1 hW7 c2 c9 f9
    go_loopw [5, 31] (fun la i wr => ∃ (k : Nat) (last : Int) (acc : List (Int × Int)) (l : List UInt8) (v : Value), i = .int .i64 k ∧ la = .int .u64 last ∧ (k : Int) ≤ n ∧ (0 ≤ last ∧ last ≤ 18446744073709551615) ∧ Hid (acc.length = k) ∧ Hid (wr.heap[b]? = some (.cells (rdCells ⟨l.toArray⟩ 3 level nilS 0 ⟨#[]⟩ 0 0 nilS (3 - level) v) 142 (0, 0))) ∧
      Hid (wr.ownsRow (b + 1) 192 2 v k (acc.flatMap encB)) ∧ Below b w wr ∧ w.heap.size ≤ wr.heap.size ∧ Hid (l.length < 4294967281) ∧ Hid (biG (n.toNat - k) last acc l = biG n.toNat 0 [] r)) (fun _ i _ => n.toNat - (intOf i).toNat)
    case atStart => exact ⟨0, 0, [], r, nilS, rfl, rfl, by omega, by omega, rfl, HX1.out, World.ownsRow_nil _ _ _ _, hB1, hz1, HRL.out, rfl⟩
    case round =>
      obtain ⟨k, last, acc, l, v, rfl, rfl, hkn, ⟨hla0, hla1⟩, HA, HB, HO, hB, hz, HLl, HEq⟩ := hrel
      have hblr : b < wr.heap.size := by omega
      by_cases hlt : (k : Int) < n
      · have hN := rnumber_any b _ _ ⟨l.toArray⟩ fm ff cm cc wr HB.out rfl (by rw [size_list]; exact HLl.out) (HE.out wr hB)
        obtain ⟨m, hm⟩ : ∃ m, n.toNat - k = m + 1 := ⟨n.toNat - k - 1, by omega⟩
        have hEq := HEq.out
        rw [hm] at hEq
        simp only [biG] at hEq
        change Calls _ _ _ _ (NumPost b cm cc .u64 wr (getN l)) at hN
        cases hg : getN l with
        | more =>
          rw [hg] at hN hEq
          unfold NumPost at hN
          simp only at hN hEq
          have HEq2 := Lib.hid hEq
          clear hEq hm HEq hg
          go_wp2_with (go_at_call 151; refine hN.mono ?_; rintro e w2 ⟨rfl, hb2⟩)
          go_ret
          unfold RdPost
          rw [← HEq2.out]
          exact ⟨hB.trans hb2, rfl⟩
        | bad =>
          rw [hg] at hN hEq
          unfold NumPost at hN
          simp only at hN hEq
          have HEq2 := Lib.hid hEq
          clear hEq hm HEq hg
          go_wp2_with (go_at_call 151; refine hN.mono ?_; rintro e w2 ⟨rfl, hb2⟩)
          go_ret
          unfold RdPost
          rw [← HEq2.out]
          exact ⟨hB.trans hb2, rfl⟩
        | got x r1 =>
          rw [hg] at hN hEq
          unfold NumPost at hN
          simp only at hN hEq
          obtain ⟨⟨hx0, hx1⟩, hr1⟩ := getN_got hg
          have hl1 : r1.length < 4294967281 := Nat.lt_trans hr1 HLl.out
          have HN2 : Hid (∀ w2, Below wr.heap.size (wr.setCell ⟨b, 0, none⟩ (.string ⟨r1.toArray⟩)) w2 → w2.heap[b]? = some (.cells (rdCells ⟨r1.toArray⟩ 3 level nilS 0 ⟨#[]⟩ 0 0 nilS (3 - level) v) 142 (0, 0)) ∧ Below b w w2 ∧ wr.heap.size ≤ w2.heap.size ∧ Calls Tryz.prog 151 #[.pointer (some ⟨b, 0, none⟩)] w2 (NumPost b cm cc .u64 w2 (getN r1))) := fun w2 hb => by
            have h1 : w2.heap[b]? = some (.cells (rdCells ⟨r1.toArray⟩ 3 level nilS 0 ⟨#[]⟩ 0 0 nilS (3 - level) v) 142 (0, 0)) := (hb.block _ hblr).trans (heap_set HB.out)
            have h2 : Below b w w2 := hB.trans (((Below.refl b wr).setCell (p := ⟨b, 0, none⟩) (Nat.le_refl _) _).trans (hb.mono (by omega)))
            exact ⟨h1, h2, by simpa using hb.size, rnumber_any b _ _ ⟨r1.toArray⟩ fm ff cm cc w2 h1 rfl (by rw [size_list]; exact hl1) (HE.out w2 h2)⟩
          cases hg2 : getN r1 with
          | more =>
            rw [hg2] at HN2 hEq
            unfold NumPost at HN2
            simp only at HN2 hEq
            have HEq2 := Lib.hid hEq
            clear hEq hm HEq hg hg2 hr1 hl1
            go_wp2_with (first | (go_at_call 151; refine hN.mono ?_; rintro e w2 ⟨rfl, hb2⟩; obtain ⟨-, h2, -, hN2⟩ := HN2.out w2 hb2; clear hN) | (go_at_call 151; refine hN2.mono ?_; rintro e w3 ⟨rfl, hb3⟩))
            go_ret
            unfold RdPost
            rw [← HEq2.out]
            exact ⟨h2.trans hb3, rfl⟩
          | bad =>
            rw [hg2] at HN2 hEq
            unfold NumPost at HN2
            simp only at HN2 hEq
            have HEq2 := Lib.hid hEq
            clear hEq hm HEq hg hg2 hr1 hl1
            go_wp2_with (first | (go_at_call 151; refine hN.mono ?_; rintro e w2 ⟨rfl, hb2⟩; obtain ⟨-, h2, -, hN2⟩ := HN2.out w2 hb2; clear hN) | (go_at_call 151; refine hN2.mono ?_; rintro e w3 ⟨rfl, hb3⟩))
            go_ret
            unfold RdPost
            rw [← HEq2.out]
            exact ⟨h2.trans hb3, rfl⟩
          | got z r2 =>
            rw [hg2] at HN2 hEq
            unfold NumPost at HN2
            simp only at HN2 hEq
            obtain ⟨-, hr2⟩ := getN_got hg2
            have HR2 : Hid (r2.length < 4294967281) := Nat.lt_trans hr2 hl1
            obtain ⟨y, hy⟩ : ∃ y, (last + x) % 18446744073709551616 = y := ⟨_, rfl⟩
            rw [hy] at hEq
            obtain ⟨at_, hat⟩ : ∃ at_, toI y = at_ := ⟨_, rfl⟩
            rw [hat] at hEq
            have HEq2 := Lib.hid hEq
            have HM := Lib.hid hm
            have hyw : IntKind.u64.wrap (last + x) = y := by rw [IntKind.wrap_u64]; exact hy
            have hy0 : 0 ≤ y ∧ y ≤ 18446744073709551615 := by omega
            have haw : IntKind.i64.wrap y = at_ := by rw [← hat]; exact wrap_toI y hy0.1 hy0.2
            have HY0 := Lib.hid hy0
            have HO3 : Hid (∀ w2 w3, Below wr.heap.size (wr.setCell ⟨b, 0, none⟩ (.string ⟨r1.toArray⟩)) w2 → Below w2.heap.size (w2.setCell ⟨b, 0, none⟩ (.string ⟨r2.toArray⟩)) w3 → w3.heap[b]? = some (.cells (rdCells ⟨r2.toArray⟩ 3 level nilS 0 ⟨#[]⟩ 0 0 nilS (3 - level) v) 142 (0, 0)) ∧ w3.ownsRow (b + 1) 192 2 v k (acc.flatMap encB) ∧ Below b w w3 ∧ wr.heap.size ≤ w3.heap.size) := fun w2 w3 h2 h3 => by
              obtain ⟨g1, g2, g3, -⟩ := HN2.out w2 h2
              refine ⟨(h3.block _ (by omega)).trans (heap_set g1), ?_, g2.trans (((Below.refl b w2).setCell (p := ⟨b, 0, none⟩) (Nat.le_refl _) _).trans (h3.mono (by omega))), by have := h3.size; simp at this; omega⟩
              refine owns_of_blocks (owns_of_blocks HO.out (fun j j1 j2 => (h2.block j j2).trans (Below.heap_setCell _ _ _ _ (by show j ≠ b; omega)))) (fun j j1 j2 => (h3.block j j2).trans (Below.heap_setCell _ _ _ _ (by show j ≠ b; omega)))
            clear hEq hm HEq hg hg2 hr1 hr2 hl1 hy hat hy0 hx0 hx1
            go_wp2_with (first | (go_at_call 151; refine hN.mono ?_; rintro e w2 ⟨rfl, hb2⟩; obtain ⟨-, h2, -, hN2⟩ := HN2.out w2 hb2; clear hN) | (go_at_call 151; refine hN2.mono ?_; rintro e w3 ⟨rfl, hb3⟩; obtain ⟨hX3, hO3, hB3, hz3⟩ := HO3.out w2 w3 hb2 hb3; obtain ⟨a, cap, rfl, V, hV, g9, cap9, W9, hap, hX9, hO9, hB9, hz9⟩ := app_bin hX3 hO3 at_ z (by omega); have c3 : w3.cell? ⟨b, 10, none⟩ = some (.slice a k cap) := cCc hX3 10; have f9 : W9.frozen? ⟨b, 10, none⟩ = false := cFz hX9 10; have c9 : W9.cell? ⟨b, 10, none⟩ = some (.slice a k cap) := cCc hX9 10))
            go_roundw
            case rel =>
              refine ⟨k + 1, y, acc ++ [(at_, z)], r2, _, by go_num, rfl, by omega, HY0.out, by rw [Hid, List.length_append, HA.out]; rfl, heap_set hX9, owns_set hO9 (Nat.lt_succ_self _), (hB3.trans hB9).setCell (p := ⟨b, 10, none⟩) (Nat.le_refl _) _, by simp; omega, HR2.out, ?_⟩
              rw [Hid, show n.toNat - (k + 1) = m by have := HM.out; omega]; exact HEq2.out
            case measure => simp [intOf]; omega
      · have hkn2 : n = k := by omega
        have hEq := HEq.out
        rw [hkn2, Int.toNat_natCast, Nat.sub_self] at hEq
        simp only [biG] at hEq
        have HEq2 := Lib.hid hEq
        have hO := HO.out
        rw [← HA.out] at hO
        obtain ⟨a, cap, hv, hS, -⟩ := slC_of_owns (enc := encB) (fun _ => rfl) hO
        have HS := Lib.hid hS
        have HV := Lib.hid hv
        clear hEq HEq hO hS hv
        go_wp2_with fail
        go_ret
        unfold RdPost
        rw [← HEq2.out]
        have h1 := HB.out
        rw [HV.out] at h1
        exact ⟨hB, rfl, ⟨none, 0, 0, none, 0, 0, a, acc.length, cap⟩, h1, SlC.nil, SlC.nil, HS.out⟩
end Go.Proofs.YtpnlmfilmbodfaaGreatDoor
namespace Go.Proofs.YtpnlmfilmbodfaaGreatDoor
open Go Go.RowKit Go.Shelf
theorem extract_take (s : ByteArray) (q : Nat) : s.extract 0 q = ⟨(s.data.toList.take q).toArray⟩ := by
  have h2 : (s.extract 0 q).data.toList = s.data.toList.take q := by
    rw [ByteArray.data_extract, Array.toList_extract, List.extract_eq_take_drop, List.drop_zero, Nat.sub_zero]
  rw [← h2, Array.toArray_toList]
theorem extract_from (s : ByteArray) (q : Nat) : s.extract q s.size = ⟨(s.data.toList.drop q).toArray⟩ := by
  have h2 : (s.extract q s.size).data.toList = s.data.toList.drop q := by
    rw [ByteArray.data_extract, Array.toList_extract, List.extract_eq_take_drop, List.take_of_length_le (by rw [List.length_drop, Array.length_toList]; exact Nat.le_refl _)]
  rw [← h2, Array.toArray_toList]
theorem RdPost.ret {b : Nat} {cm cc : Addr} {w : World} {d : DecR} {e : Ending} {w' : World} (h : RdPost b cm cc w d e w') : ∃ v, e = .returned v := by
  unfold RdPost at h
  obtain ⟨-, h⟩ := h
  revert h
  cases d with
  | got x r => exact fun h => ⟨_, h.1⟩
  | more => exact fun h => ⟨_, h⟩
  | code => exact fun h => ⟨_, h⟩
theorem RdPost.from {b : Nat} {cm cc : Addr} {w w1 : World} {d : DecR} {e : Ending} {w' : World} (h : RdPost b cm cc w1 d e w') (hb : Below b w w1) : RdPost b cm cc w d e w' := ⟨hb.trans h.1, h.2⟩
set_option maxRecDepth 100000 in
set_option maxHeartbeats 4000000 in
theorem rdistinct_any (b : Nat) (s : ByteArray) (level : Int) (fm ff cm cc : Addr) (w : World) (hX : w.heap[b]? = some (.cells (rdCells s 1 level nilS 0 ⟨#[]⟩ 0 0 nilS 0 nilS) 142 (0, 0))) (hl : s.size < 4294967281) (hE : ∀ w', Below b w w' → GE fm ff cm cc w') (hbG : 8 ≤ b) (hl0 : 0 ≤ level) (hl1 : level ≤ 4) :
    Calls Tryz.prog 153 #[.pointer (some ⟨b, 0, none⟩)] w (RdPost b cm cc w (if level = 0 then exDec level s.data.toList else hlDec level s.data.toList)) := by
  by_cases h0 : level = 0
  · rw [if_pos h0]
    have hR := rexact_any b s level fm ff cm cc w hX hl hE hbG
    have c2 : w.cell? ⟨b, 2, none⟩ = some (.int .i64 level) := cCc hX 2
    rw [h0] at c2
    have hR2 := hR.mono (fun e w' h => And.intro h.ret h)
    clear hX hE hR
    go_enter Tryz.func153, Tryz.ntmps153
    go_wp2_with (go_at_call 193; refine hR2.mono ?_; rintro e w1 ⟨⟨v, rfl⟩, hp⟩)
    go_ret
    exact hp
  · rw [if_neg h0]
    have hlv : (level == 0) = false := by simp [h0]
    obtain ⟨q, hq⟩ : ∃ q : Nat, 2 ^ (8 - level).toNat = q := ⟨_, rfl⟩
    have hqi : (2 : Int) ^ (8 - level).toNat = (q : Int) := by rw [← hq]; norm_cast
    have hq256 : q ≤ 256 := by rw [← hq]; exact Nat.pow_le_pow_right (n := 2) (j := 8) (by omega) (by omega)
    have hw : IntKind.i64.wrap (2 ^ (8 - level).toNat) = (q : Int) := by rw [hqi]; exact IntWalk.i64_in _ (by omega)
    have hlen : s.data.toList.length = s.size := Array.length_toList
    unfold hlDec
    rw [hqi, hq, hlen]
    have c0 : w.cell? ⟨b, 0, none⟩ = some (.string s) := cCc hX 0
    have c1 : w.cell? ⟨b, 1, none⟩ = some (.int .i64 1) := cCc hX 1
    have c2 : w.cell? ⟨b, 2, none⟩ = some (.int .i64 level) := cCc hX 2
    have c3 : w.cell? ⟨b, 3, none⟩ = some (nilS) := cCc hX 3
    have c4 : w.cell? ⟨b, 4, none⟩ = some (.int .i64 0) := cCc hX 4
    have c5 : w.cell? ⟨b, 5, none⟩ = some (.string ⟨#[]⟩) := cCc hX 5
    have f0 : w.frozen? ⟨b, 0, none⟩ = false := cFz hX 0
    have f1 : w.frozen? ⟨b, 1, none⟩ = false := cFz hX 1
    have f2 : w.frozen? ⟨b, 2, none⟩ = false := cFz hX 2
    have f3 : w.frozen? ⟨b, 3, none⟩ = false := cFz hX 3
    have f4 : w.frozen? ⟨b, 4, none⟩ = false := cFz hX 4
    have f5 : w.frozen? ⟨b, 5, none⟩ = false := cFz hX 5
    have g0 := (hE w (Below.refl _ _)).ecm
    have HX := Lib.hid hX
    have HT := Lib.hid (extract_take s q)
    have HF := Lib.hid (extract_from s q)
    clear hX hE hq hlen hqi
    by_cases hsz : (s.size : Int) < q
    · rw [if_pos hsz]
      go_enter Tryz.func153, Tryz.ntmps153
      go_wp2_with fail
      go_ret
      unfold RdPost
      exact ⟨Below.refl _ _, rfl⟩
    · rw [if_neg hsz]
      go_enter Tryz.func153, Tryz.ntmps153
      go_wp2_with fail
      go_ret
      unfold RdPost
      refine ⟨(((Below.refl b w).setCell (p := ⟨b, 4, none⟩) (Nat.le_refl _) _).setCell (p := ⟨b, 5, none⟩) (Nat.le_refl _) _).setCell (p := ⟨b, 0, none⟩) (Nat.le_refl _) _, rfl, ⟨none, 0, 0, none, 0, 0, none, 0, 0⟩, ?_, SlC.nil, SlC.nil, SlC.nil⟩
      rw [HT.out, HF.out]
      exact heap_set (heap_set (heap_set HX.out))
end Go.Proofs.YtpnlmfilmbodfaaGreatDoor

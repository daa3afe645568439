/- Package code: the reader's exact. -/
import Derived.Test.YtjpnbkdhmjgdgaaDoorYB
namespace Go.Proofs.YtjpnbkdhmjgdgaaDoor
open Go Go.RowKit Go.Shelf

def rdCells (s : ByteArray) (kind level : Int) (e : Value) (hb : Int) (hr : ByteArray) (cr cc : Int) (cl : Value) (gf : Int) (gl : Value) : Array Value :=
  #[.string s, .int .i64 kind, .int .i64 level, e, .int .i64 hb, .string hr, .int .i64 cr, .int .i64 cc, cl, .int .i64 gf, gl]
abbrev nilS : Value := .slice none 0 0
/-- The reader behind a method. -/
def RdAt (b : Nat) (x : Sk) (r : List UInt8) (w : World) : Prop := ∃ s : SS, w.heap[b]? = some (.cells #[.string ⟨r.toArray⟩, .int .i64 x.kind, .int .i64 x.level, .slice s.ea s.el s.ec, .int .i64 x.hb, .string x.hr, .int .i64 x.cr, .int .i64 x.cc, .slice s.ca s.cl s.cc, .int .i64 x.gf, .slice s.ga s.gl s.gc] 70 (0, 0)) ∧ s.At w.heap.size w x
def RdPost (b : Nat) (cm cc : Addr) (w : World) (d : DecR) (e : Ending) (w' : World) : Prop := Below b w w' ∧ match d with
  | .got x r => e = .returned .nilIface ∧ RdAt b x r w'
  | .more => e = .returned (errV cm)
  | .code => e = .returned (errV cc)

theorem heap_set {w : World} {b o : Nat} {c : Array Value} {t : TypeId} {fz : Nat × Nat} {u : Value} (h : w.heap[b]? = some (.cells c t fz)) : (w.setCell ⟨b, o, none⟩ u).heap[b]? = some (.cells (c.setIfInBounds o u) t fz) := by
  simp only [World.setCell, Array.getElem?_modify, h]
  simp
theorem cntG_got {lim : Int} {l : List UInt8} {n : Int} {r : List UInt8} (h : cntG lim l = .got n r) : 0 ≤ n ∧ n ≤ lim ∧ r.length < l.length := by
  unfold cntG at h
  cases hg : getN l with
  | more => rw [hg] at h; cases h
  | bad => rw [hg] at h; cases h
  | got m r1 =>
    rw [hg] at h
    simp only at h
    obtain ⟨⟨h1, h2⟩, h3⟩ := getN_got hg
    split at h
    · cases h
    · injection h with h4 h5
      subst h4; subst h5
      exact ⟨h1, by omega, h3⟩
theorem size_list (l : List UInt8) : (⟨l.toArray⟩ : ByteArray).size = l.length := List.size_toArray
theorem owns_set {w : World} {b o base e size n : Nat} {v u : Value} {xs : List Value} (h : w.ownsRow base e size v n xs) (hb : b < base) : (w.setCell ⟨b, o, none⟩ u).ownsRow base e size v n xs :=
  owns_of_blocks h (fun j h1 _ => Below.heap_setCell _ _ _ _ (by show j ≠ b; omega))

/-- One number more behind a slice of the reader: the append, and what it leaves. -/
theorem app_u64 {wr w2 : World} {b k : Nat} {c : Array Value} {t : TypeId} {v u : Value} {acc : List Int} (hX : wr.heap[b]? = some (.cells c t (0, 0))) (hO : wr.ownsRow (b + 1) 46 1 v k (acc.flatMap encU)) (hb2 : Below wr.heap.size (wr.setCell ⟨b, 0, none⟩ u) w2) (y : Int) (hk : k < 2147483648) :
    ∃ a cap, v = .slice a k cap ∧ w2.heap[b]? = some (.cells (c.setIfInBounds 0 u) t (0, 0)) ∧ ∃ V, w2.alloc (.cells #[.int .u64 y] 46) = V ∧ ∃ g cap9 W9, (Builtin.append_ #[22, 22] 22 #[.slice a k cap, .slice (some ⟨w2.heap.size, 0, none⟩) 1 1]).run Tryd.prog V = .ok (.slice (some ⟨g, 0, none⟩) (k + 1) cap9) W9 ∧
      W9.heap[b]? = some (.cells (c.setIfInBounds 0 u) t (0, 0)) ∧ W9.ownsRow (b + 1) 46 1 (.slice (some ⟨g, 0, none⟩) (k + 1) cap9) (k + 1) ((acc ++ [y]).flatMap encU) ∧ Below b wr W9 ∧ wr.heap.size ≤ W9.heap.size := by
  have hblt : b < wr.heap.size := (Array.getElem?_eq_some_iff.1 hX).1
  have hz : wr.heap.size ≤ w2.heap.size := by simpa using hb2.size
  have hX2 : w2.heap[b]? = some (.cells (c.setIfInBounds 0 u) t (0, 0)) := (hb2.block _ hblt).trans (heap_set hX)
  have hO2 : w2.ownsRow (b + 1) 46 1 v k (acc.flatMap encU) := owns_of_blocks hO (fun j h1 h2 => (hb2.block j h2).trans (Below.heap_setCell _ _ _ _ (by show j ≠ b; omega)))
  obtain ⟨g, cap9, W9, hap, hO9, hB9, hz9, hk9, -⟩ := append_one Tryd.prog 22 und_u64 info_u64 rfl (by decide) hO2 (Below.refl (b + 1) w2) (Nat.le_refl _) (by omega) [.int .u64 y] rfl (by simp [Value.oneCell']) (by omega) (by decide)
  obtain ⟨a, cap, rfl⟩ : ∃ a cap, v = .slice a k cap := by
    rcases hO2.2 with ⟨rfl, rfl⟩ | ⟨g, cap, cur, rfl, _⟩
    · exact ⟨none, 0, rfl⟩
    · exact ⟨_, _, rfl⟩
  have hBw : Below b wr w2 := ((Below.refl b wr).setCell (p := ⟨b, 0, none⟩) (Nat.le_refl _) u).trans (hb2.mono (by omega))
  exact ⟨a, cap, rfl, hX2, _, rfl, g, cap9, W9, hap, (hk9 b (by omega)).trans hX2, by rw [List.flatMap_append]; exact hO9, hBw.trans (hB9.mono (by omega)), by omega⟩

attribute [-go_sem] Builtin.append_
set_option maxRecDepth 100000 in
set_option maxHeartbeats 4000000 in
theorem rexact_any (b : Nat) (s : ByteArray) (level : Int) (fm ff cm cc : Addr) (w : World) (hX : w.heap[b]? = some (.cells (rdCells s 1 level nilS 0 ⟨#[]⟩ 0 0 nilS 0 nilS) 70 (0, 0))) (hl : s.size < 4294967281) (hE : ∀ w', Below b w w' → GE fm ff cm cc w') (hbG : 4 ≤ b) :
    Calls Tryd.prog 46 #[.pointer (some ⟨b, 0, none⟩)] w (RdPost b cm cc w (exDec level s.data.toList)) := by
  have hblt : b < w.heap.size := (Array.getElem?_eq_some_iff.1 hX).1
  have hC := rcount_any b _ _ s 64 fm ff cm cc w hX rfl hl (hE w (Below.refl _ _)) (by omega) (by omega) hbG
  unfold exDec
  cases hg : cntG 64 s.data.toList with
  | more =>
    rw [hg] at hC
    unfold NumPost at hC
    simp only at hC ⊢
    unfold RdPost
    clear hX hE hg
    go_enter Tryd.func46, Tryd.ntmps46
    go_wp2_with (go_at_call 33; refine hC.mono ?_; rintro e w1 ⟨rfl, hb1⟩)
    go_ret
    exact ⟨hb1, rfl⟩
  | bad =>
    rw [hg] at hC
    unfold NumPost at hC
    simp only at hC ⊢
    unfold RdPost
    clear hX hE hg
    go_enter Tryd.func46, Tryd.ntmps46
    go_wp2_with (go_at_call 33; refine hC.mono ?_; rintro e w1 ⟨rfl, hb1⟩)
    go_ret
    exact ⟨hb1, rfl⟩
  | got n r =>
    rw [hg] at hC
    unfold NumPost at hC
    simp only at hC ⊢
    have HX := Lib.hid hX
    have HE := Lib.hid hE
    obtain ⟨hn0, hn1, hrl⟩ := cntG_got hg
    have hsl : s.data.toList.length = s.size := Array.length_toList
    have HRL : Hid (r.length < 4294967281) := by rw [hsl] at hrl; exact Nat.lt_trans hrl hl
    clear hX hE hg hrl hsl
    go_enter Tryd.func46, Tryd.ntmps46
    go_wp2_with (go_at_call 33; refine hC.mono ?_; rintro e w1 ⟨rfl, hb1⟩)
    have hB1 : Below b w w1 := ((Below.refl b w).setCell (p := ⟨b, 0, none⟩) (Nat.le_refl _) _).trans (hb1.mono (by omega))
    have hX1 : w1.heap[b]? = some (.cells (rdCells ⟨r.toArray⟩ 1 level nilS 0 ⟨#[]⟩ 0 0 nilS 0 nilS) 70 (0, 0)) := (hb1.block _ hblt).trans (heap_set HX.out)
    have hz1 : w.heap.size ≤ w1.heap.size := by simpa using hb1.size
    have HX1 := Lib.hid hX1
    clear hb1 hX1
    go_loopw [5, 19] (fun la i wr => ∃ (k : Nat) (last : Int) (acc : List Int) (l : List UInt8) (v : Value), i = .int .i64 k ∧ la = .int .u64 last ∧ (k : Int) ≤ n ∧ (0 ≤ last ∧ last ≤ 18446744073709551615) ∧ Hid (acc.length = k) ∧ Hid (wr.heap[b]? = some (.cells (rdCells ⟨l.toArray⟩ 1 level v 0 ⟨#[]⟩ 0 0 nilS 0 nilS) 70 (0, 0))) ∧
      Hid (wr.ownsRow (b + 1) 46 1 v k (acc.flatMap encU)) ∧ Below b w wr ∧ w.heap.size ≤ wr.heap.size ∧ Hid (l.length < 4294967281) ∧ Hid (exG (n.toNat - k) last acc l = exG n.toNat 0 [] r)) (fun _ i _ => n.toNat - (intOf i).toNat)
    case atStart => exact ⟨0, 0, [], r, nilS, rfl, rfl, by omega, by omega, rfl, HX1.out, World.ownsRow_nil _ _ _ _, hB1, hz1, HRL.out, rfl⟩
    case round =>
      obtain ⟨k, last, acc, l, v, rfl, rfl, hkn, ⟨hla0, hla1⟩, HA, HB, HO, hB, hz, HLl, HEq⟩ := hrel
      have hblr : b < wr.heap.size := by omega
      by_cases hlt : (k : Int) < n
      · have hN := rnumber_any b _ _ ⟨l.toArray⟩ fm ff cm cc wr HB.out rfl (by rw [size_list]; exact HLl.out) (HE.out wr hB)
        obtain ⟨m, hm⟩ : ∃ m, n.toNat - k = m + 1 := ⟨n.toNat - k - 1, by omega⟩
        have hEq := HEq.out
        rw [hm] at hEq
        simp only [exG] at hEq
        change Calls _ _ _ _ (NumPost b cm cc .u64 wr (getN l)) at hN
        cases hg : getN l with
        | more =>
          rw [hg] at hN hEq
          unfold NumPost at hN
          simp only at hN hEq
          have HEq2 := Lib.hid hEq
          clear hEq hm HEq hg
          go_wp2_with (go_at_call 32; refine hN.mono ?_; rintro e w2 ⟨rfl, hb2⟩)
          go_ret
          unfold RdPost
          rw [← HEq2.out]
          exact ⟨hB.trans hb2, rfl⟩
        | bad =>
          rw [hg] at hN hEq
          unfold NumPost at hN
          simp only at hN hEq
          have HEq2 := Lib.hid hEq
          clear hEq hm HEq hg
          go_wp2_with (go_at_call 32; refine hN.mono ?_; rintro e w2 ⟨rfl, hb2⟩)
          go_ret
          unfold RdPost
          rw [← HEq2.out]
          exact ⟨hB.trans hb2, rfl⟩
        | got x r2 =>
          rw [hg] at hN hEq
          unfold NumPost at hN
          simp only at hN hEq
          obtain ⟨⟨hx0, hx1⟩, hr2⟩ := getN_got hg
          have HR2 : Hid (r2.length < 4294967281) := Nat.lt_trans hr2 HLl.out
          obtain ⟨y, hy⟩ : ∃ y, (last + x) % 18446744073709551616 = y := ⟨_, rfl⟩
          rw [hy] at hEq
          have HEq2 := Lib.hid hEq
          have HM := Lib.hid hm
          have hyw : IntKind.u64.wrap (last + x) = y := by rw [IntKind.wrap_u64]; exact hy
          have hy0 : 0 ≤ y ∧ y ≤ 18446744073709551615 := by omega
          clear hEq hm HEq hg hr2 hy
          have HY0 := Lib.hid hy0
          clear hy0 hx0 hx1
          go_wp2_with (go_at_call 32; refine hN.mono ?_; rintro e w2 ⟨rfl, hb2⟩; obtain ⟨a, cap, rfl, hX2, V, hV, g9, cap9, W9, hap, hX9, hO9, hB9, hz9⟩ := app_u64 HB.out HO.out hb2 y (by omega); have c3 : w2.cell? ⟨b, 3, none⟩ = some (.slice a k cap) := cell_of_cells hX2 3; have f9 : W9.frozen? ⟨b, 3, none⟩ = false := frozen_of_cells hX9 3; have c9 : W9.cell? ⟨b, 3, none⟩ = some (.slice a k cap) := cell_of_cells hX9 3)
          go_roundw
          case rel =>
            refine ⟨k + 1, y, acc ++ [y], r2, _, by go_num, rfl, by omega, HY0.out, by rw [Hid, List.length_append, HA.out]; rfl, heap_set hX9, owns_set hO9 (Nat.lt_succ_self _), (hB.trans hB9).setCell (p := ⟨b, 3, none⟩) (Nat.le_refl _) _, by simp; omega, HR2.out, ?_⟩
            rw [Hid, show n.toNat - (k + 1) = m by have := HM.out; omega]; exact HEq2.out
          case measure => simp [intOf]; omega
      · have hkn2 : n = k := by omega
        have hEq := HEq.out
        rw [hkn2, Int.toNat_natCast, Nat.sub_self] at hEq
        simp only [exG] at hEq
        have HEq2 := Lib.hid hEq
        have hO := HO.out
        rw [← HA.out] at hO
        obtain ⟨a, cap, hv, hS, -⟩ := slC_of_owns (enc := encU) (fun _ => rfl) hO
        have HS := Lib.hid hS
        have HV := Lib.hid hv
        clear hEq HEq hO hS hv
        go_wp2_with fail
        go_ret
        unfold RdPost
        rw [← HEq2.out]
        have h1 := HB.out
        rw [HV.out] at h1
        exact ⟨hB, rfl, ⟨a, acc.length, cap, none, 0, 0, none, 0, 0⟩, h1, HS.out, SlC.nil, SlC.nil⟩
end Go.Proofs.YtjpnbkdhmjgdgaaDoor

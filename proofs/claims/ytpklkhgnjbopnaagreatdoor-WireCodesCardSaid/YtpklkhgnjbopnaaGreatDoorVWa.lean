/- Package wire: the writer's numbers, texts, whole. Package wire: whole, PutReq. Package wire: PutReq. -/
import Derived.Test.YtpklkhgnjbopnaaGreatDoorVW5
namespace Go.Proofs.YtpklkhgnjbopnaaGreatDoor
open Go Go.RowKit Go.Shelf
abbrev Wx (B b : Nat) (bs : List UInt8) (bd : Bool) (w : World) : Prop := WIs B b (Lib.byteCells bs) bd w
set_option maxRecDepth 100000 in
set_option maxHeartbeats 4000000 in
theorem numbers_x (B b : Nat) (bs : List UInt8) (bd : Bool) (l : List Int) (a : Option Addr) (len cap : Nat) (w : World) (h : Wx B b bs bd w) (hk : ∀ w', WK B b w w' → SlE encU 1 w'.heap.size w' a len l) (hu : U64s l) (hlen : bs.length + 9 * len ≤ 4294967296) (hBw : B ≤ w.heap.size) :
  Calls Tryz.prog 53 #[.pointer (some ⟨b, 0, none⟩), .slice a len cap] w fun e w' => e = .returned (.tuple #[]) ∧ Wx B b (bs ++ numsB l) bd w' ∧ WK B b w w' := by
 have hl := (hk w (WK.refl _ _ _)).1
 subst hl
 have H := Lib.hid h
 have HK := Lib.hid hk
 have HU := Lib.hid hu
 have HL : Hid (bs.length + 9 * l.length ≤ 4294967296) := hlen
 have hll : l.length ≤ 4294967296 := by omega
 clear h hk hu hlen
 go_enter Tryz.func53, Tryz.ntmps53
 go_wp2_with fail
 go_loopw [8] (fun i wr => ∃ (k : Nat), i = .int .i64 k ∧ k ≤ l.length ∧ Hid (Wx B b (bs ++ numsB (l.take k)) bd wr) ∧ Hid (WK B b w wr)) (fun i _ => l.length - (intOf i).toNat)
 case atStart => exact ⟨0, rfl, Nat.zero_le _, by rw [Hid, List.take_zero, show numsB [] = [] from rfl, List.append_nil]; exact H.out, WK.refl _ _ _⟩
 case round =>
  obtain ⟨k, rfl, hkl, HW, HC⟩ := hrel
  by_cases hlt : k < l.length
  ·obtain ⟨n, hn⟩ : ∃ n, l[k]? = some n := ⟨_, List.getElem?_eq_getElem hlt⟩
   obtain ⟨b1, o1, rfl, hbb, hc⟩ := (HK.out wr HC.out).2 k n hn
   have c0 : wr.cell? ⟨b1, o1 + k * 1, none⟩ = some (.int .u64 n) := hc 0 (by omega)
   rw [Nat.mul_one] at c0
   have HN := Lib.hid hn
   have hun : U64 n := HU.out n (List.mem_of_getElem? hn)
   have HUn := Lib.hid hun
   have HBr : Hid (B ≤ wr.heap.size) := Nat.le_trans hBw HC.out.1.size
   have HW2 : Hid (∀ w2, Below wr.drew.heap.size wr.drew w2 → Wx B b (bs ++ numsB (l.take k)) bd w2) := fun w2 hb => (HW.out.go ((Below.refl _ _).drew)).go hb
   have HB2 : Hid (∀ w2, Below wr.drew.heap.size wr.drew w2 → B ≤ w2.heap.size) := fun w2 hb => Nat.le_trans HBr.out hb.size
   have HL2 : Hid ((Lib.byteCells (bs ++ numsB (l.take k))).length + (strOfNums (putNums n)).size ≤ 140737488355328) := by
    have h1 := (numsB_len (l.take k)).2
    have h2 := (putNums_len n).2
    have h3 := HL.out
    rw [List.length_take] at h1
    rw [Hid, Lib.byteCells_length, List.length_append, strOfNums_size]
    omega
   have HF : Hid (∀ w3, WAt B b (.pointer (some ⟨b, 0, none⟩)) (Lib.byteCells (bs ++ numsB (l.take k)) ++ Lib.strCells (strOfNums (putNums n))) bd w3 → Wx B b (bs ++ numsB (l.take (k + 1))) bd w3) := fun w3 h => by
    rw [strCells_nums, ← byteCells_append, List.append_assoc] at h
    rw [take_snoc' HN.out, numsB_append, show numsB [n] = (putNums n).map (fun k => UInt8.ofNat k.toNat) by simp [numsB]]
    exact .inr h
   clear hc hn hun
   go_wp2_with fail
   refine wp_region_any (by kernel_rfl) ?_
   change wpAny _ _ _ _ _ _ _ (World.drew _)
   refine tk 0 (v := ?_) rfl ?_ ?_
   rotate_left
   ·intro w; go_simp; with_reducible rfl
   refine tk 1 (v := ?_) rfl ?_ ?_
   rotate_left
   ·intro w; go_simp; with_reducible rfl
   refine tk 2 (v := ?_) rfl ?_ ?_
   rotate_left
   ·intro w; go_simp; with_reducible rfl
   refine tk 3 (v := ?_) rfl ?_ ?_
   rotate_left
   ·intro w; go_simp; with_reducible rfl
   refine wpAny_ready (rs := [4]) (by kernel_rfl) (by simp) ?_
   refine AllReady.cons rfl (fun K hK => ?_) ?_
   ·go_simp
    refine (field_Put_any n _ HUn.out).mono ?_
    rintro e w2 ⟨rfl, hb2⟩
    refine hK _ _ ?_
    clear hK K
    refine wpAny_ready (rs := [5]) (by kernel_rfl) (by simp) ?_
    refine AllReady.cons rfl (fun K hK => ?_) ?_
    ·go_simp
     refine (WriteString_any_x B b _ bd (strOfNums (putNums n)) w2 (HW2.out w2 hb2) (HL2.out) (HB2.out w2 hb2)).mono ?_
     rintro e w3 ⟨rfl, hA3, hB3, hO3⟩
     refine hK _ _ ?_
     clear hK K
     refine wpAny_done (by kernel_rfl) ?_ _
     go_wp2_with fail
     go_roundw
     case rel => exact ⟨k + 1, by go_num, by omega, HF.out w3 hA3, (HC.out.trans (WK.of_below ((Below.refl _ _).drew) HBr.out)).trans ((WK.of_below hb2 HBr.out).trans ⟨hB3, hO3⟩)⟩
     case measure => simp [intOf]; omega
    exact AllReady.nil
   exact AllReady.nil
  ·obtain rfl : k = l.length := by omega
   have H9 : Hid (Wx B b (bs ++ numsB l) bd wr) := by have := HW.out; rw [List.take_length] at this; exact this
   go_wp2_with fail
   go_end0
   exact ⟨rfl, H9.out, HC.out⟩
theorem joined_any (xs : List ByteArray) (bk c : Nat) (w : World) (hcells : ∀ (j : Nat) x, xs[j]? = some x → w.cell? ⟨bk, 0 + j, none⟩ = some (.string x)) (hbk : bk < w.heap.size) (hN : xs.length ≤ 1000) (hcap : xs.length ≤ c) (hlen : (Lib.join (xs.map (·.data.toList)) []).length ≤ 140737488355328) :
  CR 86 #[.slice (some ⟨bk, 0, none⟩) xs.length c] w (.string ⟨(Lib.join (xs.map (·.data.toList)) []).toArray⟩) := by
 have HJ := Lib.hid (Tryz.strings_Join bk 0 c xs ⟨#[]⟩ w hcells hbk (by omega) hcap hlen)
 clear hcells hlen
 go_enter Tryz.func86, Tryz.ntmps86
 go_wp2_with (go_at_call 111; refine HJ.out.mono ?_; rintro e w1 ⟨rfl, hb⟩)
 go_ret
 exact ⟨rfl, hb⟩
def putT (s : ByteArray) : List UInt8 := if 400 < s.size then [] else textB s
theorem strOf_list (xs : List Int) : (strOfNums xs).data.toList = xs.map fun k => UInt8.ofNat k.toNat := by rw [strOfNums_data]
theorem PutText_any (s : ByteArray) (w : World) (hs : s.size < 4294967281) : CR 48 #[.string s] w (.tuple #[.string ⟨(putT s).toArray⟩, .int .i64 (if 400 < s.size then 21 else 0)]) := by
 unfold putT
 by_cases h4 : 400 < s.size
 ·rw [if_pos h4, if_pos h4]
  have h5 : decide ((400 : Int) < (s.size : Int)) = true := decide_eq_true (by omega)
  clear h4
  go_enter Tryz.func48, Tryz.ntmps48
  go_wp2_with fail
  go_ret2
  exact ⟨rfl, .refl _ _⟩
 ·rw [if_neg h4, if_neg h4]
  have h5 : decide ((400 : Int) < (s.size : Int)) = false := decide_eq_false (by omega)
  have HP := Lib.hid (fun W => field_Put_any (s.size : Int) W (by unfold U64; omega))
  have HJ : Hid (∀ W : World, CR 86 #[.slice (some ⟨W.heap.size, 0, none⟩) 2 2] (W.alloc (.cells #[.string (strOfNums (putNums (s.size : Int))), .string s] 9)) (.string ⟨(textB s).toArray⟩)) := fun W => by
   have hx := World.alloc_heap_new W (.cells #[.string (strOfNums (putNums (s.size : Int))), .string s] 9)
   have h := joined_any [strOfNums (putNums (s.size : Int)), s] W.heap.size 2 (W.alloc (.cells #[.string (strOfNums (putNums (s.size : Int))), .string s] 9)) (fun j x hj => by
    rw [cCc hx]
    match j, hj with
    | 0, hj => cases hj; rfl
    | 1, hj => cases hj; rfl) (by simp) (Nat.le_add_left 2 998) (Nat.le_refl 2) (by
     have h1 := (putNums_len (s.size : Int)).2
     have h2 : s.data.size = s.size := rfl
     simp [Lib.join_cons, Lib.joinTail, strOf_list]
     omega)
   have e : Lib.join ([strOfNums (putNums (s.size : Int)), s].map (·.data.toList)) [] = textB s := by
    simp [Lib.join_cons, Lib.joinTail, strOf_list, textB, numsB]
   rw [e] at h
   exact h
  clear hs
  go_enter Tryz.func48, Tryz.ntmps48
  go_wp2_with (first
   | (go_at_call 50; refine (HP.out _).mono ?_; rintro e w1 ⟨rfl, hb1⟩)
   | (go_at_call 86; refine (HJ.out _).mono ?_; rintro e w2 ⟨rfl, hb2⟩))
  go_ret2
  exact ⟨rfl, (hb1.alloc hb1.size _).trans (hb2.mono (by have := hb1.size; simp; omega))⟩
theorem putT_len (s : ByteArray) : (putT s).length ≤ 409 := by
 unfold putT
 split
 ·exact Nat.zero_le _
 ·have := textB_len s; omega
theorem putTs_len (l : List ByteArray) : (l.flatMap putT).length ≤ 409 * l.length := by
 induction l with
 | nil => exact Nat.zero_le _
 | cons x l ih => have := putT_len x; rw [List.flatMap_cons, List.length_append, List.length_cons]; omega
theorem strCells_list (l : List UInt8) : Lib.strCells ⟨l.toArray⟩ = Lib.byteCells l := rfl
theorem WIs.bad {B b : Nat} {bs : List Value} {wr : Bool} {w : World} (h : WIs B b bs wr w) : WIs B b bs true (w.setCell ⟨b, 2, none⟩ (.bool true)) := h.imp (·.bad) (·.bad)
theorem WIs.wk {B b : Nat} {bs : List Value} {wr : Bool} {w : World} (h : WIs B b bs wr w) (i : Nat) (v : Value) : WK B b w (w.setCell ⟨b, i, none⟩ v) := by
 have hB : B ≤ b := by rcases h with ⟨h, -⟩ | ⟨h, -⟩ <;> exact h
 exact ⟨(Below.refl B w).setCell (p := ⟨b, i, none⟩) hB _, (Lib.OthersKept.refl _ _ w).setCell ⟨b, i, none⟩ rfl _⟩
set_option maxRecDepth 100000 in
set_option maxHeartbeats 4000000 in
theorem texts_x (B b : Nat) (bs : List UInt8) (bd : Bool) (l : List ByteArray) (a : Option Addr) (len cap : Nat) (w : World) (h : Wx B b bs bd w) (hk : ∀ w', WK B b w w' → SlE encSt 1 w'.heap.size w' a len l) (hu : ∀ s ∈ l, s.size < 4294967281) (hlen : bs.length + 500 * len ≤ 4294967296) (hBw : B ≤ w.heap.size) :
  Calls Tryz.prog 54 #[.pointer (some ⟨b, 0, none⟩), .slice a len cap] w fun e w' => e = .returned (.tuple #[]) ∧ Wx B b (bs ++ l.flatMap putT) (bd || l.any fun s => decide (400 < s.size)) w' ∧ WK B b w w' := by
 have hl := (hk w (WK.refl _ _ _)).1
 subst hl
 have H := Lib.hid h
 have HK := Lib.hid hk
 have HU := Lib.hid hu
 have HL : Hid (bs.length + 500 * l.length ≤ 4294967296) := hlen
 have hll : l.length ≤ 4294967296 := by omega
 clear h hk hu hlen
 go_enter Tryz.func54, Tryz.ntmps54
 go_wp2_with fail
 go_loopw [10] (fun i wr => ∃ (k : Nat), i = .int .i64 k ∧ k ≤ l.length ∧ Hid (Wx B b (bs ++ (l.take k).flatMap putT) (bd || (l.take k).any fun s => decide (400 < s.size)) wr) ∧ Hid (WK B b w wr)) (fun i _ => l.length - (intOf i).toNat)
 case atStart => exact ⟨0, rfl, Nat.zero_le _, by rw [Hid, List.take_zero]; simp; exact H.out, WK.refl _ _ _⟩
 case round =>
  obtain ⟨k, rfl, hkl, HW, HC⟩ := hrel
  by_cases hlt : k < l.length
  ·obtain ⟨s, hs⟩ : ∃ s, l[k]? = some s := ⟨_, List.getElem?_eq_getElem hlt⟩
   obtain ⟨b1, o1, rfl, hbb, hc⟩ := (HK.out wr HC.out).2 k s hs
   have c0 : wr.cell? ⟨b1, o1 + k * 1, none⟩ = some (.string s) := hc 0 (by omega)
   rw [Nat.mul_one] at c0
   have HS := Lib.hid hs
   have hPT := Lib.hid (PutText_any s wr (HU.out s (List.mem_of_getElem? hs)))
   have HBr : Hid (B ≤ wr.heap.size) := Nat.le_trans hBw HC.out.1.size
   have HL2 : Hid ((Lib.byteCells (bs ++ (l.take k).flatMap putT)).length + (ByteArray.mk (putT s).toArray).size ≤ 140737488355328) := by
    have h1 := putTs_len (l.take k)
    have h2 := putT_len s
    have h3 := HL.out
    rw [List.length_take] at h1
    rw [Hid, Lib.byteCells_length, List.length_append, str_size]
    omega
   have e1 : Hid ((l.take (k + 1)).flatMap putT = (l.take k).flatMap putT ++ putT s) := by rw [Hid, take_snoc' hs, List.flatMap_append]; simp
   have e2 : Hid (((l.take (k + 1)).any fun s => decide (400 < s.size)) = (((l.take k).any fun s => decide (400 < s.size)) || decide (400 < s.size))) := by rw [Hid, take_snoc' hs, List.any_append]; simp
   clear hc hs
   by_cases h4 : 400 < s.size
   ·rw [if_pos h4] at hPT
    have H2 : Hid (∀ w2, Below wr.heap.size wr w2 → (w2.cell? ⟨b, 2, none⟩ = some (.bool (bd || (l.take k).any fun s => decide (400 < s.size))) ∧ w2.frozen? ⟨b, 2, none⟩ = false) ∧ Hid (Wx B b (bs ++ (l.take k).flatMap putT) true (w2.setCell ⟨b, 2, none⟩ (.bool true)) ∧ WK B b w (w2.setCell ⟨b, 2, none⟩ (.bool true)))) := fun w2 hb =>
     have h1 := HW.out.go hb
     ⟨h1.cell2, h1.bad, (HC.out.trans (WK.of_below hb HBr.out)).trans (h1.wk 2 _)⟩
    have HF : Hid (∀ w3 w4, WK B b w w3 → WAt B b (.pointer (some ⟨b, 0, none⟩)) (Lib.byteCells (bs ++ (l.take k).flatMap putT) ++ Lib.strCells ⟨(putT s).toArray⟩) true w4 → WK B b w3 w4 → Hid (Wx B b (bs ++ (l.take (k + 1)).flatMap putT) (bd || (l.take (k + 1)).any fun s => decide (400 < s.size)) w4) ∧ Hid (WK B b w w4)) := fun w3 w4 h1 h2 h3 => by
     rw [e1.out, e2.out, decide_eq_true h4, Bool.or_true, Bool.or_true, ← List.append_assoc]
     rw [strCells_list, ← byteCells_append] at h2
     exact ⟨.inr h2, h1.trans h3⟩
    clear h4
    go_wp2_with (first
     | (go_at_call 48; refine hPT.out.mono ?_; rintro e w2 ⟨rfl, hb2⟩; obtain ⟨⟨p2, q2⟩, H3⟩ := H2.out w2 hb2; clear hb2)
     | (go_at_call 36
        refine (WriteString_any_x B b _ true _ _ H3.out.1 HL2.out (Nat.le_trans hBw H3.out.2.1.size)).mono ?_
        rintro e w4 ⟨rfl, hA4, hB4, hO4⟩
        have HG := Lib.hid (HF.out _ w4 H3.out.2 hA4 ⟨hB4, hO4⟩)
        clear hA4 hB4 hO4))
    go_roundw
    case rel => exact ⟨k + 1, by go_num, by omega, HG.out.1, HG.out.2⟩
    case measure => simp [intOf]; omega
   ·rw [if_neg h4] at hPT
    have H2 : Hid (∀ w2, Below wr.heap.size wr w2 → Hid (Wx B b (bs ++ (l.take k).flatMap putT) (bd || (l.take k).any fun s => decide (400 < s.size)) w2 ∧ WK B b w w2)) := fun w2 hb =>
     ⟨HW.out.go hb, HC.out.trans (WK.of_below hb HBr.out)⟩
    have HF : Hid (∀ w3 w4, WK B b w w3 → WAt B b (.pointer (some ⟨b, 0, none⟩)) (Lib.byteCells (bs ++ (l.take k).flatMap putT) ++ Lib.strCells ⟨(putT s).toArray⟩) (bd || (l.take k).any fun s => decide (400 < s.size)) w4 → WK B b w3 w4 → Hid (Wx B b (bs ++ (l.take (k + 1)).flatMap putT) (bd || (l.take (k + 1)).any fun s => decide (400 < s.size)) w4) ∧ Hid (WK B b w w4)) := fun w3 w4 h1 h2 h3 => by
     rw [e1.out, e2.out, decide_eq_false h4, Bool.or_false, ← List.append_assoc]
     rw [strCells_list, ← byteCells_append] at h2
     exact ⟨.inr h2, h1.trans h3⟩
    clear h4
    go_wp2_with (first
     | (go_at_call 48; refine hPT.out.mono ?_; rintro e w2 ⟨rfl, hb2⟩; have H3 := H2.out w2 hb2; clear hb2)
     | (go_at_call 36
        refine (WriteString_any_x B b _ _ _ _ H3.out.1 HL2.out (Nat.le_trans hBw H3.out.2.1.size)).mono ?_
        rintro e w4 ⟨rfl, hA4, hB4, hO4⟩
        have HG := Lib.hid (HF.out _ w4 H3.out.2 hA4 ⟨hB4, hO4⟩)
        clear hA4 hB4 hO4))
    go_roundw
    case rel => exact ⟨k + 1, by go_num, by omega, HG.out.1, HG.out.2⟩
    case measure => simp [intOf]; omega
  ·obtain rfl : k = l.length := by omega
   have H9 : Hid (Wx B b (bs ++ l.flatMap putT) (bd || l.any fun s => decide (400 < s.size)) wr) := by have := HW.out; rw [List.take_length] at this; exact this
   go_wp2_with fail
   go_end0
   exact ⟨rfl, H9.out, HC.out⟩
end Go.Proofs.YtpklkhgnjbopnaaGreatDoor
namespace Go.Proofs.YtpklkhgnjbopnaaGreatDoor
open Go Go.RowKit Go.Shelf
theorem whole_x (B b : Nat) (bs : List UInt8) (bd : Bool) (w : World) (h : Wx B b bs bd w) (h0 : bs ≠ []) :
  Calls Tryz.prog 55 #[.pointer (some ⟨b, 0, none⟩)] w fun e w' => e = .returned (.tuple #[.string (if bd then ⟨#[]⟩ else ⟨bs.toArray⟩), .int .i64 (if bd then 200 else 0)]) ∧ Below B w w' := by
 have c2 := h.cell2.1
 have HS := Lib.hid (String_x B b bs bd w h h0)
 clear h h0
 cases bd with
 | true =>
  clear HS
  go_enter Tryz.func55, Tryz.ntmps55
  go_wp2_with fail
  go_ret2
  exact ⟨rfl, .refl _ _⟩
 | false =>
  go_enter Tryz.func55, Tryz.ntmps55
  go_wp2_with (go_at_call 39; refine HS.out.mono ?_; rintro e w1 ⟨rfl, hb⟩)
  go_ret2
  exact ⟨rfl, hb⟩
structure PQ (B b : Nat) (bs : List UInt8) (bd : Bool) (W0 W : World) : Prop where
 wx : Wx B b bs bd W
 wk : WK B b W0 W
theorem PQ.go {B b : Nat} {bs : List UInt8} {bd : Bool} {W0 W W' : World} (hP : PQ B b bs bd W0 W) (hb : Below W.heap.size W W') (hB : B ≤ W0.heap.size) : PQ B b bs bd W0 W' := ⟨hP.wx.go hb, hP.wk.trans (WK.of_below hb (Nat.le_trans hB hP.wk.1.size))⟩
theorem itemsB_len (l : List (Nat × Int)) : (l.flatMap itemB).length ≤ 18 * l.length := by
 induction l with
 | nil => exact Nat.zero_le _
 | cons x l ih =>
  have h : (itemB x).length ≤ 18 := (numsB_len [(x.1 : Int), x.2]).2
  rw [List.flatMap_cons, List.length_append, List.length_cons]
  omega
theorem wk_row {α : Type} {B b k : Nat} {enc : α → List Value} {t : TypeId} {W V w' : World} {c : Array Value} {l : List α} {len : Nat} (ht : t ≠ 5) (hV : W.alloc (.cells c t) = V) (hb : b ≠ W.heap.size) (hc : ∀ j x, l[j]? = some x → ∀ i, i < k → c[j * k + i]? = (enc x)[i]?) (hl : len = l.length) (hk : WK B b V w') : SlE enc k w'.heap.size w' (some ⟨W.heap.size, 0, none⟩) len l := by
 have hx : V.heap[W.heap.size]? = some (.cells c t (0, 0)) := by rw [← hV]; exact World.alloc_heap_new W _
 have hz : W.heap.size < V.heap.size := (Array.getElem?_eq_some_iff.1 hx).1
 have hx2 := hk.2 _ _ hx (by simp; exact fun e => hb e.symm) (fun c' fz e => by cases e; exact ht rfl)
 refine ⟨hl, fun j x hj => ⟨W.heap.size, 0, rfl, Nat.lt_of_lt_of_le hz hk.1.size, fun i hi => ?_⟩⟩
 rw [Nat.zero_add, cCc hx2]
 exact hc j x hj i hi
theorem nums_lit {B b : Nat} {bs : List UInt8} {bd : Bool} {W0 W : World} (l : List Int) (hP : PQ B b bs bd W0 W) (hu : U64s l) (hlen : bs.length + 9 * l.length ≤ 4294967296) (hBW : B ≤ W0.heap.size) :
  Calls Tryz.prog 53 #[.pointer (some ⟨b, 0, none⟩), .slice (some ⟨W.heap.size, 0, none⟩) l.length l.length] (W.alloc (.cells (l.map (Value.int .u64)).toArray 22)) fun e w' => e = .returned (.tuple #[]) ∧ PQ B b (bs ++ numsB l) bd W0 w' := by
 have hW := hP.wk.1.size
 have hb : Below W.heap.size W (W.alloc (.cells (l.map (Value.int .u64)).toArray 22)) := (Below.refl _ W).alloc (Nat.le_refl _) _
 have hlt := hP.wx.lt
 refine (numbers_x B b bs bd l _ l.length l.length _ (hP.wx.go hb) (fun w' hk => wk_row (k := 1) (enc := encU) (by decide) rfl (Nat.ne_of_lt hlt) (fun j x hj i hi => ?_) rfl hk) hu hlen (by have := hb.size; omega)).mono ?_
 ·obtain rfl : i = 0 := by omega
  rw [Nat.mul_one, Nat.add_zero]
  simp [hj, encU]
 ·rintro e w' ⟨he, h1, h2⟩
  exact ⟨he, h1, hP.wk.trans ((WK.of_below hb (by omega)).trans h2)⟩
theorem texts_lit {B b : Nat} {bs : List UInt8} {bd : Bool} {W0 W : World} (l : List ByteArray) (hP : PQ B b bs bd W0 W) (hu : ∀ s ∈ l, s.size < 4294967281) (hlen : bs.length + 500 * l.length ≤ 4294967296) (hBW : B ≤ W0.heap.size) :
  Calls Tryz.prog 54 #[.pointer (some ⟨b, 0, none⟩), .slice (some ⟨W.heap.size, 0, none⟩) l.length l.length] (W.alloc (.cells (l.map Value.string).toArray 9)) fun e w' => e = .returned (.tuple #[]) ∧ PQ B b (bs ++ l.flatMap putT) (bd || l.any fun s => decide (400 < s.size)) W0 w' := by
 have hW := hP.wk.1.size
 have hb : Below W.heap.size W (W.alloc (.cells (l.map Value.string).toArray 9)) := (Below.refl _ W).alloc (Nat.le_refl _) _
 have hlt := hP.wx.lt
 refine (texts_x B b bs bd l _ l.length l.length _ (hP.wx.go hb) (fun w' hk => wk_row (k := 1) (enc := encSt) (by decide) rfl (Nat.ne_of_lt hlt) (fun j x hj i hi => ?_) rfl hk) hu hlen (by have := hb.size; omega)).mono ?_
 ·obtain rfl : i = 0 := by omega
  rw [Nat.mul_one, Nat.add_zero]
  simp [hj, encSt]
 ·rintro e w' ⟨he, h1, h2⟩
  exact ⟨he, h1, hP.wk.trans ((WK.of_below hb (by omega)).trans h2)⟩
section
variable {B b : Nat} {bs : List UInt8} {bd : Bool} {W0 W : World}
theorem nums1 (x : Int) (hP : PQ B b bs bd W0 W) (hx : U64 x) (hlen : bs.length ≤ 1000000) (hBW : B ≤ W0.heap.size) : Calls Tryz.prog 53 #[.pointer (some ⟨b, 0, none⟩), .slice (some ⟨W.heap.size, 0, none⟩) 1 1] (W.alloc (.cells #[.int .u64 x] 22)) fun e w' => e = .returned (.tuple #[]) ∧ PQ B b (bs ++ numsB [x]) bd W0 w' :=
 nums_lit [x] hP (fun y hy => by simp at hy; subst hy; exact hx) (by show bs.length + 9 * 1 ≤ _; omega) hBW
theorem nums2 (x y : Int) (hP : PQ B b bs bd W0 W) (hx : U64 x) (hy : U64 y) (hlen : bs.length ≤ 1000000) (hBW : B ≤ W0.heap.size) : Calls Tryz.prog 53 #[.pointer (some ⟨b, 0, none⟩), .slice (some ⟨W.heap.size, 0, none⟩) 2 2] (W.alloc (.cells #[.int .u64 x, .int .u64 y] 22)) fun e w' => e = .returned (.tuple #[]) ∧ PQ B b (bs ++ numsB [x, y]) bd W0 w' :=
 nums_lit [x, y] hP (fun z hz => by simp at hz; rcases hz with rfl | rfl <;> assumption) (by show bs.length + 9 * 2 ≤ _; omega) hBW
theorem nums3 (x y z : Int) (hP : PQ B b bs bd W0 W) (hx : U64 x) (hy : U64 y) (hz : U64 z) (hlen : bs.length ≤ 1000000) (hBW : B ≤ W0.heap.size) : Calls Tryz.prog 53 #[.pointer (some ⟨b, 0, none⟩), .slice (some ⟨W.heap.size, 0, none⟩) 3 3] (W.alloc (.cells #[.int .u64 x, .int .u64 y, .int .u64 z] 22)) fun e w' => e = .returned (.tuple #[]) ∧ PQ B b (bs ++ numsB [x, y, z]) bd W0 w' :=
 nums_lit [x, y, z] hP (fun q hq => by simp at hq; rcases hq with rfl | rfl | rfl <;> assumption) (by show bs.length + 9 * 3 ≤ _; omega) hBW
theorem nums4 (x y z t : Int) (hP : PQ B b bs bd W0 W) (hx : U64 x) (hy : U64 y) (hz : U64 z) (ht : U64 t) (hlen : bs.length ≤ 1000000) (hBW : B ≤ W0.heap.size) : Calls Tryz.prog 53 #[.pointer (some ⟨b, 0, none⟩), .slice (some ⟨W.heap.size, 0, none⟩) 4 4] (W.alloc (.cells #[.int .u64 x, .int .u64 y, .int .u64 z, .int .u64 t] 22)) fun e w' => e = .returned (.tuple #[]) ∧ PQ B b (bs ++ numsB [x, y, z, t]) bd W0 w' :=
 nums_lit [x, y, z, t] hP (fun q hq => by simp at hq; rcases hq with rfl | rfl | rfl | rfl <;> assumption) (by show bs.length + 9 * 4 ≤ _; omega) hBW
theorem texts1 (x : ByteArray) (hP : PQ B b bs bd W0 W) (hx : x.size < 4294967281) (hlen : bs.length ≤ 1000000) (hBW : B ≤ W0.heap.size) : Calls Tryz.prog 54 #[.pointer (some ⟨b, 0, none⟩), .slice (some ⟨W.heap.size, 0, none⟩) 1 1] (W.alloc (.cells #[.string x] 9)) fun e w' => e = .returned (.tuple #[]) ∧ PQ B b (bs ++ putT x) (bd || decide (400 < x.size)) W0 w' := by
 have h := texts_lit [x] hP (fun y hy => by simp at hy; subst hy; exact hx) (by show bs.length + 500 * 1 ≤ _; omega) hBW
 simpa using h
theorem texts2 (x y : ByteArray) (hP : PQ B b bs bd W0 W) (hx : x.size < 4294967281) (hy : y.size < 4294967281) (hlen : bs.length ≤ 1000000) (hBW : B ≤ W0.heap.size) : Calls Tryz.prog 54 #[.pointer (some ⟨b, 0, none⟩), .slice (some ⟨W.heap.size, 0, none⟩) 2 2] (W.alloc (.cells #[.string x, .string y] 9)) fun e w' => e = .returned (.tuple #[]) ∧ PQ B b (bs ++ (putT x ++ putT y)) (bd || (decide (400 < x.size) || decide (400 < y.size))) W0 w' := by
 have h := texts_lit [x, y] hP (fun z hz => by simp at hz; rcases hz with rfl | rfl <;> assumption) (by show bs.length + 500 * 2 ≤ _; omega) hBW
 simpa using h
end
def rqV (r : Rq) (ia : Option Addr) (ic : Nat) (ta : Option Addr) (tc : Nat) : Array Value := #[.int .i64 r.op, .int .u64 r.now, .string r.labels, .string r.scope, .int .i64 r.kind, .slice ia r.items.length ic, .int .u64 r.h, .int .u64 r.tnt, .int .u64 r.id, .slice ta r.tens.length tc]
theorem Rq.notOk {r : Rq} (h : r.op < 0 ∨ 255 < r.op ∨ r.kind < 0 ∨ 255 < r.kind ∨ 50 < r.items.length ∨ 8 < r.tens.length) : r.ok = false := by
 cases e : r.ok with
 | false => rfl
 | true => obtain ⟨h1, h2, h3, h4, -⟩ := Rq.okD e; omega
set_option maxRecDepth 100000 in
set_option maxHeartbeats 4000000 in
theorem PutReq_bad (r : Rq) (ia : Option Addr) (ic : Nat) (ta : Option Addr) (tc : Nat) (w : World) (h : r.op < 0 ∨ 255 < r.op ∨ r.kind < 0 ∨ 255 < r.kind ∨ 50 < r.items.length ∨ 8 < r.tens.length) :
  CR 19 #[.agg (rqV r ia ic ta tc)] w (.tuple #[.string ⟨#[]⟩, .int .i64 200]) := by
 obtain ⟨op, now, lab, sc, kind, items, hh, tnt, id, tens⟩ := r
 unfold rqV
 dsimp only at h ⊢
 generalize items.length = il at *
 generalize tens.length = tl at *
 obtain ⟨W0, hW0, hX0, hB0, hs0⟩ := boxes1 w #[.int .i64 op, .int .u64 now, .string lab, .string sc, .int .i64 kind, .slice ia il ic, .int .u64 hh, .int .u64 tnt, .int .u64 id, .slice ta tl tc] 56
 obtain ⟨c0, c1, c2, c3, c4, c5, c6, c7, c8, c9⟩ := cl10 hX0
 clear hX0
 obtain h | ⟨h1, h⟩ | ⟨h1, h2, h⟩ | ⟨h1, h2, h3, h⟩ | ⟨h1, h2, h3, h4, h⟩ | ⟨h1, h2, h3, h4, h5, h⟩ : op < 0 ∨ (¬ op < 0 ∧ 255 < op) ∨ (¬ op < 0 ∧ ¬ 255 < op ∧ kind < 0) ∨ (¬ op < 0 ∧ ¬ 255 < op ∧ ¬ kind < 0 ∧ 255 < kind) ∨ (¬ op < 0 ∧ ¬ 255 < op ∧ ¬ kind < 0 ∧ ¬ 255 < kind ∧ (50 : Int) < il) ∨ (¬ op < 0 ∧ ¬ 255 < op ∧ ¬ kind < 0 ∧ ¬ 255 < kind ∧ ¬ (50 : Int) < il ∧ (8 : Int) < tl) := by omega
 all_goals
  go_enter Tryz.func19, Tryz.ntmps19
  go_wp2_with fail
  go_ret2
  exact ⟨rfl, hB0⟩
end Go.Proofs.YtpklkhgnjbopnaaGreatDoor
namespace Go.Proofs.YtpklkhgnjbopnaaGreatDoor
open Go Go.RowKit Go.Shelf
theorem putreq_fin (r : Rq) (o0 : 0 ≤ r.op) (o1 : r.op ≤ 255) (k0 : 0 ≤ r.kind) (k1 : r.kind ≤ 255) (i1 : r.items.length ≤ 50) (t1 : r.tens.length ≤ 8) {bd : Bool} (hbd : (false || (decide (400 < r.labels.size) || decide (400 < r.scope.size))) = bd) :
  r.ok = !bd ∧ (bd = false → [] ++ numsB [r.op, r.now] ++ (putT r.labels ++ putT r.scope) ++ numsB [r.kind, (r.items.length : Int)] ++ r.items.flatMap itemB ++ numsB [r.h, r.tnt, r.id, (r.tens.length : Int)] ++ numsB r.tens = r.B) := by
 refine ⟨?_, fun h => ?_⟩
 ·unfold Rq.ok
  rw [decide_eq_true o0, decide_eq_true o1, decide_eq_true k0, decide_eq_true k1, decide_eq_true i1, decide_eq_true t1, ← hbd]
  by_cases h1 : r.labels.size ≤ 400 <;> by_cases h2 : r.scope.size ≤ 400 <;> simp [h1, h2, Nat.not_lt.2, Nat.lt_of_not_le] <;> omega
 ·rw [← hbd] at h
  simp only [Bool.false_or, Bool.or_eq_false_iff, decide_eq_false_iff_not] at h
  have e2 : ∀ a b : Int, numsB [a, b] = numsB [a] ++ numsB [b] := fun a b => numsB_append [a] [b]
  have e4 : ∀ a b c d : Int, numsB [a, b, c, d] = numsB [a] ++ (numsB [b] ++ (numsB [c] ++ numsB [d])) := fun a b c d =>
   (numsB_append [a] [b, c, d]).trans (by rw [show numsB [b, c, d] = numsB [b] ++ numsB [c, d] from numsB_append [b] [c, d], e2 c d])
  unfold putT Rq.B
  rw [if_neg h.1, if_neg h.2, e2, e2, e4]
  simp only [List.nil_append, List.append_assoc]
set_option maxRecDepth 100000 in
set_option maxHeartbeats 4000000 in
theorem PutReq_in (op now kind hh tnt id : Int) (lab sc : ByteArray) (items : List (Nat × Int)) (tens : List Int) (il tl : Nat) (ia : Option Addr) (ic : Nat) (ta : Option Addr) (tc : Nat) (w : World) (o0 : 0 ≤ op) (o1 : op ≤ 255) (k0 : 0 ≤ kind) (k1 : kind ≤ 255) (i1 : il ≤ 50) (t1 : tl ≤ 8)
  (hw : Rq.Wf ⟨op, now, lab, sc, kind, items, hh, tnt, id, tens⟩) (hl : lab.size < 4294967281) (hs : sc.size < 4294967281) (hI : SlE encIt 2 w.heap.size w ia il items) (hT : SlE encU 1 w.heap.size w ta tl tens) :
  CR 19 #[.agg #[.int .i64 op, .int .u64 now, .string lab, .string sc, .int .i64 kind, .slice ia il ic, .int .u64 hh, .int .u64 tnt, .int .u64 id, .slice ta tl tc]] w (.tuple #[.string (if Rq.ok ⟨op, now, lab, sc, kind, items, hh, tnt, id, tens⟩ then ⟨(Rq.B ⟨op, now, lab, sc, kind, items, hh, tnt, id, tens⟩).toArray⟩ else ⟨#[]⟩), .int .i64 (if Rq.ok ⟨op, now, lab, sc, kind, items, hh, tnt, id, tens⟩ then 0 else 200)]) := by
 obtain ⟨RS, hRS⟩ : ∃ RS : ByteArray, (if Rq.ok ⟨op, now, lab, sc, kind, items, hh, tnt, id, tens⟩ then (⟨(Rq.B ⟨op, now, lab, sc, kind, items, hh, tnt, id, tens⟩).toArray⟩ : ByteArray) else ⟨#[]⟩) = RS := ⟨_, rfl⟩
 obtain ⟨RE, hRE⟩ : ∃ RE : Int, (if Rq.ok ⟨op, now, lab, sc, kind, items, hh, tnt, id, tens⟩ then (0 : Int) else 200) = RE := ⟨_, rfl⟩
 rw [hRS, hRE]
 have HRS := Lib.hid hRS
 have HRE := Lib.hid hRE
 have HFin := Lib.hid (fun bd h1 h2 => putreq_fin ⟨op, now, lab, sc, kind, items, hh, tnt, id, tens⟩ o0 o1 k0 k1 h1 h2 (bd := bd))
 clear hRS hRE
 obtain ⟨W0, hW0, hX0, hB0, hs0⟩ := boxes1 w #[.int .i64 op, .int .u64 now, .string lab, .string sc, .int .i64 kind, .slice ia il ic, .int .u64 hh, .int .u64 tnt, .int .u64 id, .slice ta tl tc] 56
 obtain ⟨c0, c1, c2, c3, c4, c5, c6, c7, c8, c9⟩ := cl10 hX0
 obtain ⟨W1, hW1, hX1, hB1, hs1⟩ := boxes1 W0 #[.pointer none, .slice none 0 0, .bool false] 119
 rw [hs0] at hX1 hB1 hs1
 have hX10 := known hB1 (by omega) hX0
 obtain ⟨d0, d1, d2, d3, d4, d5, d6, d7, d8, d9⟩ := cl10 hX10
 have HZ : Hid (W1.heap.size = w.heap.size + 1 + 1) := hs1
 have P1 : Hid (PQ (w.heap.size + 1) (w.heap.size + 1) [] false W1 W1) := ⟨.inl ⟨Nat.le_refl _, _, hX1, World.ownsRowF_nil _ _ _ _, (by simp [Value.ownBlock])⟩, WK.refl _ _ _⟩
 have HR : Hid (∀ W, WK (w.heap.size + 1) (w.heap.size + 1) W1 W → W.heap[w.heap.size]? = some (.cells #[.int .i64 op, .int .u64 now, .string lab, .string sc, .int .i64 kind, .slice ia il ic, .int .u64 hh, .int .u64 tnt, .int .u64 id, .slice ta tl tc] 56 (0, 0))) := fun W hk => (hk.1.block _ (by omega)).trans hX10
 have HBw : Hid (∀ W, WK (w.heap.size + 1) (w.heap.size + 1) W1 W → Below w.heap.size w W) := fun W hk => (hB0.trans (hB1.mono (by omega))).trans (hk.1.mono (by omega))
 have HI := Lib.hid hI
 have HT := Lib.hid hT
 have HW := Lib.hid hw
 have hil := hI.1
 have htl := hT.1
 have HIL := Lib.hid hil
 have HTL := Lib.hid htl
 clear hX0 hX1 hX10 hs1 hB1 hI hT hil htl
 go_enter Tryz.func19, Tryz.ntmps19
 go_wp2_with fail
 refine (nums2 op now P1.out ⟨o0, by omega⟩ hw.now (Nat.zero_le _) (by rw [HZ.out]; omega)).mono ?_
 rintro e w2 ⟨rfl, hP2⟩
 have hB1' : Hid (w.heap.size + 1 ≤ W1.heap.size) := by rw [Hid, HZ.out]; omega
 have hX2 := HR.out w2 hP2.wk
 have e2 : w2.cell? ⟨w.heap.size, 2, none⟩ = some (.string lab) := cCc hX2 2
 have e3 : w2.cell? ⟨w.heap.size, 3, none⟩ = some (.string sc) := cCc hX2 3
 have P2 := Lib.hid hP2
 have L2 : Hid (([] ++ numsB [op, now] : List UInt8).length ≤ 18) := (numsB_len [op, now]).2
 clear hP2 hX2 c0 c1 c2 c3 c4 c5 c6 c7 c8 c9 d0 d1 d2 d3 d4 d5 d6 d7 d8 d9 P1
 go_wp2_with fail
 refine (texts2 lab sc P2.out hl hs (Nat.le_trans L2.out (by omega)) hB1'.out).mono ?_
 rintro e w3 ⟨rfl, hP3⟩
 have hX3 := HR.out w3 hP3.wk
 have e4 : w3.cell? ⟨w.heap.size, 4, none⟩ = some (.int .i64 kind) := cCc hX3 4
 have e5 : w3.cell? ⟨w.heap.size, 5, none⟩ = some (.slice ia il ic) := cCc hX3 5
 have P3 := Lib.hid hP3
 have L3 : Hid ((([] ++ numsB [op, now]) ++ (putT lab ++ putT sc) : List UInt8).length ≤ 900) := by
  have h1 := L2.out
  have h2 := putT_len lab
  have h3 := putT_len sc
  have h4 : ∀ a b c : List UInt8, (a ++ (b ++ c)).length = a.length + (b.length + c.length) := fun a b c => by simp
  rw [Hid, h4]
  omega
 clear hP3 hX3 e2 e3 P2
 go_wp2_with fail
 refine (nums2 kind (il : Int) P3.out ⟨k0, by omega⟩ ⟨by omega, by omega⟩ (Nat.le_trans L3.out (by omega)) hB1'.out).mono ?_
 rintro e w4 ⟨rfl, hP4⟩
 have hX4 := HR.out w4 hP4.wk
 have e6 : w4.cell? ⟨w.heap.size, 5, none⟩ = some (.slice ia il ic) := cCc hX4 5
 obtain ⟨bd, hbd⟩ : ∃ bd, (false || (decide (400 < lab.size) || decide (400 < sc.size))) = bd := ⟨_, rfl⟩
 obtain ⟨b4, hb4⟩ : ∃ b4, ([] ++ numsB [op, now] ++ (putT lab ++ putT sc) ++ numsB [kind, (il : Int)]) = b4 := ⟨_, rfl⟩
 have L4 : Hid (b4.length ≤ 918) := by
  have h1 := L3.out
  have h2 := (numsB_len [kind, (il : Int)]).2
  rw [Hid, ← hb4, List.length_append]
  exact Nat.add_le_add h1 h2
 rw [hbd, hb4] at hP4
 have P4 := Lib.hid hP4
 have HE4 := Lib.hid hb4
 have HBD := Lib.hid hbd
 clear hP4 hX4 e4 e5 P3 hbd hb4
 go_wp2_with fail
 go_loopw [65] (fun i wr => ∃ (k : Nat), i = .int .i64 k ∧ k ≤ il ∧ Hid (PQ (w.heap.size + 1) (w.heap.size + 1) (b4 ++ (items.take k).flatMap itemB) bd W1 wr)) (fun i _ => il - (intOf i).toNat)
 case atStart => exact ⟨0, rfl, Nat.zero_le _, by rw [Hid, List.take_zero]; simp; exact P4.out⟩
 case round =>
  obtain ⟨k, rfl, hk, HP⟩ := hrel
  by_cases hlt : k < il
  ·obtain ⟨x, hx⟩ : ∃ x, items[k]? = some x := ⟨_, List.getElem?_eq_getElem (by rw [← HIL.out]; exact hlt)⟩
   obtain ⟨b1, o1, rfl, hbb, hc⟩ := HI.out.2 k x hx
   have hBw := HBw.out wr HP.out.wk
   have c0 : wr.cell? ⟨b1, o1 + k * 2, none⟩ = some (.int .u64 x.1) := (hBw.cell (p := ⟨b1, o1 + k * 2, none⟩) hbb).trans (hc 0 (by omega))
   have c1 : wr.cell? ⟨b1, o1 + k * 2 + 1, none⟩ = some (.int .u64 x.2) := (hBw.cell (p := ⟨b1, o1 + k * 2 + 1, none⟩) hbb).trans (hc 1 (by omega))
   obtain ⟨W5, hW5, hX5, hB5, -⟩ := boxes1 wr #[.int .u64 x.1, .int .u64 x.2] 123
   obtain ⟨d0, d1⟩ := cl2 hX5
   have HX := Lib.hid hx
   have hix := HW.out.items x (List.mem_of_getElem? hx)
   have HN := Lib.hid (nums2 (x.1 : Int) x.2 (HP.out.go hB5 hB1'.out) hix.1 hix.2 (by
    have h1 := L4.out
    have h2 := itemsB_len (items.take k)
    rw [List.length_take] at h2
    rw [List.length_append]
    omega) hB1'.out)
   clear hBw hc hx hix hX5 hB5
   go_wp2_with fail
   refine HN.out.mono ?_
   rintro e w6 ⟨rfl, hP6⟩
   have FI : Hid (PQ (w.heap.size + 1) (w.heap.size + 1) (b4 ++ (items.take (k + 1)).flatMap itemB) bd W1 w6) := by
    rw [Hid, take_snoc' HX.out, List.flatMap_append, ← List.append_assoc]
    simp only [List.flatMap_cons, List.flatMap_nil, List.append_nil]
    exact hP6
   clear hP6 HN
   go_wp2_with fail
   go_roundw
   case rel => exact ⟨k + 1, by go_num, by omega, FI⟩
   case measure => simp [intOf]; omega
  ·obtain rfl : k = il := by omega
   have P5 : Hid (PQ (w.heap.size + 1) (w.heap.size + 1) (b4 ++ items.flatMap itemB) bd W1 wr) := by
    have h := HP.out
    rw [List.take_of_length_le (by rw [← HIL.out]; exact Nat.le_refl _)] at h
    exact h
   have hX5 := HR.out wr P5.out.wk
   have e1 : wr.cell? ⟨w.heap.size, 6, none⟩ = some (.int .u64 hh) := cCc hX5 6
   have e2 : wr.cell? ⟨w.heap.size, 7, none⟩ = some (.int .u64 tnt) := cCc hX5 7
   have e3 : wr.cell? ⟨w.heap.size, 8, none⟩ = some (.int .u64 id) := cCc hX5 8
   have e4 : wr.cell? ⟨w.heap.size, 9, none⟩ = some (.slice ta tl tc) := cCc hX5 9
   have L5 : Hid ((b4 ++ items.flatMap itemB).length ≤ 1900) := by
    have h1 := L4.out
    have h2 := itemsB_len items
    rw [← HIL.out] at h2
    rw [Hid, List.length_append]
    omega
   have HN := Lib.hid (nums4 hh tnt id (tl : Int) P5.out HW.out.h HW.out.tnt HW.out.id ⟨by omega, by omega⟩ (Nat.le_trans L5.out (by omega)) hB1'.out)
   clear hX5 HP P4
   go_wp2_with fail
   refine HN.out.mono ?_
   rintro e w7 ⟨rfl, hP7⟩
   have e5 : w7.cell? ⟨w.heap.size, 9, none⟩ = some (.slice ta tl tc) := cCc (HR.out w7 hP7.wk) 9
   have L7 : Hid ((b4 ++ items.flatMap itemB ++ numsB [hh, tnt, id, (tl : Int)]).length ≤ 2000) := by
    have h1 := L5.out
    have h2 := (numsB_len [hh, tnt, id, (tl : Int)]).2
    rw [Hid, List.length_append]
    have h3 : [hh, tnt, id, (tl : Int)].length = 4 := rfl
    omega
   have HN7 := Lib.hid (numbers_x (w.heap.size + 1) (w.heap.size + 1) _ bd tens ta tl tc w7 hP7.wx (fun w' hk => (HT.out.below (HBw.out w' (hP7.wk.trans hk))).mono (HBw.out w' (hP7.wk.trans hk)).size) HW.out.tens (by have := L7.out; omega) (Nat.le_trans hB1'.out hP7.wk.1.size))
   have P7 := Lib.hid hP7
   clear hP7 HN e1 e2 e3 e4
   go_wp2_with fail
   refine HN7.out.mono ?_
   rintro e w8 ⟨rfl, hx8, hk8⟩
   have HWh := (whole_x (w.heap.size + 1) (w.heap.size + 1) _ bd w8 hx8 (fun h => by
    have h1 := (numsB_len [hh, tnt, id, (tl : Int)]).1
    have h2 := congrArg List.length h
    rw [List.length_append, List.length_append] at h2
    have h3 : [hh, tnt, id, (tl : Int)].length = 4 := rfl
    have h4 : ([] : List UInt8).length = 0 := rfl
    omega))
   have HEq : (if bd then (⟨#[]⟩ : ByteArray) else ⟨(b4 ++ items.flatMap itemB ++ numsB [hh, tnt, id, (tl : Int)] ++ numsB tens).toArray⟩) = RS ∧ (if bd then (200 : Int) else 0) = RE := by
    obtain ⟨h1, h2⟩ := HFin.out bd (by rw [← HIL.out]; exact i1) (by rw [← HTL.out]; exact t1) HBD.out
    rw [← HRS.out, ← HRE.out, h1]
    cases bd with
    | true => exact ⟨rfl, rfl⟩
    | false =>
     rw [← h2 rfl, ← HE4.out, HTL.out, HIL.out]
     exact ⟨rfl, rfl⟩
   rw [HEq.1, HEq.2] at HWh
   have HWh := Lib.hid HWh
   have HB8 : Hid (Below w.heap.size w w8) := HBw.out w8 (P7.out.wk.trans hk8)
   clear hx8 hk8 HN7 HEq
   go_wp2_with fail
   refine HWh.out.mono ?_
   rintro e w9 ⟨rfl, hb9⟩
   have HB9 : Hid (Below w.heap.size w w9) := HB8.out.trans (hb9.mono (by omega))
   clear hb9
   go_wp2_with fail
   go_ret2
   exact ⟨rfl, HB9.out⟩
theorem PutReq_any (r : Rq) (ia : Option Addr) (ic : Nat) (ta : Option Addr) (tc : Nat) (w : World) (hw : r.Wf) (hl : r.labels.size < 4294967281) (hs : r.scope.size < 4294967281) (hI : SlE encIt 2 w.heap.size w ia r.items.length r.items) (hT : SlE encU 1 w.heap.size w ta r.tens.length r.tens) :
  CR 19 #[.agg (rqV r ia ic ta tc)] w (.tuple #[.string (if r.ok then ⟨r.B.toArray⟩ else ⟨#[]⟩), .int .i64 (if r.ok then 0 else 200)]) := by
 by_cases h : r.op < 0 ∨ 255 < r.op ∨ r.kind < 0 ∨ 255 < r.kind ∨ 50 < r.items.length ∨ 8 < r.tens.length
 ·rw [Rq.notOk h]
  exact PutReq_bad r ia ic ta tc w h
 ·exact PutReq_in r.op r.now r.kind r.h r.tnt r.id r.labels r.scope r.items r.tens r.items.length r.tens.length ia ic ta tc w (by omega) (by omega) (by omega) (by omega) (by omega) (by omega) hw hl hs hI hT
end Go.Proofs.YtpklkhgnjbopnaaGreatDoor

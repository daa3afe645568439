/- Package wire: Feed of nobody's ask. Package wire: close, Feed of what is no frame. Printed by gen_wz.py. Package collector: find, Key, New, as far as wires ask: whose numbers there are. Package collector: find where there is none, Key, New of one config. Printed by gen_wt.py. Package collector: New of one config. Printed by gen_wtn.py. Package aviarylaw20: shown. -/
import Derived.RegionIn
import Derived.Test.YtpklkhgnjbopnaaGreatDoorZG2
namespace Go.Proofs.YtpklkhgnjbopnaaGreatDoor
open Go Go.RowKit Go.Shelf
theorem All_known (s : ByteArray) (bs : List (List UInt8)) (r : List UInt8) (no : Int) (fm ff : Addr) (w : World) (hz : s.size < 4294967281) (hE : GF fm ff w) (hT : Fr.GT w) (hF : Frames s.data.toList bs r no) :
  Calls Tryz.prog 35 #[.string s] w fun e w' => ∃ (a : Option Addr) (cap : Nat), e = .returned (.tuple #[.slice a bs.length cap, .string ⟨r.toArray⟩, .int .i64 no]) ∧ SlE encTx 1 w'.heap.size w' a bs.length (bs.map fun b => ⟨b.toArray⟩) ∧ Below w.heap.size w w' := by
 refine (All_any s fm ff w hz hE hT).mono ?_
 rintro e w' ⟨l, t, no', a, cap, rfl, hF', hS, hB⟩
 obtain ⟨h1, h2, rfl⟩ := hF'.one hF
 have hl : l = bs.map fun b => ⟨b.toArray⟩ := by
  rw [← h1, List.map_map]
  exact (List.map_id' l).symm.trans (List.map_congr_left fun x _ => rfl)
 have hlen : l.length = bs.length := by rw [hl, List.length_map]
 have ht : t = ⟨r.toArray⟩ := by rw [← h2]
 rw [hlen] at hS ⊢
 rw [hl] at hS
 rw [ht]
 exact ⟨a, cap, rfl, hS, hB⟩
theorem framed_known (e : Int) (w : World) (he : 0 ≤ e) (h2 : e ≤ 4611686018427387904) : CR 37 #[.agg #[.int .i64 e, .int .u64 0, .slice none 0 0, .slice none 0 0]] w (.string ⟨(mkF (Ry.B ⟨e, 0, [], []⟩)).toArray⟩) := by
 have h1 := (numsB_one_len e).2
 have h0 := (numsB_one_len e).1
 refine framed_ok ⟨e, 0, [], []⟩ none 0 none 0 w (show U64 0 from ⟨by decide, by decide⟩) (fun x hx => by cases hx) ⟨rfl, fun j x hx => by cases hx⟩ ⟨rfl, fun j x hx => by cases hx⟩ ?_ ?_ ?_
 ·unfold Ry.ok smallB
  simp [he, h2]
 ·unfold Ry.B
  rw [List.length_append]
  exact Nat.lt_of_lt_of_le (Nat.lt_of_lt_of_le Nat.zero_lt_one h0) (Nat.le_add_right _ _)
 ·unfold Ry.B
  have e0 : numsB [(0 : Int)] = [0] := by decide
  simp only [List.length_append, List.length_nil, List.flatMap_nil]
  show (numsB [e]).length + ((numsB [(0 : Int)]).length + ((numsB [(0 : Int)]).length + ((numsB []).length + ((numsB [(0 : Int)]).length + 0)))) ≤ 2000
  have := (numsB_len []).2
  rw [e0]
  simp only [List.length_cons, List.length_nil] at this ⊢
  omega
set_option maxRecDepth 100000 in
set_option maxHeartbeats 2000000 in
theorem Feed_ask0 (b : Nat) (cv : Value) (l m n : Ln) (s : ByteArray) (q : Rq) (fm ff : Addr) (w : World) (hz : s.size < 4294967281) (hE : ∀ W, Below w.heap.size w W → GF fm ff W) (hT : Fr.GT w) (hF : Frames s.data.toList [askB q] [] 20) (hok : q.ok = true) (hq : msgOf (askB q) = .ask q) (h : WireAt w b cv l m n) (hk : l.known = false) (hc : l.closed = false) (hl : l.left = ⟨#[]⟩) :
  Calls Tryz.prog 8 #[.pointer (some ⟨b, 0, none⟩), .int .i64 0, .string s] w fun e w' => e = .returned (.tuple #[.string ⟨(mkF (Ry.B ⟨201, 0, [], []⟩)).toArray⟩, .int .i64 0]) ∧ WireAt w' b cv l m n ∧ Kept (· ≠ b) w w' := by
 obtain ⟨-, -, -, -, c4, c5⟩ := h.at0
 rw [hc] at c4
 rw [hl] at c5
 have HN := Lib.hid fun V => wnone_some ⟨b, 0, none⟩ V
 have HI := Lib.hid fun V => isConn_any 0 V
 have hcat : (⟨#[]⟩ : ByteArray) ++ s = s := by apply ByteArray.ext; rw [ByteArray.data_append]; simp
 have HA := Lib.hid (All_known s _ _ _ fm ff w hz (hE w (Below.refl _ _)) hT hF)
 have hAns := fun (V : World) (hV : Below w.heap.size w V) => answer_ask0 b cv l m n ⟨(askB q).toArray⟩ q fm ff V (by have := askB_len hok; show (askB q).toArray.size < _; rw [List.size_toArray]; omega) (fun U hU => hE U (hV.trans (hU.mono hV.size))) hq (h.go hV) hk
 have HAns := Lib.hid hAns
 have HFr := Lib.hid fun V => framed_known 201 V (by omega) (by omega)
 have HW : Hid (∀ V, Below w.heap.size w V → V.cell? ⟨b, 5, none⟩ = some (.bool false) ∧ V.cell? ⟨b, 6, none⟩ = some (.string ⟨#[]⟩) ∧ V.frozen? ⟨b, 6, none⟩ = false ∧ V.setCell ⟨b, 6, none⟩ (.string ⟨#[]⟩) = V ∧ WireAt V b cv l m n) := fun V hV => by
  have h2 := h.go hV
  obtain ⟨-, -, -, -, c4, c5⟩ := h2.at0
  rw [hc] at c4
  rw [hl] at c5
  exact ⟨c4, c5, cFz h2 6, set_same h2 ((show (wcells cv l m n)[6]? = some (.string l.left) from rfl).trans (by rw [hl])), h2⟩
 have hTz : (⟨(mkF (Ry.B ⟨201, 0, [], []⟩)).toArray⟩ : ByteArray).size = 10 := by decide
 obtain ⟨T, hT0⟩ : ∃ T, (mkF (Ry.B ⟨201, 0, [], []⟩)) = T := ⟨_, rfl⟩
 rw [hT0] at HFr hTz ⊢
 clear hE hT hF hq h hk hc hl hAns hT0
 go_enter Tryz.func8, Tryz.ntmps8
 go_wp2_with fail
 refine (HN.out _).mono ?_
 rintro e w1 ⟨rfl, hw⟩
 have hw := hw.symm
 subst hw
 go_wp2_with fail
 refine (HI.out _).mono ?_
 rintro e w2 ⟨rfl, hw⟩
 have hw := hw.symm
 subst hw
 go_wp2_with fail
 refine HA.out.mono ?_
 rintro e w3 ⟨a, cap, rfl, hS, hb⟩
 obtain ⟨W, hW, hX, hB, hs1⟩ := boxes1 w3 #[.pointer none, .slice none 0 0] 86
 have hbu : Lib.IsBuilderF 86 5 w3.heap.size w3.heap.size [] W := by rw [← hW]; exact Lib.IsBuilderF.of (Lib.fresh_isBuilder _ _ w3)
 have HB3 := Lib.hid hb
 have HS := Lib.hid hS
 have hbW : Below w3.heap.size w3 W := hB
 clear hb hX hB HA hS
 go_wp2_with fail
 go_loopw [42] (fun i wr => (i = .int .i64 0 ∧ wr = W) ∨ (i = .int .i64 1 ∧ Hid (Lib.IsBuilderF 86 5 w3.heap.size w3.heap.size (Lib.byteCells T) wr) ∧ Hid (Below w3.heap.size w3 wr))) (fun i _ => 1 - (intOf i).toNat)
 case atStart => exact .inl ⟨rfl, rfl⟩
 case round =>
  rcases hrel with ⟨rfl, rfl⟩ | ⟨rfl, h1, h2⟩
  ·obtain ⟨x, b1, o1, hx, rfl, hb1, hc1⟩ := (HS.out.below hbW).at (show 0 < [askB q].length from Nat.zero_lt_one)
   obtain rfl : (⟨(askB q).toArray⟩ : ByteArray) = x := Option.some.inj hx
   have p0 : wr.cell? ⟨b1, o1, none⟩ = some (.string ⟨(askB q).toArray⟩) := hc1 0 (by omega)
   have hwb : Below w.heap.size w wr := HB3.out.trans (hbW.mono HB3.out.size)
   have hA := HAns.out _ hwb
   clear hc1 hx hb1
   go_wp2_with fail
   refine hA.mono ?_
   rintro e w4 ⟨rfl, hb4⟩
   go_wp2_with fail
   refine (HFr.out _).mono ?_
   rintro e w5 ⟨rfl, hb5⟩
   have hb45 : Below wr.heap.size wr w5 := hb4.trans (hb5.mono hb4.size)
   have hWS := WriteString_any w3.heap.size w3.heap.size [] ⟨T.toArray⟩ w5 (isB_old hbu (fun j hj => hb45.block j hj)) (by rw [hTz]; decide) (by have := hb45.size; omega)
   go_wp2_with fail
   refine hWS.mono ?_
   rintro e w6 ⟨rfl, hbd, hb6, -⟩
   have hb36 : Below w3.heap.size w3 w6 := (hbW.trans (hb45.mono (by omega))).trans hb6
   have hwb6 : Below w.heap.size w w6 := HB3.out.trans (hb36.mono HB3.out.size)
   have k4 := (HW.out _ hwb6).1
   have HB6 := Lib.hid hb36
   have HBD := Lib.hid hbd
   clear hb36 hwb6 hb6 hbd hWS hb45 hb5 hb4 hwb hbu
   go_wp2_with fail
   refine ⟨.inr ⟨rfl, ?_, HB6.out⟩, by simp [intOf]⟩
   have h := HBD.out
   rw [List.nil_append, strCells_list] at h
   exact .inr h
  ·have hwb6 : Below w.heap.size w wr := HB3.out.trans (h2.out.mono HB3.out.size)
   have HCl := Lib.hid (Clone_any ⟨#[]⟩ wr (by decide))
   clear hbu
   go_wp2_with fail
   refine HCl.out.mono ?_
   rintro e w7 ⟨rfl, hb7⟩
   have hwb7 : Below w.heap.size w w7 := hwb6.trans (hb7.mono hwb6.size)
   obtain ⟨-, k6, f6, s6, -⟩ := HW.out _ hwb7
   have HSt := Lib.hid (Tryz.Builder_String_any_f w3.heap.size w3.heap.size T w7 (isB_old h1.out (fun j hj => hb7.block j hj)) (Nat.le_trans h2.out.size hb7.size))
   have HB7 := Lib.hid hwb7
   have HB37 : Hid (Below w3.heap.size w3 w7) := h2.out.trans (hb7.mono h2.out.size)
   clear hwb6 hwb7 hb7
   go_wp2_with fail
   refine HSt.out.mono ?_
   rintro e w8 ⟨rfl, -, hb8⟩
   have HB8 : Hid (Below w.heap.size w w8) := HB3.out.trans ((HB37.out.trans hb8).mono HB3.out.size)
   clear hb8
   go_wp2_with fail
   go_ret2
   exact ⟨rfl, (HW.out _ HB8.out).2.2.2.2, Kept.of HB8.out⟩
end Go.Proofs.YtpklkhgnjbopnaaGreatDoor
namespace Go.Proofs.YtpklkhgnjbopnaaGreatDoor
open Go Go.RowKit Go.Shelf
theorem WireAt.set1 {W : World} {b : Nat} {c : Value} {l m n : Ln} (h : WireAt W b c l m n) (i : Nat) (v : Value) {k : Ln} (e : (wcells c l m n).setIfInBounds i v = wcells c l k n) : WireAt (W.setCell ⟨b, i, none⟩ v) b c l k n := by
 have h2 := hSk h v (i := i)
 rw [e] at h2
 exact h2
theorem isB_off {T e : TypeId} {B b : Nat} {bs : List Value} {w w' : World} (h : Lib.IsBuilderF T e B b bs w) (hs : ∀ j, B ≤ j → j < w.heap.size → w'.heap[j]? = w.heap[j]?) : Lib.IsBuilderF T e B b bs w' := by
 have one : ∀ p, Lib.BuilderAtF T e B b p bs w → Lib.BuilderAtF T e B b p bs w' := fun p ⟨h1, v, h2, h3, h4⟩ => by
  refine ⟨h1, v, (hs b h1 (Array.getElem?_eq_some_iff.1 h2).1).trans h2, ⟨h3.1, ?_⟩, h4⟩
  rcases h3.2 with h5 | ⟨g, cap, cur, fz, hv, hg, hh, r⟩
  ·exact .inl h5
  ·exact .inr ⟨g, cap, cur, fz, hv, hg, (hs g hg (Array.getElem?_eq_some_iff.1 hh).1).trans hh, r⟩
 exact h.imp (one _) (one _)
set_option maxRecDepth 100000 in
set_option maxHeartbeats 1000000 in
theorem close1 (b : Nat) (cv : Value) (l m n : Ln) (w : World) (h : WireAt w b cv l m n) :
  Calls Tryz.prog 41 #[.pointer (some ⟨b, 7, none⟩)] w fun e w' => e = .returned (.tuple #[]) ∧ WireAt w' b cv l lnX n ∧ Kept (· ≠ b) w w' := by
 have hK0 : Kept (· ≠ b) w w := Kept.refl
 obtain ⟨V0, hV0⟩ : ∃ V, w = V := ⟨_, rfl⟩
 have h0 : WireAt V0 b cv l m n := hV0 ▸ h
 obtain ⟨V1, hV1⟩ : ∃ V, V0.setCell ⟨b, 7, none⟩ (.int .u64 0) = V := ⟨_, rfl⟩
 have h1 : WireAt V1 b cv l ⟨0, m.role, m.till, m.known, m.closed, m.left⟩ n := by rw [← hV1]; exact h0.set1 7 _ rfl
 have hK1 : Kept (· ≠ b) w V1 := by rw [← hV1, ← hV0]; exact hK0.set (b := b) (fun _ h => h rfl) 7 _
 have c0 : V0.cell? ⟨b, 7, none⟩ = some (.int .u64 m.tnt) := cCc h0 7
 have f0 : V0.frozen? ⟨b, 7, none⟩ = false := cFz h0 7
 obtain ⟨V2, hV2⟩ : ∃ V, V1.setCell ⟨b, 8, none⟩ (.int .i64 0) = V := ⟨_, rfl⟩
 have h2 : WireAt V2 b cv l ⟨0, 0, m.till, m.known, m.closed, m.left⟩ n := by rw [← hV2]; exact h1.set1 8 _ rfl
 have hK2 : Kept (· ≠ b) w V2 := by rw [← hV2]; exact hK1.set (b := b) (fun _ h => h rfl) 8 _
 have c1 : V1.cell? ⟨b, 8, none⟩ = some (.int .i64 m.role) := cCc h1 8
 have f1 : V1.frozen? ⟨b, 8, none⟩ = false := cFz h1 8
 obtain ⟨V3, hV3⟩ : ∃ V, V2.setCell ⟨b, 9, none⟩ (.int .u64 0) = V := ⟨_, rfl⟩
 have h3 : WireAt V3 b cv l ⟨0, 0, 0, m.known, m.closed, m.left⟩ n := by rw [← hV3]; exact h2.set1 9 _ rfl
 have hK3 : Kept (· ≠ b) w V3 := by rw [← hV3]; exact hK2.set (b := b) (fun _ h => h rfl) 9 _
 have c2 : V2.cell? ⟨b, 9, none⟩ = some (.int .u64 m.till) := cCc h2 9
 have f2 : V2.frozen? ⟨b, 9, none⟩ = false := cFz h2 9
 obtain ⟨V4, hV4⟩ : ∃ V, V3.setCell ⟨b, 10, none⟩ (.bool false) = V := ⟨_, rfl⟩
 have h4 : WireAt V4 b cv l ⟨0, 0, 0, false, m.closed, m.left⟩ n := by rw [← hV4]; exact h3.set1 10 _ rfl
 have hK4 : Kept (· ≠ b) w V4 := by rw [← hV4]; exact hK3.set (b := b) (fun _ h => h rfl) 10 _
 have c3 : V3.cell? ⟨b, 10, none⟩ = some (.bool m.known) := cCc h3 10
 have f3 : V3.frozen? ⟨b, 10, none⟩ = false := cFz h3 10
 obtain ⟨V5, hV5⟩ : ∃ V, V4.setCell ⟨b, 11, none⟩ (.bool true) = V := ⟨_, rfl⟩
 have h5 : WireAt V5 b cv l ⟨0, 0, 0, false, true, m.left⟩ n := by rw [← hV5]; exact h4.set1 11 _ rfl
 have hK5 : Kept (· ≠ b) w V5 := by rw [← hV5]; exact hK4.set (b := b) (fun _ h => h rfl) 11 _
 have c4 : V4.cell? ⟨b, 11, none⟩ = some (.bool m.closed) := cCc h4 11
 have f4 : V4.frozen? ⟨b, 11, none⟩ = false := cFz h4 11
 obtain ⟨V6, hV6⟩ : ∃ V, V5.setCell ⟨b, 12, none⟩ (.string ⟨#[]⟩) = V := ⟨_, rfl⟩
 have h6 : WireAt V6 b cv l ⟨0, 0, 0, false, true, ⟨#[]⟩⟩ n := by rw [← hV6]; exact h5.set1 12 _ rfl
 have hK6 : Kept (· ≠ b) w V6 := by rw [← hV6]; exact hK5.set (b := b) (fun _ h => h rfl) 12 _
 have c5 : V5.cell? ⟨b, 12, none⟩ = some (.string m.left) := cCc h5 12
 have f5 : V5.frozen? ⟨b, 12, none⟩ = false := cFz h5 12
 have HK := Lib.hid (And.intro h6 hK6)
 clear h h0 h1 h2 h3 h4 h5 h6 hK0 hK1 hK2 hK3 hK4 hK5 hK6
 subst hV0
 go_enter Tryz.func41, Tryz.ntmps41
 go_wp2_with fail
 go_end0
 exact ⟨rfl, HK.out⟩
set_option maxRecDepth 100000 in
set_option maxHeartbeats 2000000 in
theorem Feed_bad1 (b : Nat) (cv : Value) (l m n : Ln) (s r : ByteArray) (no : Int) (fm ff : Addr) (w : World) (hz : s.size < 4294967281) (hrz : r.size ≤ 281474976710656) (hE : GF fm ff w) (hT : Fr.GT w) (hF : Frames s.data.toList [] r.data.toList no) (hno : no ≠ 20) (h : WireAt w b cv l m n) (hc : m.closed = false) (hl : m.left = ⟨#[]⟩) :
  Calls Tryz.prog 8 #[.pointer (some ⟨b, 0, none⟩), .int .i64 1, .string s] w fun e w' => e = .returned (.tuple #[.string ⟨(mkF (Ry.B ⟨200, 0, [], []⟩)).toArray⟩, .int .i64 0]) ∧ WireAt w' b cv l lnX n ∧ Kept (· ≠ b) w w' := by
 obtain ⟨-, -, -, -, c4, c5⟩ := h.at1
 rw [hc] at c4
 rw [hl] at c5
 have HN := Lib.hid fun V => wnone_some ⟨b, 0, none⟩ V
 have HI := Lib.hid fun V => isConn_any 1 V
 have hcat : (⟨#[]⟩ : ByteArray) ++ s = s := by apply ByteArray.ext; rw [ByteArray.data_append]; simp
 have hA := All_known s _ _ _ fm ff w hz hE hT hF
 rw [show (⟨r.data.toList.toArray⟩ : ByteArray) = r from rfl] at hA
 have HA := Lib.hid hA
 have HW := Lib.hid fun (V : World) (hV : Below w.heap.size w V) => h.go hV
 have HFr := Lib.hid fun V => framed_known 200 V (by omega) (by omega)
 have hTz : (⟨(mkF (Ry.B ⟨200, 0, [], []⟩)).toArray⟩ : ByteArray).size = 10 := by decide
 obtain ⟨T, hT0⟩ : ∃ T, (mkF (Ry.B ⟨200, 0, [], []⟩)) = T := ⟨_, rfl⟩
 rw [hT0] at HFr hTz ⊢
 have hne : (no == 20) = false := beq_eq_false_iff_ne.2 hno
 have HC := Lib.hid fun V => Clone_any r V hrz
 have HL := Lib.hid fun V (hV : Below w.heap.size w V) => (h.go hV)
 clear hE hT hF h hc hl hA hT0
 go_enter Tryz.func8, Tryz.ntmps8
 go_wp2_with fail
 refine (HN.out _).mono ?_
 rintro e w1 ⟨rfl, hw⟩
 have hw := hw.symm
 subst hw
 go_wp2_with fail
 refine (HI.out _).mono ?_
 rintro e w2 ⟨rfl, hw⟩
 have hw := hw.symm
 subst hw
 go_wp2_with fail
 refine HA.out.mono ?_
 rintro e w3 ⟨a, cap, rfl, -, hb⟩
 obtain ⟨W, hW, hX, hB, hs1⟩ := boxes1 w3 #[.pointer none, .slice none 0 0] 86
 have hbu : Lib.IsBuilderF 86 5 w3.heap.size w3.heap.size [] W := by rw [← hW]; exact Lib.IsBuilderF.of (Lib.fresh_isBuilder _ _ w3)
 have HB3 := Lib.hid hb
 have HBW : Hid (Below w3.heap.size w3 W) := hB
 have HBu := Lib.hid hbu
 clear hb hX hB HA hbu
 go_wp2_with fail
 go_loopw [42] (fun i wr => i = .int .i64 0 ∧ wr = W) (fun i _ => 0)
 case atStart => exact ⟨rfl, rfl⟩
 case round =>
  obtain ⟨rfl, rfl⟩ := hrel
  go_wp2_with fail
  refine (HC.out _).mono ?_
  rintro e w7 ⟨rfl, hb7⟩
  have hwr : Below w.heap.size w wr := HB3.out.trans (HBW.out.mono HB3.out.size)
  have hw7 : Below w.heap.size w w7 := hwr.trans (hb7.mono hwr.size)
  have hW7 := HL.out _ hw7
  have hbl := (Array.getElem?_eq_some_iff.1 (HL.out _ (Below.refl _ _))).1
  have hb3 := HB3.out.size
  obtain ⟨V, hV⟩ : ∃ V, w7.setCell ⟨b, 12, none⟩ (.string r) = V := ⟨_, rfl⟩
  have hWV : WireAt V b cv l { m with left := r } n := by rw [← hV]; exact hW7.set1 12 _ rfl
  have hKV : Kept (· ≠ b) w7 V := by rw [← hV]; exact Kept.refl.set (b := b) (fun _ h => h rfl) 12 _
  have c12 : w7.cell? ⟨b, 12, none⟩ = some (.string m.left) := cCc hW7 12
  have f12 : w7.frozen? ⟨b, 12, none⟩ = false := cFz hW7 12
  have HCl := Lib.hid (close1 b cv l _ n V hWV)
  have HKV := Lib.hid hKV
  have HS7 : Hid (Below w.heap.size w w7 ∧ Below w3.heap.size w3 w7 ∧ Below wr.heap.size wr w7 ∧ b < w.heap.size ∧ w.heap.size ≤ w3.heap.size ∧ w3.heap.size ≤ wr.heap.size) := ⟨hw7, HBW.out.trans (hb7.mono HBW.out.size), hb7, hbl, hb3, HBW.out.size⟩
  clear hwr hw7 hW7 hbl hb3 hWV hKV hb7
  go_wp2_with fail
  refine HCl.out.mono ?_
  rintro e w8 ⟨rfl, hWX, hK8⟩
  have HWX := Lib.hid hWX
  have HK8 : Hid (Kept (· ≠ b) w7 w8) := HKV.out.trans hK8
  clear hWX hK8
  go_wp2_with fail
  refine (HFr.out _).mono ?_
  rintro e w9 ⟨rfl, hb9⟩
  obtain ⟨s1, s2, s3, s4, s5, s6⟩ := HS7.out
  have hK9 : Kept (· ≠ b) w7 w9 := HK8.out.trans (.of hb9)
  have hbu9 : Lib.IsBuilderF 86 5 w3.heap.size w3.heap.size [] w9 := isB_off (isB_old HBu.out (fun j hj => s3.block j hj)) (fun j h1 h2 => hK9.block j h2 (by omega))
  have hWS := WriteString_any w3.heap.size w3.heap.size [] ⟨T.toArray⟩ w9 hbu9 (by rw [hTz]; decide) (by have := hK9.size; have := s3.size; omega)
  have HW9 : Hid (WireAt w9 b cv l lnX n) := HWX.out.go hb9
  have HK9 := Lib.hid hK9
  have HWS := Lib.hid hWS
  clear hWS hbu9 hK9 hb9 s1 s2 s3 s4 s5 s6
  go_wp2_with fail
  refine HWS.out.mono ?_
  rintro e w10 ⟨rfl, hbd, hb10, -⟩
  obtain ⟨s1, s2, s3, s4, s5, s6⟩ := HS7.out
  have h9s : w3.heap.size ≤ w9.heap.size := by have := HK9.out.size; have := s3.size; omega
  have hbd' : Lib.IsBuilderF 86 5 w3.heap.size w3.heap.size (Lib.byteCells T) w10 := by
   rw [List.nil_append, strCells_list] at hbd
   exact .inr hbd
  have HSt := Lib.hid (Tryz.Builder_String_any_f w3.heap.size w3.heap.size T w10 hbd' (by have := hb10.size; omega))
  have HW10 : Hid (WireAt w10 b cv l lnX n) := (hb10.block b (by omega)).trans HW9.out
  have HK10 : Hid (Kept (· ≠ b) w w10) := ⟨hb10.os.trans (HK9.out.os.trans s1.os), hb10.tape.trans (HK9.out.tape.trans s1.tape), hb10.output.trans (HK9.out.output.trans s1.output), Nat.le_trans s1.size (Nat.le_trans HK9.out.size hb10.size), fun k hk hq => (hb10.block k (by omega)).trans ((HK9.out.block k (by have := s1.size; omega) hq).trans (s1.block k hk))⟩
  have HSZ : Hid (b < w3.heap.size ∧ w.heap.size ≤ w3.heap.size) := ⟨by omega, s5⟩
  clear hbd hbd' hb10 s1 s2 s3 s4 s5 s6 h9s
  go_wp2_with fail
  refine HSt.out.mono ?_
  rintro e w11 ⟨rfl, -, hb11⟩
  have HF : Hid (WireAt w11 b cv l lnX n ∧ Kept (· ≠ b) w w11) := by
   obtain ⟨z1, z2⟩ := HSZ.out
   exact ⟨(hb11.block b z1).trans HW10.out, ⟨hb11.os.trans HK10.out.os, hb11.tape.trans HK10.out.tape, hb11.output.trans HK10.out.output, Nat.le_trans HK10.out.size hb11.size, fun k hk hq => (hb11.block k (by omega)).trans (HK10.out.block k hk hq)⟩⟩
  clear hb11
  go_wp2_with fail
  go_ret2
  exact ⟨rfl, HF.out⟩
end Go.Proofs.YtpklkhgnjbopnaaGreatDoor
namespace Go.Proofs.YtpklkhgnjbopnaaGreatDoor
open Go Go.RowKit Go.Shelf
theorem tnNew_ok (id bud life A B : Int) (w : World) (hb1 : 0 ≤ bud) (hb2 : bud ≤ 1000000) :
  Calls Tryz.prog 44 #[.agg #[.int .u64 id, .int .i64 bud, .int .u64 life], .agg #[.int .u64 A, .int .u64 B]] w fun e w' => ∃ b, e = .returned (.tuple #[.pointer (some ⟨b, 0, none⟩), .int .i64 0]) ∧ Below w.heap.size w w' := by
 obtain ⟨W0, hW0, hX0, hX1, hB0, hs0⟩ := boxes2 w #[.int .u64 id, .int .i64 bud, .int .u64 life] 41 #[.int .u64 A, .int .u64 B] 24
 obtain ⟨c0, c1, c2⟩ := cl3 hX0
 obtain ⟨k0, k1⟩ := cl2 hX1
 have h1 : decide (bud < 0) = false := decide_eq_false (by omega)
 have h2 : decide (1000000 < bud) = false := decide_eq_false (by omega)
 have HG := Lib.hid (fun W => grant_New_any W)
 obtain ⟨W1, hW1, hX2, hB1, hs1⟩ := boxes1 W0 #[.slice none 0 0, .int .u64 0, .slice none 0 0, .int .u64 0, .slice none 0 0, .int .u64 0, .int .u64 id, .int .i64 bud, .int .u64 life, .int .u64 A, .int .u64 B] 172
 have hB01 : Below w.heap.size w W1 := hB0.trans (hB1.mono hB0.size)
 have hs2 : W0.heap.size = w.heap.size + 2 := by omega
 rw [hs2] at hX2
 have HF : Hid (∀ w2, Below W1.heap.size W1 w2 → w2.cell? ⟨w.heap.size + 2, 1, none⟩ = some (.int .u64 0) ∧ w2.cell? ⟨w.heap.size + 2, 2, none⟩ = some (.slice none 0 0) ∧ w2.frozen? ⟨w.heap.size + 2, 1, none⟩ = false ∧ w2.frozen? ⟨w.heap.size + 2, 2, none⟩ = false ∧ Hid (Below w.heap.size w ((w2.setCell ⟨w.heap.size + 2, 1, none⟩ (.int .u64 1)).setCell ⟨w.heap.size + 2, 2, none⟩ (.slice none 0 0)))) := fun w2 hb => by
  have hx := known hb (Nat.le_refl _) hX2
  exact ⟨cCc hx 1, cCc hx 2, cFz hx 1, cFz hx 2, ((hB01.trans (hb.mono hB01.size)).setCell (p := ⟨w.heap.size + 2, 1, none⟩) (by show w.heap.size ≤ w.heap.size + 2; omega) _).setCell (p := ⟨w.heap.size + 2, 2, none⟩) (by show w.heap.size ≤ w.heap.size + 2; omega) _⟩
 have hn1 : ¬ bud < 0 := by omega
 have hn2 : ¬ 1000000 < bud := by omega
 clear hX0 hX1 hX2 hB0 hB1 hB01 hb1 hb2 hs1
 go_enter Tryz.func44, Tryz.ntmps44
 go_wp2_with
  (go_at_call 81
   refine (HG.out _).mono ?_
   rintro e w2 ⟨rfl, hb⟩
   obtain ⟨p1, p2, p3, p4, HQ⟩ := HF.out w2 hb
   clear hb)
 exact bodyPost_ret (v := .tuple #[.pointer (some ⟨w.heap.size + 2, 0, none⟩), .int .i64 0]) (by simp [results, Tryz.results44, go_sem]) rfl ⟨_, rfl, HQ.out⟩
def tenantS : ByteArray := ⟨#[116, 101, 110, 97, 110, 116]⟩
def nul0 : ByteArray := ⟨#[0]⟩
def one1 : ByteArray := ⟨#[1]⟩
def childK (A B : Int) (s : ByteArray) : Int × Int := (sipS A B (nul0 ++ s), sipS A B (one1 ++ s))
set_option maxRecDepth 100000 in
set_option maxHeartbeats 2000000 in
theorem Child_any (A B : Int) (s : ByteArray) (w : World) (hs : s.size < 4294967280) : CR 82 #[.agg #[.int .u64 A, .int .u64 B], .string s] w (.agg #[.int .u64 (childK A B s).1, .int .u64 (childK A B s).2]) := by
 have z0 : (nul0 ++ s).size < 4294967281 := by rw [ByteArray.size_append]; show 1 + s.size < _; omega
 have z1 : (one1 ++ s).size < 4294967281 := by rw [ByteArray.size_append]; show 1 + s.size < _; omega
 have hl : ¬ 9223372036854775807 < 1 + s.size := by omega
 unfold childK
 dsimp only
 obtain ⟨S0, hS0⟩ : ∃ S, sipS A B (nul0 ++ s) = S := ⟨_, rfl⟩
 obtain ⟨S1, hS1⟩ : ∃ S, sipS A B (one1 ++ s) = S := ⟨_, rfl⟩
 have HS0 : Hid (∀ W, CR 110 #[.agg #[.int .u64 A, .int .u64 B], .string (⟨#[0]⟩ ++ s)] W (.int .u64 S0)) := fun W => by rw [← hS0]; exact sip_Sum_any A B (nul0 ++ s) W z0
 have HS1 : Hid (∀ W, CR 110 #[.agg #[.int .u64 A, .int .u64 B], .string (⟨#[1]⟩ ++ s)] W (.int .u64 S1)) := fun W => by rw [← hS1]; exact sip_Sum_any A B (one1 ++ s) W z1
 rw [hS0, hS1]
 obtain ⟨W, hW, hX0, hX1, hB0, hs0⟩ := boxes2 w #[.int .u64 A, .int .u64 B] 24 #[.int .u64 0, .int .u64 0] 24
 obtain ⟨D, hD⟩ : ∃ D, W.drew = D := ⟨_, rfl⟩
 have hBD : Below w.heap.size w D := by rw [← hD]; exact hB0.drew
 have hXD0 : D.heap[w.heap.size]? = some (.cells #[.int .u64 A, .int .u64 B] 24 (0, 0)) := by rw [← hD]; exact hX0
 have hXD1 : D.heap[w.heap.size + 1]? = some (.cells #[.int .u64 0, .int .u64 0] 24 (0, 0)) := by rw [← hD]; exact hX1
 obtain ⟨d0, d1⟩ := cl2 hXD0
 have HF : Hid (∀ V, Below D.heap.size D V → V.cell? ⟨w.heap.size, 0, none⟩ = some (.int .u64 A) ∧ V.cell? ⟨w.heap.size, 1, none⟩ = some (.int .u64 B) ∧
   (V.cell? ⟨w.heap.size + 1, 0, none⟩ = some (.int .u64 0) ∧ V.frozen? ⟨w.heap.size + 1, 0, none⟩ = false) ∧
   ((V.setCell ⟨w.heap.size + 1, 0, none⟩ (.int .u64 S0)).cell? ⟨w.heap.size + 1, 1, none⟩ = some (.int .u64 0)) ∧ (V.setCell ⟨w.heap.size + 1, 0, none⟩ (.int .u64 S0)).frozen? ⟨w.heap.size + 1, 1, none⟩ = false ∧ True ∧
   ((V.setCell ⟨w.heap.size + 1, 0, none⟩ (.int .u64 S0)).setCell ⟨w.heap.size + 1, 1, none⟩ (.int .u64 S1)).cell? ⟨w.heap.size + 1, 0, none⟩ = some (.int .u64 S0) ∧ ((V.setCell ⟨w.heap.size + 1, 0, none⟩ (.int .u64 S0)).setCell ⟨w.heap.size + 1, 1, none⟩ (.int .u64 S1)).cell? ⟨w.heap.size + 1, 1, none⟩ = some (.int .u64 S1) ∧
   Hid (Below w.heap.size w ((V.setCell ⟨w.heap.size + 1, 0, none⟩ (.int .u64 S0)).setCell ⟨w.heap.size + 1, 1, none⟩ (.int .u64 S1)))) := fun V hV => by
  have y0 := known hV (Nat.le_refl _) hXD0
  have y1 := known hV (Nat.le_refl _) hXD1
  have y2 := hSk y1 (i := 0) (.int .u64 S0)
  have y3 := hSk y2 (i := 1) (.int .u64 S1)
  exact ⟨cCc y0 0, cCc y0 1, ⟨cCc y1 0, cFz y1 0⟩, cCc y2 1, cFz y2 1, trivial, cCc y3 0, cCc y3 1, ((hBD.trans (hV.mono hBD.size)).setCell (p := ⟨w.heap.size + 1, 0, none⟩) (Nat.le_succ _) _).setCell (p := ⟨w.heap.size + 1, 1, none⟩) (Nat.le_succ _) _⟩
 have HD := Lib.hid hD
 clear hX0 hX1 hB0 hD hBD hXD0 hXD1 hS0 hS1 z0 z1 hs
 go_enter Tryz.func82, Tryz.ntmps82
 go_wp2_with fail
 refine wp_region_any (by kernel_rfl) ?_
 change wpAny _ _ _ _ _ _ _ (World.drew _)
 rw [HD.out]
 refine tk 1 (v := ?_) rfl ?_ ?_
 rotate_left
 ·intro w; go_simp; with_reducible rfl
 refine tk 2 (v := ?_) rfl ?_ ?_
 rotate_left
 ·intro w; go_simp; with_reducible rfl
 refine tk 5 (v := ?_) rfl ?_ ?_
 rotate_left
 ·intro w; go_simp; with_reducible rfl
 refine tk 6 (v := ?_) rfl ?_ ?_
 rotate_left
 ·intro w; go_simp; with_reducible rfl
 refine wpAny_ready (rs := [0, 4]) (by kernel_rfl) (by simp) ?_
 refine AllReady.cons rfl (fun K hK => ?_) ?_
 ·go_simp
  refine hK _ _ ?_
  clear hK K
  refine wpAny_ready (rs := [3, 4]) (by kernel_rfl) (by simp) ?_
  refine AllReady.cons rfl (fun K hK => ?_) ?_
  ·go_simp
   refine (HS0.out _).mono ?_
   rintro e x1 ⟨rfl, hb⟩
   obtain ⟨a0, a1, -⟩ := HF.out x1 hb
   have HX1 := Lib.hid hb
   clear hb
   refine hK _ _ ?_
   clear hK K
   refine wpAny_ready (rs := [4]) (by kernel_rfl) (by simp) ?_
   refine AllReady.cons rfl (fun K hK => ?_) ?_
   ·go_simp
    refine hK _ _ ?_
    clear hK K
    refine wpAny_ready (rs := [7]) (by kernel_rfl) (by simp) ?_
    refine AllReady.cons rfl (fun K hK => ?_) ?_
    ·go_simp
     refine (HS1.out _).mono ?_
     rintro e x2 ⟨rfl, hb⟩
     obtain ⟨-, -, ⟨r0, r1⟩, r2, r3, -, r4, r5, HE⟩ := HF.out x2 (HX1.out.trans (hb.mono HX1.out.size))
     clear hb
     refine hK _ _ ?_
     clear hK K
     refine tk 8 (v := ?_) rfl ?_ ?_
     rotate_left
     ·intro w; go_simp; with_reducible rfl
     refine wpAny_ready (rs := [9]) (by kernel_rfl) (by simp) ?_
     refine AllReady.cons rfl (fun K hK => ?_) ?_
     ·go_simp
      refine hK _ _ ?_
      clear hK K
      refine wpAny_done (by kernel_rfl) ?_ _
      go_wp2_with fail
      exact bodyPost_ret (v := .agg #[.int .u64 S0, .int .u64 S1]) (by simp [results, Tryz.results82, go_sem, r4, r5]) rfl ⟨rfl, HE.out⟩
     exact AllReady.nil
    exact AllReady.nil
   exact AllReady.nil
  refine AllReady.cons rfl (fun K hK => ?_) ?_
  ·go_simp
   refine hK _ _ ?_
   clear hK K
   refine wpAny_ready (rs := [3]) (by kernel_rfl) (by simp) ?_
   refine AllReady.cons rfl (fun K hK => ?_) ?_
   ·go_simp
    refine (HS0.out _).mono ?_
    rintro e x1 ⟨rfl, hb⟩
    obtain ⟨a0, a1, -⟩ := HF.out x1 hb
    have HX1 := Lib.hid hb
    clear hb
    refine hK _ _ ?_
    clear hK K
    refine wpAny_ready (rs := [7]) (by kernel_rfl) (by simp) ?_
    refine AllReady.cons rfl (fun K hK => ?_) ?_
    ·go_simp
     refine (HS1.out _).mono ?_
     rintro e x2 ⟨rfl, hb⟩
     obtain ⟨-, -, ⟨r0, r1⟩, r2, r3, -, r4, r5, HE⟩ := HF.out x2 (HX1.out.trans (hb.mono HX1.out.size))
     clear hb
     refine hK _ _ ?_
     clear hK K
     refine tk 8 (v := ?_) rfl ?_ ?_
     rotate_left
     ·intro w; go_simp; with_reducible rfl
     refine wpAny_ready (rs := [9]) (by kernel_rfl) (by simp) ?_
     refine AllReady.cons rfl (fun K hK => ?_) ?_
     ·go_simp
      refine hK _ _ ?_
      clear hK K
      refine wpAny_done (by kernel_rfl) ?_ _
      go_wp2_with fail
      exact bodyPost_ret (v := .agg #[.int .u64 S0, .int .u64 S1]) (by simp [results, Tryz.results82, go_sem, r4, r5]) rfl ⟨rfl, HE.out⟩
     exact AllReady.nil
    exact AllReady.nil
   exact AllReady.nil
  exact AllReady.nil
 refine AllReady.cons rfl (fun K hK => ?_) ?_
 ·go_simp
  refine hK _ _ ?_
  clear hK K
  refine wpAny_ready (rs := [0]) (by kernel_rfl) (by simp) ?_
  refine AllReady.cons rfl (fun K hK => ?_) ?_
  ·go_simp
   refine hK _ _ ?_
   clear hK K
   refine wpAny_ready (rs := [3]) (by kernel_rfl) (by simp) ?_
   refine AllReady.cons rfl (fun K hK => ?_) ?_
   ·go_simp
    refine (HS0.out _).mono ?_
    rintro e x1 ⟨rfl, hb⟩
    obtain ⟨a0, a1, -⟩ := HF.out x1 hb
    have HX1 := Lib.hid hb
    clear hb
    refine hK _ _ ?_
    clear hK K
    refine wpAny_ready (rs := [7]) (by kernel_rfl) (by simp) ?_
    refine AllReady.cons rfl (fun K hK => ?_) ?_
    ·go_simp
     refine (HS1.out _).mono ?_
     rintro e x2 ⟨rfl, hb⟩
     obtain ⟨-, -, ⟨r0, r1⟩, r2, r3, -, r4, r5, HE⟩ := HF.out x2 (HX1.out.trans (hb.mono HX1.out.size))
     clear hb
     refine hK _ _ ?_
     clear hK K
     refine tk 8 (v := ?_) rfl ?_ ?_
     rotate_left
     ·intro w; go_simp; with_reducible rfl
     refine wpAny_ready (rs := [9]) (by kernel_rfl) (by simp) ?_
     refine AllReady.cons rfl (fun K hK => ?_) ?_
     ·go_simp
      refine hK _ _ ?_
      clear hK K
      refine wpAny_done (by kernel_rfl) ?_ _
      go_wp2_with fail
      exact bodyPost_ret (v := .agg #[.int .u64 S0, .int .u64 S1]) (by simp [results, Tryz.results82, go_sem, r4, r5]) rfl ⟨rfl, HE.out⟩
     exact AllReady.nil
    exact AllReady.nil
   exact AllReady.nil
  exact AllReady.nil
 exact AllReady.nil
end Go.Proofs.YtpklkhgnjbopnaaGreatDoor
namespace Go.Proofs.YtpklkhgnjbopnaaGreatDoor
open Go Go.RowKit Go.Shelf
theorem index_none (n : Int) (w : World) : Calls Tryz.prog 80 #[.slice none 0 0, .int .u64 n] w fun e w' => e = .returned (.int .i64 (-1)) ∧ w' = w := by
 go_enter Tryz.func80, Tryz.ntmps80
 go_wp2_with fail
 go_loopw [8] (fun i wr => i = .int .i64 0 ∧ wr = w) (fun _ _ => 0)
 case atStart => exact ⟨rfl, rfl⟩
 case round =>
  obtain ⟨rfl, rfl⟩ := hrel
  go_wp2_with fail
  go_ret
  exact ⟨rfl, rfl⟩
theorem find_none (b : Nat) (n : Int) (w : World) (h : w.cell? ⟨b, 2, none⟩ = some (.slice none 0 0)) : Calls Tryz.prog 43 #[.pointer (some ⟨b, 0, none⟩), .int .u64 n] w fun e w' => e = .returned (.pointer none) ∧ w' = w := by
 have HI := Lib.hid fun V => index_none n V
 go_enter Tryz.func43, Tryz.ntmps43
 go_wp2_with fail
 refine (HI.out _).mono ?_
 rintro e w1 ⟨rfl, hw⟩
 have hw := hw.symm
 subst hw
 go_wp2_with fail
 go_ret
 exact ⟨rfl, rfl⟩
def keyC (A B id : Int) : Int × Int := childK A B (tenantS ++ strOfNums (putNums id))
set_option maxRecDepth 100000 in
set_option maxHeartbeats 2000000 in
theorem Key_any (A B id : Int) (w : World) (hu : U64 id) : CR 45 #[.agg #[.int .u64 A, .int .u64 B], .int .u64 id] w (.agg #[.int .u64 (keyC A B id).1, .int .u64 (keyC A B id).2]) := by
 unfold keyC
 obtain ⟨p, hp⟩ : ∃ p, strOfNums (putNums id) = p := ⟨_, rfl⟩
 have hpz : p.size ≤ 9 := by rw [← hp, strOfNums_size]; have := numsB_one_len id; rw [numsB_one, List.length_map] at this; exact this.2
 have HP : Hid (∀ W, CR 50 #[.int .u64 id] W (.string p)) := fun W => by rw [← hp]; exact field_Put_any id W hu
 have hl : ¬ 9223372036854775807 < 6 + p.size := by omega
 have hz : (tenantS ++ p).size < 4294967280 := by rw [ByteArray.size_append]; show 6 + p.size < _; omega
 rw [hp]
 obtain ⟨⟨S0, S1⟩, hS⟩ : ∃ S, childK A B (tenantS ++ p) = S := ⟨_, rfl⟩
 have HC : Hid (∀ W, CR 82 #[.agg #[.int .u64 A, .int .u64 B], .string (⟨#[116, 101, 110, 97, 110, 116]⟩ ++ p)] W (.agg #[.int .u64 S0, .int .u64 S1])) := fun W => by
  have h := Child_any A B (tenantS ++ p) W hz
  rw [hS] at h
  exact h
 rw [hS]
 obtain ⟨W, hW, hX0, hX1, hB0, hs0⟩ := boxes2 w #[.int .u64 A, .int .u64 B] 24 #[.int .u64 0, .int .u64 0] 24
 obtain ⟨D, hD⟩ : ∃ D, W.drew = D := ⟨_, rfl⟩
 have hBD : Below w.heap.size w D := by rw [← hD]; exact hB0.drew
 have hXD0 : D.heap[w.heap.size]? = some (.cells #[.int .u64 A, .int .u64 B] 24 (0, 0)) := by rw [← hD]; exact hX0
 have hXD1 : D.heap[w.heap.size + 1]? = some (.cells #[.int .u64 0, .int .u64 0] 24 (0, 0)) := by rw [← hD]; exact hX1
 obtain ⟨d0, d1⟩ := cl2 hXD0
 have HF : Hid (∀ V, Below D.heap.size D V → V.cell? ⟨w.heap.size, 0, none⟩ = some (.int .u64 A) ∧ V.cell? ⟨w.heap.size, 1, none⟩ = some (.int .u64 B) ∧
   (V.cell? ⟨w.heap.size + 1, 0, none⟩ = some (.int .u64 0) ∧ V.frozen? ⟨w.heap.size + 1, 0, none⟩ = false) ∧
   ((V.setCell ⟨w.heap.size + 1, 0, none⟩ (.int .u64 S0)).cell? ⟨w.heap.size + 1, 1, none⟩ = some (.int .u64 0)) ∧ (V.setCell ⟨w.heap.size + 1, 0, none⟩ (.int .u64 S0)).frozen? ⟨w.heap.size + 1, 1, none⟩ = false ∧
   ((V.setCell ⟨w.heap.size + 1, 0, none⟩ (.int .u64 S0)).setCell ⟨w.heap.size + 1, 1, none⟩ (.int .u64 S1)).cell? ⟨w.heap.size + 1, 0, none⟩ = some (.int .u64 S0) ∧ ((V.setCell ⟨w.heap.size + 1, 0, none⟩ (.int .u64 S0)).setCell ⟨w.heap.size + 1, 1, none⟩ (.int .u64 S1)).cell? ⟨w.heap.size + 1, 1, none⟩ = some (.int .u64 S1) ∧
   Hid (Below w.heap.size w ((V.setCell ⟨w.heap.size + 1, 0, none⟩ (.int .u64 S0)).setCell ⟨w.heap.size + 1, 1, none⟩ (.int .u64 S1)))) := fun V hV => by
  have y0 := known hV (Nat.le_refl _) hXD0
  have y1 := known hV (Nat.le_refl _) hXD1
  have y2 := hSk y1 (i := 0) (.int .u64 S0)
  have y3 := hSk y2 (i := 1) (.int .u64 S1)
  exact ⟨cCc y0 0, cCc y0 1, ⟨cCc y1 0, cFz y1 0⟩, cCc y2 1, cFz y2 1, cCc y3 0, cCc y3 1, ((hBD.trans (hV.mono hBD.size)).setCell (p := ⟨w.heap.size + 1, 0, none⟩) (Nat.le_succ _) _).setCell (p := ⟨w.heap.size + 1, 1, none⟩) (Nat.le_succ _) _⟩
 have HD := Lib.hid hD
 clear hX0 hX1 hB0 hD hBD hXD0 hXD1 hS hp hpz hz hu
 go_enter Tryz.func45, Tryz.ntmps45
 go_wp2_with fail
 refine wp_region_any (by kernel_rfl) ?_
 change wpAny _ _ _ _ _ _ _ (World.drew _)
 rw [HD.out]
 refine tk 1 (v := ?_) rfl ?_ ?_
 rotate_left
 ·intro w; go_simp; with_reducible rfl
 refine wpAny_ready (rs := [0, 2]) (by kernel_rfl) (by simp) ?_
 refine AllReady.cons rfl (fun K hK => ?_) ?_
 ·go_simp
  refine hK _ _ ?_
  clear hK K
  refine wpAny_ready (rs := [2]) (by kernel_rfl) (by simp) ?_
  refine AllReady.cons rfl (fun K hK => ?_) ?_
  ·go_simp
   refine (HP.out _).mono ?_
   rintro e x1 ⟨rfl, hb⟩
   obtain ⟨a0, a1, -⟩ := HF.out x1 hb
   have HX1 := Lib.hid hb
   clear hb
   refine hK _ _ ?_
   clear hK K
   refine tk 3 (v := ?_) rfl ?_ ?_
   rotate_left
   ·intro w; go_simp; with_reducible rfl
   refine wpAny_ready (rs := [4]) (by kernel_rfl) (by simp) ?_
   refine AllReady.cons rfl (fun K hK => ?_) ?_
   ·go_simp
    refine (HC.out _).mono ?_
    rintro e x2 ⟨rfl, hb⟩
    obtain ⟨-, -, ⟨r0, r1⟩, r2, r3, r4, r5, HE⟩ := HF.out x2 (HX1.out.trans (hb.mono HX1.out.size))
    clear hb
    refine hK _ _ ?_
    clear hK K
    refine wpAny_ready (rs := [5]) (by kernel_rfl) (by simp) ?_
    refine AllReady.cons rfl (fun K hK => ?_) ?_
    ·go_simp
     refine hK _ _ ?_
     clear hK K
     refine wpAny_done (by kernel_rfl) ?_ _
     go_wp2_with fail
     exact bodyPost_ret (v := .agg #[.int .u64 S0, .int .u64 S1]) (by simp [results, Tryz.results45, go_sem, r4, r5]) rfl ⟨rfl, HE.out⟩
    exact AllReady.nil
   exact AllReady.nil
  exact AllReady.nil
 refine AllReady.cons rfl (fun K hK => ?_) ?_
 ·go_simp
  refine (HP.out _).mono ?_
  rintro e x1 ⟨rfl, hb⟩
  obtain ⟨a0, a1, -⟩ := HF.out x1 hb
  have HX1 := Lib.hid hb
  clear hb
  refine hK _ _ ?_
  clear hK K
  refine tk 3 (v := ?_) rfl ?_ ?_
  rotate_left
  ·intro w; go_simp; with_reducible rfl
  refine wpAny_ready (rs := [0]) (by kernel_rfl) (by simp) ?_
  refine AllReady.cons rfl (fun K hK => ?_) ?_
  ·go_simp
   refine hK _ _ ?_
   clear hK K
   refine wpAny_ready (rs := [4]) (by kernel_rfl) (by simp) ?_
   refine AllReady.cons rfl (fun K hK => ?_) ?_
   ·go_simp
    refine (HC.out _).mono ?_
    rintro e x2 ⟨rfl, hb⟩
    obtain ⟨-, -, ⟨r0, r1⟩, r2, r3, r4, r5, HE⟩ := HF.out x2 (HX1.out.trans (hb.mono HX1.out.size))
    clear hb
    refine hK _ _ ?_
    clear hK K
    refine wpAny_ready (rs := [5]) (by kernel_rfl) (by simp) ?_
    refine AllReady.cons rfl (fun K hK => ?_) ?_
    ·go_simp
     refine hK _ _ ?_
     clear hK K
     refine wpAny_done (by kernel_rfl) ?_ _
     go_wp2_with fail
     exact bodyPost_ret (v := .agg #[.int .u64 S0, .int .u64 S1]) (by simp [results, Tryz.results45, go_sem, r4, r5]) rfl ⟨rfl, HE.out⟩
    exact AllReady.nil
   exact AllReady.nil
  exact AllReady.nil
 exact AllReady.nil
end Go.Proofs.YtpklkhgnjbopnaaGreatDoor
namespace Go.Proofs.YtpklkhgnjbopnaaGreatDoor
open Go Go.RowKit Go.Shelf
theorem und_tens : Tryz.prog.underlying 102 = some (.slice 105) := by kernel_rfl
theorem info_tens : (Tryz.prog.info? 105).map (fun i => (i.zero, i.size, i.bytes)) = some (some (.pointer none), 1, 8) := by kernel_rfl
attribute [-go_sem] Builtin.append_
set_option maxRecDepth 100000 in
set_option maxHeartbeats 4000000 in
theorem collNew_one (A B id bud life : Int) (g c : Nat) (w : World) (hu : U64 id) (hb1 : 0 ≤ bud) (hb2 : bud ≤ 1000000) (h0 : w.heap[g]? = some (.cells #[.int .u64 id, .int .i64 bud, .int .u64 life] 41 (0, 0))) :
  Calls Tryz.prog 13 #[.agg #[.int .u64 A, .int .u64 B], .slice (some ⟨g, 0, none⟩) 1 c] w fun e w' => ∃ b, e = .returned (.tuple #[.pointer (some ⟨b, 0, none⟩), .int .i64 0]) ∧ Below w.heap.size w w' := by
 have HN := Lib.hid fun X Y V => tnNew_ok id bud life X Y V hb1 hb2
 have HK := Lib.hid fun V => Key_any A B id V hu
 obtain ⟨W, hW, hX0, hX1, hB, hs⟩ := boxes2 w #[.int .u64 A, .int .u64 B] 24 #[.int .u64 A, .int .u64 B, .slice none 0 0, .slice none 0 0] 104
 have h0W := known hB (Nat.le_refl _) h0
 obtain ⟨l0, l1, l2⟩ := cl3 h0W
 obtain ⟨k0, k1⟩ := cl2 hX0
 have HX := Lib.hid (And.intro hX0 (And.intro hX1 (And.intro hB hs)))
 clear hX0 hX1 hB hs h0 h0W hu hb1 hb2
 go_enter Tryz.func13, Tryz.ntmps13
 go_wp2_with fail
 go_loopw [24] (fun i wr => (i = .int .i64 0 ∧ wr = W) ∨ (i = .int .i64 1 ∧ Hid (Below w.heap.size w wr))) (fun i _ => 1 - (intOf i).toNat)
 case atStart => exact .inl ⟨rfl, rfl⟩
 case round =>
  rcases hrel with ⟨rfl, rfl⟩ | ⟨rfl, h1⟩
  ·obtain ⟨hX0, hX1, hB, hs⟩ := HX.out
   have HZZ : Hid (w.heap.size + 1 < wr.heap.size) := by rw [Hid]; omega
   obtain ⟨V, hV, hXV, hBV, hsV⟩ := boxes1 wr #[.int .u64 id, .int .i64 bud, .int .u64 life] 41
   have hV1 := known hBV (Nat.le_refl _) hX1
   have v2 : V.cell? ⟨w.heap.size + 1, 2, none⟩ = some (.slice none 0 0) := cCc hV1 2
   obtain ⟨m0, m1, m2⟩ := cl3 hXV
   have HFd := Lib.hid (find_none (w.heap.size + 1) id V v2)
   obtain ⟨D, hD⟩ : ∃ D, V.drew = D := ⟨_, rfl⟩
   have hXD : D.heap[wr.heap.size]? = some (.cells #[.int .u64 id, .int .i64 bud, .int .u64 life] 41 (0, 0)) := by rw [← hD]; exact hXV
   have hXD0 : D.heap[w.heap.size]? = some (.cells #[.int .u64 A, .int .u64 B] 24 (0, 0)) := by rw [← hD]; exact (known hBV (Nat.le_refl _) hX0 : V.heap[w.heap.size]? = _)
   have hXD1 : D.heap[w.heap.size + 1]? = some (.cells #[.int .u64 A, .int .u64 B, .slice none 0 0, .slice none 0 0] 104 (0, 0)) := by rw [← hD]; exact hV1
   have hBD : Below w.heap.size w D := by rw [← hD]; exact (hB.trans (hBV.mono hB.size)).drew
   have HF : Hid (∀ Y, Below D.heap.size D Y → Y.cell? ⟨wr.heap.size, 0, none⟩ = some (.int .u64 id) ∧ Y.cell? ⟨wr.heap.size, 1, none⟩ = some (.int .i64 bud) ∧ Y.cell? ⟨wr.heap.size, 2, none⟩ = some (.int .u64 life) ∧ Y.cell? ⟨w.heap.size, 0, none⟩ = some (.int .u64 A) ∧ Y.cell? ⟨w.heap.size, 1, none⟩ = some (.int .u64 B)) := fun Y hY => by
    have y1 := known hY (Nat.le_refl _) hXD
    have y2 := known hY (Nat.le_refl _) hXD0
    exact ⟨cCc y1 0, cCc y1 1, cCc y1 2, cCc y2 0, cCc y2 1⟩
   have HG : Hid (∀ Y, Below D.heap.size D Y → Y.drew.heap[wr.heap.size]? = some (.cells #[.int .u64 id, .int .i64 bud, .int .u64 life] 41 (0, 0)) ∧ Y.drew.heap[w.heap.size + 1]? = some (.cells #[.int .u64 A, .int .u64 B, .slice none 0 0, .slice none 0 0] 104 (0, 0)) ∧ w.heap.size + 1 < Y.drew.heap.size ∧ Hid (Below w.heap.size w Y.drew ∧ w.heap.size ≤ Y.drew.heap.size)) := fun Y hY => by
    have y1 := known hY (Nat.le_refl _) hXD
    have y2 := known hY (Nat.le_refl _) hXD1
    have hb := (hBD.trans (hY.mono hBD.size)).drew
    exact ⟨y1, y2, (Array.getElem?_eq_some_iff.1 y2).1, hb, hb.size⟩
   obtain ⟨d0, d1, d2, d3, d4⟩ := HF.out D (Below.refl _ _)
   have HD := Lib.hid hD
   clear hX0 hX1 hB hs hXV hBV hsV hV1 hD hXD hXD0 hXD1 hBD v2
   go_wp2_with fail
   refine HFd.out.mono ?_
   rintro e w1 ⟨rfl, hw⟩
   have hw := hw.symm
   subst hw
   go_wp2_with fail
   refine wp_region_held_drew (S := fun w' => w'.cell? ⟨wr.heap.size, 0, none⟩ = some (.int .u64 id) ∧ w'.cell? ⟨wr.heap.size, 1, none⟩ = some (.int .i64 bud) ∧ w'.cell? ⟨wr.heap.size, 2, none⟩ = some (.int .u64 life) ∧ w'.cell? ⟨w.heap.size, 0, none⟩ = some (.int .u64 A) ∧ w'.cell? ⟨w.heap.size, 1, none⟩ = some (.int .u64 B)) (by kernel_rfl) (by rw [HD.out]; exact ⟨d0, d1, d2, d3, d4⟩) (fun hS => ?_)
   rw [HD.out] at hS ⊢
   refine wpAnyH_take (i := 0) (v := ?_) rfl (by kernel_rfl) (by kernel_rfl) (by kernel_rfl) (fun _ _ _ h => h) (Or.inl ⟨by rfl, ?_⟩) (by assumption) ?_
   rotate_left
   ·intro w hSw; go_split_ands; go_simp; with_reducible rfl
   refine wpAnyH_take (i := 1) (v := ?_) rfl (by kernel_rfl) (by kernel_rfl) (by kernel_rfl) (fun _ _ _ h => h) (Or.inl ⟨by rfl, ?_⟩) (by assumption) ?_
   rotate_left
   ·intro w hSw; go_split_ands; go_simp; with_reducible rfl
   refine wpAnyH_take (i := 2) (v := ?_) rfl (by kernel_rfl) (by kernel_rfl) (by kernel_rfl) (fun _ _ _ h => h) (Or.inl ⟨by rfl, ?_⟩) (by assumption) ?_
   rotate_left
   ·intro w hSw; go_simp; with_reducible rfl
   refine wpAnyH_take (i := 3) (v := ?_) rfl (by kernel_rfl) (by kernel_rfl) (by kernel_rfl) (fun _ _ _ h => h) (Or.inl ⟨by rfl, ?_⟩) (by assumption) ?_
   rotate_left
   ·intro w hSw; go_split_ands; go_simp; with_reducible rfl
   refine wpAnyH_ready (rs := [4]) (by kernel_rfl) (by simp) ?_
   refine AllReadyH.cons rfl (fun K hK => ?_) ?_
   ·go_simp
    refine (HK.out _).mono ?_
    rintro e x1 ⟨rfl, hb⟩
    have HX1 := Lib.hid hb
    clear hb
    refine hK.out _ _ ?_ (fun hS => ?_)
    ·exact HF.out _ HX1.out
    clear hK K
    refine wpAnyH_ready (rs := [5]) (by kernel_rfl) (by simp) ?_
    refine AllReadyH.cons rfl (fun K hK => ?_) ?_
    ·go_simp
     refine (HN.out _ _ _).mono ?_
     rintro e x2 ⟨tb, rfl, hb⟩
     have HX2 : Hid (Below D.heap.size D x2) := HX1.out.trans (hb.mono HX1.out.size)
     clear hb
     refine hK.out _ _ ?_ (fun hS => ?_)
     ·exact HF.out _ HX2.out
     clear hK K
     refine wpAnyH_take (i := 6) (v := ?_) rfl (by kernel_rfl) (by kernel_rfl) (by kernel_rfl) (fun _ _ _ h => h) (Or.inl ⟨by rfl, ?_⟩) (by assumption) ?_
     rotate_left
     ·intro w hSw; go_simp; with_reducible rfl
     refine wpAnyH_take (i := 7) (v := ?_) rfl (by kernel_rfl) (by kernel_rfl) (by kernel_rfl) (fun _ _ _ h => h) (Or.inl ⟨by rfl, ?_⟩) (by assumption) ?_
     rotate_left
     ·intro w hSw; go_simp; with_reducible rfl
     refine wpAnyH_take (i := 8) (v := ?_) rfl (by kernel_rfl) (by kernel_rfl) (by kernel_rfl) (fun _ _ _ h => h) (Or.inl ⟨by rfl, ?_⟩) (by assumption) ?_
     rotate_left
     ·intro w hSw; go_simp; with_reducible rfl
     refine wpAnyH_ready (rs := [9]) (by kernel_rfl) (by simp) ?_
     refine AllReadyH.cons rfl (fun K hK => ?_) ?_
     ·go_simp
      refine hK.out _ _ ?_ (fun hS => ?_)
      ·exact hS
      clear hK K
      refine wpAnyH_ready (rs := [10]) (by kernel_rfl) (by simp) ?_
      refine AllReadyH.cons rfl (fun K hK => ?_) ?_
      ·go_simp
       refine hK.out _ _ ?_ (fun hS => ?_)
       ·exact hS
       clear hK K
       refine wpAnyH_done (by kernel_rfl) ?_ _
       clear hS d0 d1 d2 d3 d4
       obtain ⟨y0, y1, y2, HT⟩ := HG.out x2 HX2.out
       obtain ⟨D2, hD2⟩ : ∃ D2, x2.drew = D2 := ⟨_, rfl⟩
       rw [hD2] at y0 y1 y2 HT
       have HD2 := Lib.hid hD2
       clear hD2
       obtain ⟨g4, cap4, w4, hap, -, hB4, hz4, hbl4, -⟩ := append_one Tryz.prog 54 und_u64 info_u64 rfl (by decide) (World.ownsRow_nil D2 D2.heap.size 22 1) (Below.refl w.heap.size D2) (HT.out.2) (Nat.le_refl _) [.int .u64 id] rfl (by simp [Value.oneCell']) (by decide) (by decide)
       simp only [Nat.zero_add] at hap
       have c2 : D2.cell? ⟨w.heap.size + 1, 2, none⟩ = some (.slice none 0 0) := cCc y1 2
       have c2' : (D2.alloc (.cells #[.int .u64 id] 22)).cell? ⟨w.heap.size + 1, 2, none⟩ = some (.slice none 0 0) := cCc ((Below.heap_alloc _ _ _ y2).trans y1) 2
       have i0 : D2.cell? ⟨wr.heap.size, 0, none⟩ = some (.int .u64 id) := cCc y0 0
       have yl := (Array.getElem?_eq_some_iff.1 y0).1
       have j0 : (D2.alloc (.cells #[.int .u64 id] 22)).cell? ⟨wr.heap.size, 0, none⟩ = some (.int .u64 id) := cCc ((Below.heap_alloc _ _ _ yl).trans y0) 0
       have z1 : w4.heap[w.heap.size + 1]? = some (.cells #[.int .u64 A, .int .u64 B, .slice none 0 0, .slice none 0 0] 104 (0, 0)) := (hbl4 _ y2).trans y1
       have z0 := (hbl4 _ yl).trans y0
       have j4 : w4.cell? ⟨wr.heap.size, 0, none⟩ = some (.int .u64 id) := cCc z0 0
       have c4 : w4.cell? ⟨w.heap.size + 1, 2, none⟩ = some (.slice none 0 0) := cCc z1 2
       have f4 : w4.frozen? ⟨w.heap.size + 1, 2, none⟩ = false := cFz z1 2
       obtain ⟨V5, hV5⟩ : ∃ V5, w4.setCell ⟨w.heap.size + 1, 2, none⟩ (.slice (some ⟨g4, 0, none⟩) 1 cap4) = V5 := ⟨_, rfl⟩
       have j5 : (w4.setCell ⟨w.heap.size + 1, 2, none⟩ (.slice (some ⟨g4, 0, none⟩) 1 cap4)).cell? ⟨wr.heap.size, 0, none⟩ = some (.int .u64 id) := cCc ((Below.heap_setCell _ _ _ _ (by have := HZZ.out; show wr.heap.size ≠ w.heap.size + 1; omega)).trans z0) 0
       have z2 : V5.heap[w.heap.size + 1]? = some (.cells #[.int .u64 A, .int .u64 B, .slice (some ⟨g4, 0, none⟩) 1 cap4, .slice none 0 0] 104 (0, 0)) := by rw [← hV5]; exact hSk z1 _
       have hB5 : Below w.heap.size D2 V5 := by rw [← hV5]; exact hB4.setCell (p := ⟨w.heap.size + 1, 2, none⟩) (Nat.le_succ _) _
       have c5 : V5.cell? ⟨w.heap.size + 1, 3, none⟩ = some (.slice none 0 0) := cCc z2 3
       have h5z : w.heap.size + 1 < V5.heap.size := (Array.getElem?_eq_some_iff.1 z2).1
       obtain ⟨g6, cap6, w6, hap6, -, hB6, hz6, hbl6, -⟩ := append_one Tryz.prog 102 und_tens info_tens rfl (by decide) (World.ownsRow_nil V5 V5.heap.size 105 1) (Below.refl w.heap.size V5) (Nat.le_of_lt (Nat.lt_of_succ_lt h5z)) (Nat.le_refl _) [.pointer (some ⟨tb, 0, none⟩)] rfl (by simp [Value.oneCell']) (by decide) (by decide)
       simp only [Nat.zero_add] at hap6
       have z3 : w6.heap[w.heap.size + 1]? = some (.cells #[.int .u64 A, .int .u64 B, .slice (some ⟨g4, 0, none⟩) 1 cap4, .slice none 0 0] 104 (0, 0)) := (hbl6 _ h5z).trans z2
       have c6 : w6.cell? ⟨w.heap.size + 1, 3, none⟩ = some (.slice none 0 0) := cCc z3 3
       have f6 : w6.frozen? ⟨w.heap.size + 1, 3, none⟩ = false := cFz z3 3
       have HE : Hid (Below w.heap.size w (w6.setCell ⟨w.heap.size + 1, 3, none⟩ (.slice (some ⟨g6, 0, none⟩) 1 cap6))) := (HT.out.1.trans (hB5.trans hB6)).setCell (p := ⟨w.heap.size + 1, 3, none⟩) (Nat.le_succ _) _
       have HV5 := Lib.hid hV5
       clear y0 y1 y2 HT hB4 hz4 hbl4 z0 z1 z2 hB5 h5z hB6 hz6 hbl6 z3 hV5 yl
       go_wp2_with fail
       refine wp_region_held_drew (S := fun w' => w'.cell? ⟨wr.heap.size, 0, none⟩ = some (.int .u64 id)) (by kernel_rfl) (by rw [HD2.out]; exact i0) (fun hS => ?_)
       rw [HD2.out] at hS ⊢
       refine wpAnyH_take (i := 0) (v := ?_) rfl (by kernel_rfl) (by kernel_rfl) (by kernel_rfl) (fun _ _ _ h => h) (Or.inl ⟨by rfl, ?_⟩) (by assumption) ?_
       rotate_left
       ·intro w hSw; go_simp; with_reducible rfl
       refine wpAnyH_take (i := 1) (v := ?_) rfl (by kernel_rfl) (by kernel_rfl) (by kernel_rfl) (fun _ _ _ h => h) (Or.inl ⟨by rfl, ?_⟩) (by assumption) ?_
       rotate_left
       ·intro w hSw; go_simp; with_reducible rfl
       refine wpAnyH_take (i := 2) (v := ?_) rfl (by kernel_rfl) (by kernel_rfl) (by kernel_rfl) (fun _ _ _ h => h) (Or.inl ⟨by rfl, ?_⟩) (by assumption) ?_
       rotate_left
       ·intro w hSw; go_simp; with_reducible rfl
       refine wpAnyH_take (i := 3) (v := ?_) rfl (by kernel_rfl) (by kernel_rfl) (by kernel_rfl) (fun _ _ _ h => h) (Or.inl ⟨by rfl, ?_⟩) (by assumption) ?_
       rotate_left
       ·intro w hSw; go_simp; with_reducible rfl
       refine wpAnyH_take (i := 5) (v := ?_) rfl (by kernel_rfl) (by kernel_rfl) (by kernel_rfl) (fun _ _ _ h => h) (Or.inl ⟨by rfl, ?_⟩) (by assumption) ?_
       rotate_left
       ·intro w hSw; go_simp; with_reducible rfl
       refine wpAnyH_take (i := 6) (v := ?_) rfl (by kernel_rfl) (by kernel_rfl) (by kernel_rfl) (fun _ _ _ h => h) (Or.inl ⟨by rfl, ?_⟩) (by assumption) ?_
       rotate_left
       ·intro w hSw; go_split_ands; go_simp; with_reducible rfl
       refine wpAnyH_ready (rs := [4, 7]) (by kernel_rfl) (by simp) ?_
       refine AllReadyH.cons rfl (fun K hK => ?_) ?_
       ·go_simp
        refine hK.out _ _ ?_ (fun hS => ?_)
        ·exact hS
        clear hK K
        refine wpAnyH_ready (rs := [7]) (by kernel_rfl) (by simp) ?_
        refine AllReadyH.cons rfl (fun K hK => ?_) ?_
        ·go_simp
         refine hK.out _ _ ?_ (fun hS => ?_)
         ·exact j0
         clear hK K
         refine wpAnyH_ready (rs := [8]) (by kernel_rfl) (by simp) ?_
         refine AllReadyH.cons rfl (fun K hK => ?_) ?_
         ·go_simp
          refine hK.out _ _ ?_ (fun hS => ?_)
          ·exact j4
          clear hK K
          refine wpAnyH_take (i := 9) (v := ?_) rfl (by kernel_rfl) (by kernel_rfl) (by kernel_rfl) (fun _ _ _ h => h) (Or.inl ⟨by rfl, ?_⟩) (by assumption) ?_
          rotate_left
          ·intro w hSw; go_simp; with_reducible rfl
          refine wpAnyH_take (i := 10) (v := ?_) rfl (by kernel_rfl) (by kernel_rfl) (by kernel_rfl) (fun _ _ _ h => h) (Or.inl ⟨by rfl, ?_⟩) (by assumption) ?_
          rotate_left
          ·intro w hSw; go_simp; with_reducible rfl
          refine wpAnyH_ready (rs := [11]) (by kernel_rfl) (by simp) ?_
          refine AllReadyH.cons rfl (fun K hK => ?_) ?_
          ·go_simp
           refine hK.out _ _ ?_ (fun hS => ?_)
           ·exact j5
           clear hK K
           refine wpAnyH_done (by kernel_rfl) ?_ _
           rw [HV5.out]
           go_wp2_with (at_builtin; refine wp_append_eq rfl _ _ _ rfl rfl rfl hap6 ?_)
           refine ⟨.inr ⟨rfl, HE.out⟩, by simp [intOf]⟩
          exact AllReadyH.nil
         exact AllReadyH.nil
        exact AllReadyH.nil
       refine AllReadyH.cons rfl (fun K hK => ?_) ?_
       ·go_simp
        refine hK.out _ _ ?_ (fun hS => ?_)
        ·exact j0
        clear hK K
        refine wpAnyH_ready (rs := [4]) (by kernel_rfl) (by simp) ?_
        refine AllReadyH.cons rfl (fun K hK => ?_) ?_
        ·go_simp
         refine hK.out _ _ ?_ (fun hS => ?_)
         ·exact hS
         clear hK K
         refine wpAnyH_ready (rs := [8]) (by kernel_rfl) (by simp) ?_
         refine AllReadyH.cons rfl (fun K hK => ?_) ?_
         ·go_simp
          refine hK.out _ _ ?_ (fun hS => ?_)
          ·exact j4
          clear hK K
          refine wpAnyH_take (i := 9) (v := ?_) rfl (by kernel_rfl) (by kernel_rfl) (by kernel_rfl) (fun _ _ _ h => h) (Or.inl ⟨by rfl, ?_⟩) (by assumption) ?_
          rotate_left
          ·intro w hSw; go_simp; with_reducible rfl
          refine wpAnyH_take (i := 10) (v := ?_) rfl (by kernel_rfl) (by kernel_rfl) (by kernel_rfl) (fun _ _ _ h => h) (Or.inl ⟨by rfl, ?_⟩) (by assumption) ?_
          rotate_left
          ·intro w hSw; go_simp; with_reducible rfl
          refine wpAnyH_ready (rs := [11]) (by kernel_rfl) (by simp) ?_
          refine AllReadyH.cons rfl (fun K hK => ?_) ?_
          ·go_simp
           refine hK.out _ _ ?_ (fun hS => ?_)
           ·exact j5
           clear hK K
           refine wpAnyH_done (by kernel_rfl) ?_ _
           rw [HV5.out]
           go_wp2_with (at_builtin; refine wp_append_eq rfl _ _ _ rfl rfl rfl hap6 ?_)
           refine ⟨.inr ⟨rfl, HE.out⟩, by simp [intOf]⟩
          exact AllReadyH.nil
         exact AllReadyH.nil
        exact AllReadyH.nil
       exact AllReadyH.nil
      exact AllReadyH.nil
     exact AllReadyH.nil
    exact AllReadyH.nil
   exact AllReadyH.nil
  ·go_wp2_with fail
   go_ret2
   exact ⟨_, rfl, h1.out⟩
end Go.Proofs.YtpklkhgnjbopnaaGreatDoor
namespace Go.Proofs.YtpklkhgnjbopnaaGreatDoor
open Go Go.RowKit Go.Shelf
def rqCost : Rq := ⟨7, 0, ⟨#[]⟩, ⟨#[]⟩, 0, [], 0, 0, 0, []⟩
theorem rqCost_ok : rqCost.ok = true := by decide
theorem rqCost_wf : rqCost.Wf := ⟨⟨by decide, by decide⟩, (fun i hi => by cases hi), ⟨by decide, by decide⟩, ⟨by decide, by decide⟩, ⟨by decide, by decide⟩, (fun i hi => by cases hi)⟩
set_option maxRecDepth 100000 in
set_option maxHeartbeats 2000000 in
theorem shown20_any (fm ff : Addr) (w : World) (hE : GF fm ff w) (hT : Fr.GT w) :
  Calls Tryz.prog 6 #[] w fun e w' => e = .returned (.bool true) ∧ Below w.heap.size w w' := by
 obtain ⟨W, hW, hX, hB, hs⟩ := boxes1 w #[.int .u64 1, .int .i64 1000, .int .u64 9] 41
 have HC := Lib.hid (collNew_one 1 2 1 1000 9 w.heap.size 1 W ⟨by decide, by decide⟩ (by decide) (by decide) hX)
 have HBW := Lib.hid hB
 clear hX hB hs
 go_enter Tryz.func6, Tryz.ntmps6
 go_wp2_with fail
 refine HC.out.mono ?_
 rintro e w1 ⟨b, rfl, hb1⟩
 have HN := Lib.hid (wireNew_any ⟨b, 0, none⟩ w1)
 have HB1 : Hid (Below w.heap.size w w1) := HBW.out.trans (hb1.mono HBW.out.size)
 clear hb1
 go_wp2_with fail
 refine HN.out.mono ?_
 rintro e w2 ⟨rfl, hWA, hb2⟩
 have HWA := Lib.hid hWA
 have HB2 : Hid (Below w.heap.size w w2) := HB1.out.trans (hb2.mono HB1.out.size)
 have HA := Lib.hid (Ask_ok rqCost none 0 none 0 w2 rqCost_wf (by decide) (by decide) ⟨rfl, fun j x hx => by cases hx⟩ ⟨rfl, fun j x hx => by cases hx⟩ rqCost_ok)
 clear hb2 hWA
 go_wp2_with fail
 refine HA.out.mono ?_
 rintro e w3 ⟨rfl, hb3⟩
 have HB3 : Hid (Below w.heap.size w w3) := HB2.out.trans (hb3.mono HB2.out.size)
 have HWA3 := Lib.hid (HWA.out.go hb3)
 have hF0 : Frames (mkF (askB rqCost)) [askB rqCost] [] 20 := by
  have h := askB_len rqCost_ok
  have e := rdF_mk (l := askB rqCost) (fun e => by rw [e] at h; exact absurd h.1 (by decide)) h.2 []
  rw [List.append_nil] at e
  exact .step e (.stop rfl)
 have HF0 := Lib.hid (Feed_ask0 w1.heap.size (.pointer (some ⟨b, 0, none⟩)) ln0 ln0 ln0 ⟨(mkF (askB rqCost)).toArray⟩ rqCost fm ff w3 (by decide) (fun V hV => hE.below (HB3.out.trans (hV.mono HB3.out.size))) (hT.go HB3.out) hF0 rqCost_ok (msgOf_ask rqCost_ok rqCost_wf) HWA3.out rfl rfl rfl)
 clear hb3 hF0
 go_wp2_with fail
 refine HF0.out.mono ?_
 rintro e w4 ⟨rfl, hWA4, hk4⟩
 have hB4 : Below w.heap.size w w4 := HB3.out.trans (hk4.below (fun k hk => by have := HB1.out.size; omega) HB3.out.size)
 have HB4 := Lib.hid hB4
 have HF1 := Lib.hid (Feed_bad1 w1.heap.size (.pointer (some ⟨b, 0, none⟩)) ln0 ln0 ln0 ⟨#[120]⟩ ⟨#[120]⟩ 30 fm ff w4 (by decide) (by decide) (hE.below hB4) (hT.go hB4) (.stop rfl) (by decide) hWA4 rfl rfl)
 clear hWA4 hk4 hB4
 go_wp2_with fail
 refine HF1.out.mono ?_
 rintro e w5 ⟨rfl, hWA5, hk5⟩
 have hB5 : Below w.heap.size w w5 := HB4.out.trans (hk5.below (fun k hk => by have := HB1.out.size; omega) HB4.out.size)
 have HB5 := Lib.hid hB5
 have HWA5 := Lib.hid hWA5
 have hrd : rdF (mkF (Ry.B ⟨201, 0, [], []⟩)) = .got (Ry.B ⟨201, 0, [], []⟩) [] := by
  have e := rdF_mk (l := Ry.B ⟨201, 0, [], []⟩) (by decide) (by decide) []
  rwa [List.append_nil] at e
 have HR := Lib.hid (Read_any ⟨(mkF (Ry.B ⟨201, 0, [], []⟩)).toArray⟩ _ _ fm ff w5 (by decide) (hE.below hB5) hrd)
 clear hWA5 hk5 hB5 hrd
 go_wp2_with fail
 refine HR.out.mono ?_
 rintro e w6 ⟨rfl, hb6⟩
 have HB6 : Hid (Below w.heap.size w w6) := HB5.out.trans (hb6.mono HB5.out.size)
 have HWA6 := Lib.hid (HWA5.out.go hb6)
 have HO0 : Hid (CR 12 #[.pointer (some ⟨w1.heap.size, 0, none⟩), .int .i64 0] w6 (.bool true)) := open0 w1.heap.size _ _ _ _ w6 HWA6.out
 have hz : (mkF (Ry.B ⟨200, 0, [], []⟩)).length = 10 := by decide
 have hz2 : (⟨(mkF (Ry.B ⟨200, 0, [], []⟩)).toArray⟩ : ByteArray).size = 10 := by decide
 clear hb6
 go_wp2_with fail
 refine HO0.out.mono ?_
 rintro e w7 ⟨rfl, hb7⟩
 have HB7 : Hid (Below w.heap.size w w7) := HB6.out.trans (hb7.mono HB6.out.size)
 have HO1 : Hid (CR 12 #[.pointer (some ⟨w1.heap.size, 0, none⟩), .int .i64 1] w7 (.bool false)) := open1 w1.heap.size _ _ _ _ w7 (HWA6.out.go hb7)
 clear hb7
 go_wp2_with fail
 refine HO1.out.mono ?_
 rintro e w8 ⟨rfl, hb8⟩
 have HB8 : Hid (Below w.heap.size w w8) := HB7.out.trans (hb8.mono HB7.out.size)
 clear hb8
 go_wp2_with fail
 go_ret
 exact ⟨rfl, HB8.out⟩
end Go.Proofs.YtpklkhgnjbopnaaGreatDoor

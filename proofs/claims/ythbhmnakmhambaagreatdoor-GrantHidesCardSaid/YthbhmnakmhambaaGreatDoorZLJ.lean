/- Package label: Get. Package scope: names, values, patterns' signs. Package scope: the places of a pattern. Package scope: signs, patterns, what fits. Package scope: IsPattern, Fits. Package ladder: New. Printed by gen_lj.py. -/
import Derived.Test.YthbhmnakmhambaaGreatDoorZLH
import Derived.Test.YthbhmnakmhambaaGreatDoorZQO
namespace Go.Proofs.YthbhmnakmhambaaGreatDoor
open Go Go.RowKit Go.Shelf
attribute [local go_sem] Oper.semAt_some
def labGet : List Lab → ByteArray → Option ByteArray
 | [], _ => none
 | x :: xs, n => if x.name.toList == n.toList then some x.value else labGet xs n
theorem labGet_snoc_none (ls : List Lab) (n : ByteArray) (x : Lab) (h : labGet ls n = none) : labGet (ls ++ [x]) n = if x.name.toList == n.toList then some x.value else none := by
 induction ls with
 | nil => rfl
 | cons y ys ih =>
  simp only [labGet, List.cons_append] at h ⊢
  split at h
  ·cases h
  ·rename_i hy; simp [hy, ih h]
theorem labGet_prefix (ps ls : List Lab) (n v : ByteArray) (hp : ps <+: ls) (h : labGet ps n = some v) : labGet ls n = some v := by
 obtain ⟨t, rfl⟩ := hp
 induction ps with
 | nil => simp [labGet] at h
 | cons y ys ih =>
  simp only [labGet, List.cons_append] at h ⊢
  split
  ·rename_i hy; simpa [hy] using h
  ·rename_i hy; exact ih (by simpa [hy] using h)
set_option maxRecDepth 100000 in
set_option maxHeartbeats 1000000 in
theorem label_Get_any (a0 : Option Addr) (cap : Nat) (ls : List LabK) (nm : ByteArray) (w : World) (hL : Labs w.heap.size w (.slice a0 ls.length cap) (ls.map (·.1))) (h3 : ls.length < 4294967281) :
  Calls Tryz.prog 89 #[.slice a0 ls.length cap, .string nm] w fun e w' => e = .returned (.tuple #[.string ((labGet (ls.map (·.1)) nm).getD ⟨#[]⟩), .bool (labGet (ls.map (·.1)) nm).isSome]) ∧ Below w.heap.size w w' := by
 refine calls_marks Tryz.func89 rfl ?_
 simp only [Tryz.ntmps89, List.size_toArray, List.length_cons, List.length_nil, Nat.reduceAdd, Nat.reduceSub, Array.replicate_succ, Array.replicate_zero, List.push_toArray, List.append_toArray, List.nil_append, List.cons_append]
 go_wp2_with (go_at_call 70; refine (each_any _ _ _ _).mono ?_; rintro e w' ⟨rfl, rfl⟩)
 obtain ⟨W0, hW0, b0, b1, b2, b3, hB0, hsz⟩ := box4 w (.string nm) 9 (.string ⟨#[]⟩) 9 (.bool false) 4 (.slice a0 ls.length cap) 40
 rw [hW0]
 clear hW0
 refine wp_range_box 70 (fun x : LabK => #[.string x.1.name, .string x.1.value]) 6 (gf := 126) (lb := #[.pointer (some ⟨w.heap.size + 3, 0, none⟩)]) rfl (enters_of Tryz.func126 (by kernel_rfl) rfl)
  (values_lab (w.heap.size + 3) w.heap.size _ ls h3 W0 (by omega) (by omega) b3.cell (SlAt.below hB0 hL)) (by omega) (Below.refl _ _) (fun _ => rfl)
  (fun pre W => Boxed W w.heap.size 9 (.string nm) ∧ Boxed W (w.heap.size + 1) 9 (.string ⟨#[]⟩) ∧ Boxed W (w.heap.size + 2) 4 (.bool false) ∧ labGet (pre.map (·.1)) nm = none ∧ Below w.heap.size w W)
  (fun c pre W => (∃ v, Boxed W (w.heap.size + 1) 9 (.string v) ∧ labGet (pre.map (·.1)) nm = some v) ∧ Boxed W (w.heap.size + 2) 4 (.bool true) ∧ c = .ret ∧ Below w.heap.size w W)
  ((ownBox _ _ _ _).and ((ownBox _ _ _ _).and ((ownBox _ _ _ _).and ((ownFrom_pure _ _).and (ownFrom_below (Nat.le_refl _) (by omega))))))
  (fun c => OwnFrom.and (fun s X Y row hs hg hr => by obtain ⟨v, h1, h2⟩ := hs; exact ⟨v, ownBox _ _ _ (fun _ => .string v) s X Y row h1 hg hr, h2⟩) ((ownBox _ _ _ _).and ((ownFrom_pure _ _).and (ownFrom_below (Nat.le_refl _) (by omega)))))
  ⟨b0, b1, b2, rfl, hB0⟩ ?assign ?body ?done ?stop
 case assign =>
  rintro l pre x W K ⟨hb1, hb2, hb3, hg, hB⟩ hs hK
  simp only [List.zip_toArray, List.zip_cons_cons, List.zip_nil_right, List.size_toArray, List.foldl_toArray', List.foldl_cons, List.foldl_nil, List.setIfInBounds_toArray, List.set_cons_succ, List.set_cons_zero] at hK ⊢
  gi_wp2
  exact ⟨hb1.alloc _, hb2.alloc _, hb3.alloc _, hg, hB.alloc hB.size _⟩
 case body =>
  rintro l pre x W Bx ⟨hb1, hb2, hb3, hg, hB⟩ hBx hBl hx hlt
  have c0 := cCc hx 0
  have c1 := cCc hx 1
  have c2 := hb1.cell
  have c3 := hb2.cell
  have c4 := hb3.cell
  have c5 := hb2.frozen
  have c6 := hb3.frozen
  simp at c0 c1
  simp only [List.zip_toArray, List.zip_cons_cons, List.zip_nil_right, List.size_toArray, List.foldl_toArray', List.foldl_cons, List.foldl_nil, List.setIfInBounds_toArray, List.set_cons_succ, List.set_cons_zero]
  have hsn := Lib.hid (labGet_snoc_none (pre.map (·.1)) nm x.1 hg)
  clear hsz hx hg
  by_cases he : (x.1.name.toList == nm.toList) = true
  ·gi_wp2_with fail
   have HS := hsn.out
   rw [if_pos he] at HS
   refine ⟨((KeepsOthers.setCell _ _ _).from _).trans ((KeepsOthers.setCell _ _ _).from _), ⟨x.1.value, (hb2.set _).other (by omega) _, by rw [List.map_append, List.map_singleton]; exact HS⟩, (hb3.other (by omega) _).set _, rfl, (hB.setCell (p := ⟨w.heap.size + 1, 0, none⟩) (Nat.le_succ _) _).setCell (p := ⟨w.heap.size + 2, 0, none⟩) (Nat.le_add_right _ _) _⟩
  ·have he' : (x.1.name.toList == nm.toList) = false := by simpa using he
   gi_wp2_with fail
   have HS := hsn.out
   rw [if_neg he] at HS
   exact ⟨KeepsFrom.refl _ _, Below.refl _ _, hb1, hb2, hb3, by rw [List.map_append, List.map_singleton]; exact HS, hB⟩
 case done =>
  rintro D W hD ⟨hb1, hb2, hb3, hg, hB⟩ hK
  have c3 := hb2.cell
  have c4 := hb3.cell
  have c5 := hb2.frozen
  have c6 := hb3.frozen
  have hDs : w.heap.size ≤ D := by omega
  clear hsz
  go_wp2_with fail
  have hK2 := dfSet (dfSet hK ⟨w.heap.size + 1, 0, none⟩ (.string ⟨#[]⟩)) ⟨w.heap.size + 1 + 1, 0, none⟩ (.bool false)
  have q1 := bxPut ((hb2.set (.string ⟨#[]⟩)).other (B' := w.heap.size + 1 + 1) (by omega) (.bool false)) hK2 rfl (.deferred none)
  have q2 := bxPut ((hb3.other (B' := w.heap.size + 1) (by omega) (.string ⟨#[]⟩)).set (.bool false)) hK2 rfl (.deferred none)
  refine marks_ret1 (v := .tuple #[.string ⟨#[]⟩, .bool false]) hK2 ?_ ⟨by rw [hg]; rfl, bPutD ((hB.setCell (p := ⟨w.heap.size + 1, 0, none⟩) (Nat.le_succ _) _).setCell (p := ⟨w.heap.size + 2, 0, none⟩) (Nat.le_add_right _ _) _) hDs hK2⟩
  simp [results, Tryz.f89, go_sem, q1.cell, q2.cell]
 case stop =>
  rintro D c pre W hD hp ⟨⟨v, hb1, hg⟩, hb2, rfl, hB⟩ hK
  have hDs : w.heap.size ≤ D := by omega
  clear hsz
  go_wp2_with fail
  have q1 := bxPut hb1 hK rfl (.deferred none)
  have q2 := bxPut hb2 hK rfl (.deferred none)
  have hgl := labGet_prefix _ _ _ _ (hp.map (·.1)) hg
  refine marks_ret1 (v := .tuple #[.string v, .bool true]) hK ?_ ⟨by rw [hgl]; rfl, bPutD hB hDs hK⟩
  simp [results, Tryz.f89, go_sem, q1.cell, q2.cell]
def sA : ByteArray := ⟨#[97]⟩
def scName (s : ByteArray) : Bool := labRight [⟨s, ⟨#[]⟩⟩]
def scValue (s : ByteArray) : Bool := labRight [⟨sA, s⟩]
theorem labs_new1 (w : World) (l : Lab) (t : TypeId) : Labs (w.heap.size + 1) (w.alloc (.cells #[.string l.name, .string l.value] t)) (.slice (some ⟨w.heap.size, 0, none⟩) 1 1) [l] := by
 refine .inr ⟨w.heap.size, 0, 1, rfl, by omega, fun i _ => ?_⟩
 rw [Nat.zero_add, cCc (World.alloc_heap_new w _) i]
 simp [Lab.enc]
theorem scIsName_any (s : ByteArray) (w : World) (hs : s.size < 4294967281) (hG : GW w) : Calls Tryz.prog 112 #[.string s] w fun e w' => e = .returned (.bool (scName s)) ∧ Below w.heap.size w w' := by
 have hB : Below w.heap.size w (w.alloc (.cells #[.string s, .string ⟨#[]⟩] 70)) := (Below.refl _ _).alloc (Nat.le_refl _) _
 have hR := label_Right_any (some ⟨w.heap.size, 0, none⟩) 1 [⟨⟨s, ⟨#[]⟩⟩, hs, by show (0 : Nat) < _; omega⟩] _ (by simpa using labs_new1 w ⟨s, ⟨#[]⟩⟩ 70) (hG.below hB) (by simp)
 go_enter Tryz.func112, Tryz.ntmps112
 go_wp2_with (go_at_call 69; refine hR.mono ?_; rintro e w' ⟨rfl, hb⟩)
 go_ret
 exact ⟨rfl, hB.trans (hb.mono (by simp))⟩
theorem scIsValue_any (s : ByteArray) (w : World) (hs : s.size < 4294967281) (hG : GW w) : Calls Tryz.prog 133 #[.string s] w fun e w' => e = .returned (.bool (scValue s)) ∧ Below w.heap.size w w' := by
 have hB : Below w.heap.size w (w.alloc (.cells #[.string sA, .string s] 70)) := (Below.refl _ _).alloc (Nat.le_refl _) _
 have hR := label_Right_any (some ⟨w.heap.size, 0, none⟩) 1 [⟨⟨sA, s⟩, by show (1 : Nat) < _; omega, hs⟩] _ (by simpa using labs_new1 w ⟨sA, s⟩ 70) (hG.below hB) (by simp)
 unfold sA at hR hB
 go_enter Tryz.func133, Tryz.ntmps133
 go_wp2_with (go_at_call 69; refine hR.mono ?_; rintro e w' ⟨rfl, hb⟩)
 go_ret
 exact ⟨rfl, hB.trans (hb.mono (by simp))⟩
inductive Sign where
 | any | one | that (c : Int)
def Sign.val : Sign → Value
 | .any => .iface 228 (.agg #[])
 | .one => .iface 229 (.agg #[])
 | .that c => .iface 227 (.agg #[.int .i32 c])
def Sign.isAny : Sign → Bool
 | .any => true
 | _ => false
def Sign.isFor (c : Int) : Sign → Bool
 | .one => true
 | .that d => d == c
 | .any => false
theorem assertAny (x : Sign) (w : World) : (Instr.typeAssert x.val 234 228 true).run Tryz.prog w = .ok (.tuple #[.agg #[], .bool x.isAny]) w := by cases x <;> kernel_rfl
theorem assertOne (x : Sign) (w : World) : (Instr.typeAssert x.val 234 229 true).run Tryz.prog w = .ok (.tuple #[.agg #[], .bool (match x with | .one => true | _ => false)]) w := by cases x <;> kernel_rfl
theorem assertThat (c : Int) (w : World) : (Instr.typeAssert (Sign.that c).val 234 227 false).run Tryz.prog w = .ok (.agg #[.int .i32 c]) w := by kernel_rfl
theorem fieldThat (c : Int) (w : World) : (Instr.field 227 (.agg #[.int .i32 c]) 0).run Tryz.prog w = .ok (.int .i32 c) w := by kernel_rfl
theorem isAny_any (x : Sign) (w : World) : Calls Tryz.prog 135 #[x.val] w fun e w' => e = .returned (.bool x.isAny) ∧ w = w' := by
 have h1 := assertAny x
 generalize x.val = v at h1 ⊢
 generalize x.isAny = b at h1 ⊢
 cases b <;>
 ·go_enter Tryz.func135, Tryz.ntmps135
  go_wp2
  go_ret
  exact ⟨rfl, rfl⟩
theorem isFor_any (x : Sign) (c : Int) (w : World) (hx : x.isAny = false) : Calls Tryz.prog 136 #[x.val, .int .i32 c] w fun e w' => e = .returned (.bool (x.isFor c)) ∧ Below w.heap.size w w' := by
 cases x with
 | any => cases hx
 | one =>
  have h1 := assertOne .one
  simp only at h1
  generalize Sign.one.val = v at h1 ⊢
  go_enter Tryz.func136, Tryz.ntmps136
  go_wp2
  go_ret
  exact ⟨rfl, (Below.refl _ _).alloc (Nat.le_refl _) _⟩
 | that d =>
  have h1 := assertOne (.that d)
  have h2 := assertThat d
  have h3 := fieldThat d
  simp only at h1
  generalize (Sign.that d).val = v at h1 h2 ⊢
  go_enter Tryz.func136, Tryz.ntmps136
  go_wp2
  go_ret
  exact ⟨rfl, (Below.refl _ _).alloc (Nat.le_refl _) _⟩
end Go.Proofs.YthbhmnakmhambaaGreatDoor
namespace Go.Proofs.YthbhmnakmhambaaGreatDoor
open Go Go.RowKit Go.Shelf
theorem zero_unit (w : World) : (zeroValue 203).run Tryz.prog w = .ok (.agg #[]) w := by kernel_rfl
theorem und_places : Tryz.prog.underlying 200 = some (.map 3 203) := by kernel_rfl
abbrev PSet (w : World) (b n : Nat) (S : Int → Bool) : Prop := SetAt Tryz.prog 3 w b n S
theorem PSet.put {w : World} {b n : Nat} {S : Int → Bool} (h : PSet w b n S) (hn : n < maxLen) {i : Int} (hi : wfI i) :
  ∃ w', (Instr.mapUpdate 200 (.map (some b)) (.int .i64 i) (.agg #[])).run Tryz.prog w = .ok () w' ∧ PSet w' b (n + 1) (fun j => S j || j == i) ∧ w.grownBy w' (some b) :=
 SetAt.add Tryz.underlying3 und_places h hn hi
def Signs (n₀ : Nat) (w : World) (sv : Value) (l : List Sign) : Prop := SlAt n₀ w sv l.length (l.map Sign.val)
theorem Signs.cell {n₀ : Nat} {w : World} {a : Option Addr} {len cap : Nat} {l : List Sign} (h : Signs n₀ w (.slice a len cap) l) : len = l.length ∧ ∀ i x, l[i]? = some x → ∃ b off, a = some ⟨b, off, none⟩ ∧ b < n₀ ∧ w.cell? ⟨b, off + i, none⟩ = some x.val := by
 rcases h with ⟨h, h0, _⟩ | ⟨b, off, cap', e, hb, hc⟩
 ·obtain ⟨rfl, rfl, rfl⟩ : a = none ∧ len = 0 ∧ cap = 0 := by simpa using h
  have : l = [] := by simpa using h0
  subst this
  exact ⟨rfl, fun i x hx => by simp at hx⟩
 ·obtain ⟨rfl, rfl, rfl⟩ : a = some ⟨b, off, none⟩ ∧ len = l.length ∧ cap = cap' := by simpa using e
  refine ⟨rfl, fun i x hx => ⟨b, off, rfl, hb, ?_⟩⟩
  have hi := (List.getElem?_eq_some_iff.1 hx).1
  rw [hc i (by simpa using hi)]
  simp [hx]
def anysGo : List Sign → Nat
 | [] => 0
 | x :: xs => if x.isAny then anysGo xs + 1 else 0
def anys (l : List Sign) (i : Nat) : Nat := anysGo (l.drop i)
theorem anys_yes (l : List Sign) (i : Nat) (x : Sign) (h : l[i]? = some x) (hx : x.isAny = true) : anys l i = anys l (i + 1) + 1 := by
 unfold anys
 rw [List.drop_eq_getElem_cons (List.getElem?_eq_some_iff.1 h).1, (List.getElem?_eq_some_iff.1 h).2]
 simp [anysGo, hx]
theorem anys_no (l : List Sign) (i : Nat) (x : Sign) (h : l[i]? = some x) (hx : x.isAny = false) : anys l i = 0 := by
 unfold anys
 rw [List.drop_eq_getElem_cons (List.getElem?_eq_some_iff.1 h).1, (List.getElem?_eq_some_iff.1 h).2]
 simp [anysGo, hx]
theorem anys_end (l : List Sign) (i : Nat) (h : l.length ≤ i) : anys l i = 0 := by
 unfold anys; rw [List.drop_eq_nil_of_le h]; rfl
theorem anys_le (l : List Sign) (i : Nat) : i ≤ l.length → i + anys l i ≤ l.length := by
 have : ∀ (m : List Sign), anysGo m ≤ m.length := by
  intro m
  induction m with
  | nil => simp [anysGo]
  | cons x xs ih => simp only [anysGo]; split <;> simp <;> omega
 intro h
 have := this (l.drop i)
 rw [List.length_drop] at this
 unfold anys; omega
def cloB (l : List Sign) (i : Nat) (j : Int) : Bool := decide ((i : Int) ≤ j) && decide (j ≤ i + anys l i)
set_option maxHeartbeats 1000000 in
theorem sput_any (a : Option Addr) (len cap : Nat) (l : List Sign) (i : Nat) (b n n₀ : Nat) (S : Int → Bool) (w : World) (hl : Signs n₀ w (.slice a len cap) l) (hs : PSet w b n S) (hn₀ : n₀ ≤ b) (hi : i ≤ l.length) (hlen : l.length < 4294967281) (hn : n < 4294967281) :
  Calls Tryz.prog 116 #[.map (some b), .slice a len cap, .int .i64 i] w fun e w' => (∃ v, e = .returned v) ∧ PSet w' b (n + 1 + l.length) (fun j => S j || cloB l i j) ∧ w.grownBy w' (some b) := by
 obtain ⟨rfl, hcell⟩ := hl.cell
 obtain ⟨w1, hr1, hs1, hg1⟩ := hs.put (by unfold maxLen; omega) (i := i) (wfI_of (by omega) (by omega))
 go_enter Tryz.func116, Tryz.ntmps116
 go_wp2_with fail
 go_loopw [2] (fun v wr => ∃ k : Nat, v = .int .i64 k ∧ i ≤ k ∧ k ≤ l.length ∧ Hid (anys l i = (k - i) + anys l k) ∧ PSet wr b (n + 1 + (k - i)) (fun j => S j || (decide ((i : Int) ≤ j) && decide (j ≤ k))) ∧ w.grownBy wr (some b)) (fun v _ => l.length - (intOf v).toNat)
 case atStart => exact ⟨i, rfl, Nat.le_refl _, hi, by simp [Hid], by rw [Nat.sub_self]; exact hs1.congr (fun j _ => by cases S j <;> (rw [Bool.eq_iff_iff]; simp <;> omega)), hg1⟩
 case round =>
  obtain ⟨k, rfl, hik, hkl, HA, hsk, hgk⟩ := hrel
  clear hr1 hs1 hg1
  have hbl := hs.lt
  by_cases hlt : k < l.length
  ·obtain ⟨x, hx⟩ : ∃ x, l[k]? = some x := ⟨_, List.getElem?_eq_getElem hlt⟩
   obtain ⟨bb, off, rfl, hbb, hc⟩ := hcell k x hx
   have hc' : wr.cell? ⟨bb, off + k, none⟩ = some x.val := (World.cell?_of_block (hgk.block bb (by omega) (by intro e; cases e; omega))).trans hc
   have hisany := isAny_any x wr
   have HX := Lib.hid hx
   clear hx hc hcell hl
   by_cases hax : x.isAny = true
   ·have HY := Lib.hid (anys_yes l k x HX.out hax)
    obtain ⟨w2, hr2, hs2, hg2⟩ := hsk.put (by unfold maxLen; omega) (i := (k : Int) + 1) (wfI_of (by omega) (by omega))
    generalize x.val = xv at hc' hisany
    generalize x.isAny = xa at hax hisany
    subst hax
    go_wp2_with (go_at_call 135; refine hisany.mono ?_; rintro e w' ⟨rfl, rfl⟩)
    go_roundw
    case rel =>
     refine ⟨k + 1, by go_num, by omega, by omega, ?_, ?_, hgk.andThen hg2 (fun j e => .inr e)⟩
     ·have := HA.out; have := HY.out; show _ = _; omega
     ·have h5 := hs2.congr (T := fun j => S j || (decide ((i : Int) ≤ j) && decide (j ≤ ((k + 1 : Nat) : Int)))) (fun j _ => by cases S j <;> (rw [Bool.eq_iff_iff]; simp <;> omega))
      rwa [show n + 1 + (k - i) + 1 = n + 1 + (k + 1 - i) by omega] at h5
    case measure => simp [intOf]; omega
   ·have hax' : x.isAny = false := by simpa using hax
    have HY := Lib.hid (anys_no l k x HX.out hax')
    clear hax
    generalize x.val = xv at hc' hisany
    generalize x.isAny = xa at hax' hisany
    subst hax'
    go_wp2_with (go_at_call 135; refine hisany.mono ?_; rintro e w' ⟨rfl, rfl⟩)
    go_end0
    refine ⟨⟨_, rfl⟩, (hsk.congr (fun j _ => ?_)).mono (by omega), hgk⟩
    have h6 := HA.out
    have h7 := HY.out
    unfold cloB
    cases S j <;> (rw [Bool.eq_iff_iff]; simp <;> omega)
  ·have HY := Lib.hid (anys_end l k (by omega))
   clear hcell hl
   have h8 : decide ((k : Int) < l.length) = false := by simp; omega
   go_wp2_with fail
   go_end0
   refine ⟨⟨_, rfl⟩, (hsk.congr (fun j _ => ?_)).mono (by omega), hgk⟩
   have h6 := HA.out
   have h7 := HY.out
   unfold cloB
   cases S j <;> (rw [Bool.eq_iff_iff]; simp <;> omega)
def stepB (l : List Sign) (c : Int) (i : Nat) (j : Int) : Bool :=
 match l[i]? with
 | none => false
 | some x => if x.isAny then cloB l i j else if x.isFor c then cloB l (i + 1) j else false
def behindB (l : List Sign) (S : Int → Bool) (c : Int) (j : Int) : Bool := (List.range (l.length + 1)).any fun i => S (i : Int) && stepB l c i j
theorem cloB_dom (l : List Sign) (i : Nat) (hi : i ≤ l.length) (j : Int) (h : cloB l i j = true) : 0 ≤ j ∧ j < (l.length + 1 : Nat) := by
 unfold cloB at h
 have := anys_le l i hi
 simp at h
 omega
theorem stepB_dom (l : List Sign) (c : Int) (i : Nat) (j : Int) (h : stepB l c i j = true) : 0 ≤ j ∧ j < (l.length + 1 : Nat) := by
 unfold stepB at h
 split at h
 ·cases h
 ·rename_i x hx
  have := (List.getElem?_eq_some_iff.1 hx).1
  split at h
  ·exact cloB_dom l i (by omega) j h
  ·split at h
   ·exact cloB_dom l (i + 1) (by omega) j h
   ·cases h
theorem behindB_dom (l : List Sign) (S : Int → Bool) (c : Int) (j : Int) (h : behindB l S c j = true) : 0 ≤ j ∧ j < (l.length + 1 : Nat) := by
 unfold behindB at h
 obtain ⟨i, _, h2⟩ := List.any_eq_true.1 h
 exact stepB_dom l c i j (by simp at h2; exact h2.2)
theorem any_congr {α : Type} (l : List α) (f g : α → Bool) (h : ∀ x ∈ l, f x = g x) : l.any f = l.any g := by
 induction l with
 | nil => rfl
 | cons x xs ih => simp only [List.any_cons]; rw [h x (by simp), ih (fun y hy => h y (by simp [hy]))]
theorem any_visit (n : Nat) (p L : Nat → Bool) (f : Nat → Bool) (i : Nat) (hi : i < n) (hL : L i = true) (hp : p i = true) :
  ((List.range n).any fun a => (p a && !(L a && !(a == i))) && f a) = (((List.range n).any fun a => (p a && !L a) && f a) || f i) := by
 rw [Bool.eq_iff_iff]
 simp only [List.any_eq_true, List.mem_range, Bool.and_eq_true, Bool.or_eq_true, Bool.not_eq_true', Bool.and_eq_false_iff]
 constructor
 ·rintro ⟨a, ha, ⟨h1, h2⟩, h3⟩
  by_cases e : a = i
  ·subst e; exact .inr h3
  ·refine .inl ⟨a, ha, ⟨h1, ?_⟩, h3⟩
   rcases h2 with h2 | h2
   ·exact h2
   ·simp [e] at h2
 ·rintro (⟨a, ha, ⟨h1, h2⟩, h3⟩ | h)
  ·exact ⟨a, ha, ⟨h1, .inl h2⟩, h3⟩
  ·exact ⟨i, hi, ⟨hp, .inr (by simp)⟩, h⟩
set_option maxHeartbeats 2000000 in
theorem sbehind_any (a : Option Addr) (len cap : Nat) (l : List Sign) (c : Int) (b n n₀ : Nat) (S : Int → Bool) (w : World) (hl : Signs n₀ w (.slice a len cap) l) (hs : PSet w b n S) (hn₀ : n₀ ≤ w.heap.size)
  (hdom : ∀ i, wfI i → S i = true → 0 ≤ i ∧ i < (l.length + 1 : Nat)) (hlen : l.length < 2147483648) :
  Calls Tryz.prog 117 #[.map (some b), .slice a len cap, .int .i32 c] w fun e w' => ∃ nb, e = .returned (.map (some nb)) ∧ w.heap.size ≤ nb ∧ PSet w' nb (l.length + 1) (behindB l S c) ∧ Below w.heap.size w w' := by
 have hmm := @run_makeMap Tryz.prog
 have hlen' := hl.cell.1
 subst hlen'
 have hbl := hs.lt
 have hB1 : Below w.heap.size w (w.alloc (.map #[] 0)) := (Below.refl _ w).alloc (Nat.le_refl _) _
 have hs1 := SetAt.below hs hB1 hbl
 have hT1 := setAt_new (P := Tryz.prog) (kt := 3) w
 have hsz1 : (w.alloc (.map #[] 0)).heap.size = w.heap.size + 1 := by simp
 obtain ⟨W2, cnt0, hr2, hrg2, hg2, hsz2⟩ := SetAt.range Tryz.underlying3 und_places hs1
 rw [hsz1] at hr2 hrg2 hsz2
 have hB2 : Below w.heap.size w W2 := hB1.grown hg2 (by omega) (fun k e => by cases e)
 have hT2 := (hT1.kept hg2 (by simp)).mono (m := l.length + 1) (by omega)
 have HR := Lib.hid hr2
 clear hr2 hs1 hT1 hg2
 go_enter Tryz.func117, Tryz.ntmps117
 have hr2 := HR.out
 go_wp2_with fail
 clear hr2 HR hmm
 go_loopw [] (fun wr => ∃ (L : Int → Bool) (cnt : Nat) (T : Int → Bool), RangeAt Tryz.prog 3 wr b (w.heap.size + 1) n S L cnt ∧ PSet wr w.heap.size (l.length + 1) T ∧ Hid (∀ j, wfI j → T j = (List.range (l.length + 1)).any fun i => (S (i : Int) && !L (i : Int)) && stepB l c i j) ∧ Below w.heap.size w wr) (fun wr => wr.rangeLeft b (w.heap.size + 1))
 case atStart => exact ⟨S, cnt0, _, hrg2, hT2, fun j _ => by simp, hB2⟩
 case round =>
  obtain ⟨L, cnt, T, hrg, hT, HT, hB⟩ := hrel
  clear hrg2 hT2 hB2 hsz2
  have hcnt := hrg.left_eq
  have hTl := hT.lt
  have hrl := hrg.lt
  have hszB := hB.size
  rcases RangeAt.next Tryz.underlying3 hrg 0 with ⟨hL, hnx⟩ | ⟨i, W3, cnt', hwi, hLi, hSi, hnx, hrg3, hlt, hg3, hsz3, hen⟩
  ·clear hcnt
   go_wp2_with fail
   go_ret
   refine ⟨_, rfl, Nat.le_refl _, hT.congr (fun j hj => ?_), hB⟩
   rw [HT.out j hj]
   unfold behindB
   refine any_congr _ _ _ (fun i hi => ?_)
   have := List.mem_range.1 hi
   rw [hL i (wfI_of (by omega) (by omega))]; simp
  ·obtain ⟨h0, h1⟩ := hdom i hwi hSi
   obtain ⟨k, rfl⟩ := Int.eq_ofNat_of_zero_le h0
   have hk : k ≤ l.length := by omega
   have hB3 : Below w.heap.size w W3 := hB.grown hg3 hszB (fun j e => by cases e; omega)
   have hT3 := hT.kept hg3 (by simp)
   have HTd : Hid (∀ j, wfI j → T j = true → 0 ≤ j ∧ j < (l.length + 1 : Nat)) := fun j hj h => by
    rw [HT.out j hj] at h
    obtain ⟨i, _, h2⟩ := List.any_eq_true.1 h
    exact stepB_dom l c i j (by simp at h2; exact h2.2)
   have HV : Hid (∀ j, wfI j → ((List.range (l.length + 1)).any fun i => (S (i : Int) && !(L (i : Int) && !((i : Int) == (k : Int)))) && stepB l c i j) = (T j || stepB l c k j)) := fun j hj => by
    rw [HT.out j hj, ← any_visit (l.length + 1) (fun a => S (a : Int)) (fun a => L (a : Int)) (fun a => stepB l c a j) k (by omega) hLi hSi]
    refine any_congr _ _ _ (fun a _ => ?_)
    have : ((a : Int) == (k : Int)) = (a == k) := by rw [Bool.eq_iff_iff]; simp; omega
    rw [this]
   have hsl3 : Signs n₀ W3 (.slice a l.length cap) l := SlAt.below (hB3.mono hn₀) hl
   have hcell := hsl3.cell.2
   have hbr : b ≠ w.heap.size + 1 := fun e => hrg.ne e.symm
   clear hrg hT HT hB hg3 h0 h1 hLi hSi hwi
   by_cases hkl : k = l.length
   ·have hkl' : ((k : Int) == (l.length : Int)) = true := by simp [hkl]
    have HK := Lib.hid hkl
    clear hkl hcell hsl3
    go_wp2_with fail
    go_roundw
    case rel =>
     refine ⟨_, cnt', T, hrg3, hT3, fun j hj => ?_, hB3⟩
     rw [HV.out j hj]
     unfold stepB
     rw [HK.out]; simp
    case measure => rw [hrg3.left_eq, hcnt]; exact hlt
   ·have hkl' : ((k : Int) == (l.length : Int)) = false := by rw [beq_eq_false_iff_ne]; omega
    have hkk : k < l.length := by omega
    obtain ⟨x, hx⟩ : ∃ x, l[k]? = some x := ⟨_, List.getElem?_eq_getElem hkk⟩
    obtain ⟨bb, off, rfl, hbb, hc⟩ := hcell k x hx
    have hst : ∀ j, stepB l c k j = if x.isAny then cloB l k j else if x.isFor c then cloB l (k + 1) j else false := fun j => by simp [stepB, hx]
    have HST := Lib.hid hst
    have hisany := isAny_any x W3
    clear hcell hkl hx hst
    by_cases hax : x.isAny = true
    ·have hput := sput_any (some ⟨bb, off, none⟩) l.length cap l k w.heap.size (l.length + 1) n₀ T W3 hsl3 hT3 hn₀ hk (by omega) (by omega)
     have HA := Lib.hid hax
     clear hsl3
     generalize x.val = xv at hc hisany
     rw [hax] at hisany
     clear hax
     go_wp2_with (first | (go_at_call 135; refine hisany.mono ?_; rintro e w' ⟨rfl, rfl⟩) | (go_at_call 116; refine hput.mono ?_; rintro e W4 ⟨⟨v, rfl⟩, hT4, hg4⟩))
     go_roundw
     case rel =>
      refine ⟨_, cnt', _, hrg3.kept hg4 (fun e => by have := Option.some.inj e; omega) (fun e => by have := Option.some.inj e; omega), SetAt.tight Tryz.underlying3 hT4 (fun j hj h => ?_), fun j hj => ?_, hB3.grown hg4 (by omega) (fun j e => by cases e; exact Nat.le_refl _)⟩
      ·simp only [Bool.or_eq_true] at h
       rcases h with h | h
       ·exact HTd.out j hj h
       ·exact cloB_dom l _ (by omega) j h
      ·rw [HV.out j hj, HST.out j]; simp [HA.out]
     case measure => rw [(hrg3.kept hg4 (fun e => by have := Option.some.inj e; omega) (fun e => by have := Option.some.inj e; omega)).left_eq, hcnt]; exact hlt
    ·have hax' : x.isAny = false := by simpa using hax
     have hisfor := isFor_any x c W3 hax'
     clear hax
     by_cases hfx : x.isFor c = true
     ·have HA : Hid (x.isAny = false ∧ x.isFor c = true) := ⟨hax', hfx⟩
      generalize x.val = xv at hc hisany hisfor
      rw [hax'] at hisany
      rw [hfx] at hisfor
      clear hax' hfx
      go_wp2_with (first | (go_at_call 135; refine hisany.mono ?_; rintro e w' ⟨rfl, rfl⟩) | (go_at_call 136; refine hisfor.mono ?_; rintro e W5 ⟨rfl, hb5⟩))
      have hszW := hb5.size
      have hsl5 : Signs n₀ W5 _ l := SlAt.below (hb5.mono (by omega)) hsl3
      have hT5 := SetAt.below hT3 hb5 (by omega)
      have hrg5 := hrg3.below hb5 (by omega) (by omega)
      have hB5 := hB3.trans (hb5.mono (by omega))
      refine (sput_any (some ⟨bb, off, none⟩) l.length cap l (k + 1) w.heap.size (l.length + 1) n₀ T W5 hsl5 hT5 hn₀ (by omega) (by omega) (by omega)).mono ?_
      rintro e W4 ⟨⟨v, rfl⟩, hT4, hg4⟩
      go_wp2_with fail
      go_roundw
      case rel =>
       refine ⟨_, cnt', _, hrg5.kept hg4 (fun e => by have := Option.some.inj e; omega) (fun e => by have := Option.some.inj e; omega), SetAt.tight Tryz.underlying3 hT4 (fun j hj h => ?_), fun j hj => ?_, hB5.grown hg4 (by omega) (fun j e => by cases e; exact Nat.le_refl _)⟩
       ·simp only [Bool.or_eq_true] at h
        rcases h with h | h
        ·exact HTd.out j hj h
        ·exact cloB_dom l _ (by omega) j h
       ·rw [HV.out j hj, HST.out j]; simp [HA.out.1, HA.out.2]
      case measure => rw [(hrg5.kept hg4 (fun e => by have := Option.some.inj e; omega) (fun e => by have := Option.some.inj e; omega)).left_eq, hcnt]; exact hlt
     ·have hfx' : x.isFor c = false := by simpa using hfx
      have HA : Hid (x.isAny = false ∧ x.isFor c = false) := ⟨hax', hfx'⟩
      generalize x.val = xv at hc hisany hisfor
      rw [hax'] at hisany
      rw [hfx'] at hisfor
      clear hax' hfx' hfx
      go_wp2_with (first | (go_at_call 135; refine hisany.mono ?_; rintro e w' ⟨rfl, rfl⟩) | (go_at_call 136; refine hisfor.mono ?_; rintro e W5 ⟨rfl, hb5⟩))
      have hszW := hb5.size
      have hT5 := SetAt.below hT3 hb5 (by omega)
      have hrg5 := hrg3.below hb5 (by omega) (by omega)
      go_roundw
      case rel =>
       refine ⟨_, cnt', T, hrg5, hT5, fun j hj => ?_, hB3.trans (hb5.mono (by omega))⟩
       rw [HV.out j hj, HST.out j]; simp [HA.out.1, HA.out.2]
      case measure => rw [hrg5.left_eq, hcnt]; exact hlt
end Go.Proofs.YthbhmnakmhambaaGreatDoor
namespace Go.Proofs.YthbhmnakmhambaaGreatDoor
open Go Go.RowKit Go.Shelf
def signGo : Bool → List Int → List Sign × Bool
 | q, [] => ([], q)
 | true, c :: cs => (.that c :: (signGo false cs).1, (signGo false cs).2)
 | false, c :: cs => if c == 42 then (.any :: (signGo false cs).1, (signGo false cs).2) else if c == 63 then (.one :: (signGo false cs).1, (signGo false cs).2)
   else if c == 126 then signGo true cs else (.that c :: (signGo false cs).1, (signGo false cs).2)
def runesC (s : ByteArray) (pos : Nat) : List Int := (rl s pos).map (·.2)
theorem runesC_step (s : ByteArray) (pos : Nat) (h : pos < s.size) : runesC s pos = ((Utf8.decode s pos).1 : Int) :: runesC s (pos + (Utf8.decode s pos).2) := by simp [runesC, rl_step s pos h]
theorem runesC_end (s : ByteArray) (pos : Nat) (h : ¬ pos < s.size) : runesC s pos = [] := by simp [runesC, rl_end s pos h]
def signsOf (p : ByteArray) : Option (List Sign) := if scValue p then (if (signGo false (runesC p 0)).2 then none else some (signGo false (runesC p 0)).1) else none
theorem signGo_len : ∀ (q : Bool) (cs : List Int), (signGo q cs).1.length ≤ cs.length
 | q, [] => by cases q <;> simp [signGo]
 | true, c :: cs => by have := signGo_len false cs; simp [signGo]; omega
 | false, c :: cs => by
  have h1 := signGo_len false cs
  have h2 := signGo_len true cs
  simp only [signGo]
  repeat' split
  all_goals (simp; omega)
theorem scValue_runes (p : ByteArray) (h : scValue p = true) : (rl p 0).length ≤ 24 := by
 simp only [scValue, labRight, labGo, Bool.and_eq_true, isValueS, runesN, decide_eq_true_eq] at h
 have h1 := h.2.1.2.1.1
 have h2 := h.2.1.2.1.2
 rw [h1] at h2
 simp at h2
 omega
theorem signsOf_len (p : ByteArray) (l : List Sign) (h : signsOf p = some l) : l.length ≤ 24 := by
 unfold signsOf at h
 split at h
 ·rename_i hv
  split at h
  ·cases h
  ·cases h
   have := signGo_len false (runesC p 0)
   have := scValue_runes p hv
   simp [runesC] at *
   omega
 ·cases h
def SignsPost (p : ByteArray) (w : World) (e : Ending) (w' : World) : Prop :=
 ∃ a len cap, e = .returned (.tuple #[.slice a len cap, .bool (signsOf p).isSome]) ∧ Signs w'.heap.size w' (.slice a len cap) ((signsOf p).getD []) ∧ Below w.heap.size w w'
theorem info_sign : (Tryz.prog.info? 234).map (fun i => (i.zero, i.size, i.bytes)) = some (some .nilIface, 1, 16) := by kernel_rfl
theorem und_signs : Tryz.prog.underlying 195 = some (.slice 234) := by kernel_rfl
theorem sign_one (x : Sign) : x.val.oneCell' = true := by cases x <;> rfl
def SignsRel (p : ByteArray) (w0 : World) (N : Nat) (v q : Value) (wr : World) : Prop :=
 ∃ pos acc qb, wr.heap[N]? = some (.stringIter p pos) ∧ wr.ownsRow (N + 1) 234 1 v acc.length (acc.map Sign.val) ∧ Below N w0 wr ∧ q = .bool qb ∧ acc.length ≤ pos ∧
  (acc ++ (signGo qb (runesC p pos)).1, (signGo qb (runesC p pos)).2) = signGo false (runesC p 0)
theorem signs_more {p : ByteArray} {w0 W1 : World} {N pos : Nat} {acc : List Sign} {v : Value} (hit : W1.heap[N]? = some (.stringIter p pos)) (hown : W1.ownsRow (N + 1) 234 1 v acc.length (acc.map Sign.val)) (hB : Below N w0 W1) (hacc : acc.length < 4294967281) (x : Sign) :
  ∃ g cap w1, (Builtin.append_ #[195, 195] 195 #[v, .slice (some ⟨W1.heap.size, 0, none⟩) 1 1]).run Tryz.prog (W1.alloc (.cells #[x.val] 234)) = .ok (.slice (some ⟨g, 0, none⟩) (acc.length + 1) cap) w1 ∧
   w1.heap[N]? = some (.stringIter p pos) ∧ w1.ownsRow (N + 1) 234 1 (.slice (some ⟨g, 0, none⟩) (acc.length + 1) cap) (acc ++ [x]).length ((acc ++ [x]).map Sign.val) ∧ Below N w0 w1 := by
 have hlt := (Array.getElem?_eq_some_iff.1 hit).1
 obtain ⟨g, cap, w1, h1, h2, h3, h4, h5, h6⟩ := append_one Tryz.prog 195 und_signs info_sign rfl (by decide) hown hB (Nat.le_succ N) (by omega) [x.val] rfl (by simp [sign_one]) hacc (by decide)
 refine ⟨g, cap, w1, h1, (h5 N (by omega)).trans hit, ?_, h3⟩
 simpa using h2
set_option maxRecDepth 100000 in
set_option maxHeartbeats 2000000 in
theorem signs_any (p : ByteArray) (w : World) (hp : p.size < 4294967281) (hG : GW w) : Calls Tryz.prog 114 #[.string p] w (SignsPost p w) := by
 have hV := scIsValue_any p w hp hG
 by_cases hv : scValue p = true
 ·rw [hv] at hV
  have HV := Lib.hid hv
  clear hv
  go_enter Tryz.func114, Tryz.ntmps114
  go_wp2_with (go_at_call 133; refine hV.mono ?_; rintro e w1 ⟨rfl, hb1⟩)
  clear hV
  go_loopw [4, 5] (SignsRel p w1 w1.heap.size) (fun _ _ wr => p.size - wr.iterPos w1.heap.size)
  case atStart => exact ⟨0, [], false, World.iter_heap w1 p 0, World.ownsRow_nil _ _ _ _, (Below.refl _ _).alloc (Nat.le_refl _) _, rfl, Nat.le_refl _, rfl⟩
  case round =>
   obtain ⟨pos, acc, qb, hit, hown, hB, rfl, hacc, hspec⟩ := hrel
   have HS := Lib.hid hspec
   clear hspec
   have hpos0 := iterPos_of hit
   by_cases hps : pos < p.size
   ·obtain ⟨W1, hnx, hit2, hB2, hsz2, hoth⟩ := next_str (P := Tryz.prog) hit hB (Nat.le_refl _) hps
    have hd := dec_pos p pos hps
    have hst := Lib.hid (runesC_step p pos hps)
    have hown2 : W1.ownsRow (w1.heap.size + 1) 234 1 u4 acc.length (acc.map Sign.val) := owns_of_blocks hown (fun j hj _ => hoth j (by omega))
    generalize ((Utf8.decode p pos).1 : Int) = c at hnx hst
    clear hit hB hown hoth hsz2
    cases qb with
    | true =>
     obtain ⟨g, cap, w3, hap, hit3, hown3, hB3⟩ := signs_more hit2 hown2 hB2 (by omega) (.that c)
     clear hown2 hB2
     simp only [Sign.val] at hap
     go_wp2_with (at_builtin; refine wp_append_eq rfl _ _ _ rfl rfl rfl hap ?_)
     go_roundw
     case rel => exact ⟨_, acc ++ [.that c], false, hit3, by simpa using hown3, hB3, rfl, by simp; omega, by rw [← HS.out, hst.out]; simp [signGo]⟩
     case measure => rw [iterPos_of hit3, hpos0]; omega
    | false =>
     have HC := Lib.hid hst.out
     by_cases h1 : (c == 42) = true
     ·obtain rfl : c = 42 := by simpa using h1
      obtain ⟨g, cap, w3, hap, hit3, hown3, hB3⟩ := signs_more hit2 hown2 hB2 (by omega) (.any)
      clear hown2 hB2
      simp only [Sign.val] at hap
      go_wp2_with (at_builtin; refine wp_append_eq rfl _ _ _ rfl rfl rfl hap ?_)
      go_roundw
      case rel => exact ⟨_, acc ++ [.any], false, hit3, by simpa using hown3, hB3, rfl, by simp; omega, by rw [← HS.out, hst.out]; simp [signGo]⟩
      case measure => rw [iterPos_of hit3, hpos0]; omega
     have h1' : (c == 42) = false := by simpa using h1
     clear h1
     by_cases h2 : (c == 63) = true
     ·obtain rfl : c = 63 := by simpa using h2
      obtain ⟨g, cap, w3, hap, hit3, hown3, hB3⟩ := signs_more hit2 hown2 hB2 (by omega) (.one)
      clear hown2 hB2
      simp only [Sign.val] at hap
      go_wp2_with (at_builtin; refine wp_append_eq rfl _ _ _ rfl rfl rfl hap ?_)
      go_roundw
      case rel => exact ⟨_, acc ++ [.one], false, hit3, by simpa using hown3, hB3, rfl, by simp; omega, by rw [← HS.out, hst.out]; simp [signGo]⟩
      case measure => rw [iterPos_of hit3, hpos0]; omega
     have h2' : (c == 63) = false := by simpa using h2
     clear h2
     by_cases h3 : (c == 126) = true
     ·obtain rfl : c = 126 := by simpa using h3
      go_wp2_with fail
      go_roundw
      case rel => exact ⟨_, acc, true, hit2, hown2, hB2, rfl, by omega, by rw [← HS.out, hst.out]; simp [signGo]⟩
      case measure => rw [iterPos_of hit2, hpos0]; omega
     have h3' : (c == 126) = false := by simpa using h3
     clear h3
     have H3 : Hid ((c == 42) = false ∧ (c == 63) = false ∧ (c == 126) = false) := ⟨h1', h2', h3'⟩
     obtain ⟨g, cap, w3, hap, hit3, hown3, hB3⟩ := signs_more hit2 hown2 hB2 (by omega) (.that c)
     clear hown2 hB2
     simp only [Sign.val] at hap
     go_wp2_with (at_builtin; refine wp_append_eq rfl _ _ _ rfl rfl rfl hap ?_)
     go_roundw
     case rel => exact ⟨_, acc ++ [.that c], false, hit3, by simpa using hown3, hB3, rfl, by simp; omega, by rw [← HS.out, hst.out]; simp [signGo, H3.out.1, H3.out.2.1, H3.out.2.2]⟩
     case measure => rw [iterPos_of hit3, hpos0]; omega
   ·have hnx : ∀ ty, (Instr.next (.pointer (some ⟨w1.heap.size, 0, none⟩)) true ty).run Tryz.prog wr = _ := fun ty => Lib.run_next_end_at wr w1.heap.size p pos ty hit hps
    have hend := Lib.hid (runesC_end p pos hps)
    have hsz := hb1.size
    have hbf := hb1.trans (hB.mono hsz)
    cases qb with
    | true =>
     go_wp2_with fail
     go_ret2
     have h5 : signsOf p = none := by simp [signsOf, HV.out, ← HS.out, hend.out, signGo]
     exact ⟨none, 0, 0, by rw [h5]; rfl, by rw [h5]; exact .inl ⟨rfl, rfl, rfl⟩, hbf⟩
    | false =>
     go_wp2_with fail
     go_ret2
     have h5 : signsOf p = some acc := by simp [signsOf, HV.out, ← HS.out, hend.out, signGo]
     have h6 := slAt_of_owns hown
     rcases id h6 with ⟨rfl, h7, _⟩ | ⟨b, off, cap, rfl, _⟩
     ·exact ⟨none, 0, 0, by rw [h5]; rfl, by rw [h5]; simpa [Signs] using h6, hbf⟩
     ·exact ⟨some ⟨b, off, none⟩, _, _, by rw [h5]; rfl, by rw [h5]; simpa [Signs] using h6, hbf⟩
 ·have hv' : scValue p = false := by simpa using hv
  rw [hv'] at hV
  have HV := Lib.hid hv'
  clear hv hv'
  go_enter Tryz.func114, Tryz.ntmps114
  go_wp2_with (go_at_call 133; refine hV.mono ?_; rintro e w1 ⟨rfl, hb1⟩)
  go_ret2
  have h5 : signsOf p = none := by simp [signsOf, HV.out]
  exact ⟨none, 0, 0, by rw [h5]; rfl, by rw [h5]; exact .inl ⟨rfl, rfl, rfl⟩, hb1⟩
end Go.Proofs.YthbhmnakmhambaaGreatDoor
namespace Go.Proofs.YthbhmnakmhambaaGreatDoor
open Go Go.RowKit Go.Shelf
theorem set_block {w w' : World} {b n : Nat} {S : Int → Bool} (h : PSet w b n S) (hb : w'.heap[b]? = w.heap[b]?) : PSet w' b n S := by
 obtain ⟨D, ⟨es, clock, h1, h2, h3, h4⟩, h5⟩ := h
 exact ⟨D, ⟨es, clock, hb.trans h1, h2, h3, h4⟩, h5⟩
theorem set_ne {w : World} {b n k : Nat} {S : Int → Bool} {s : ByteArray} {p : Nat} (h : PSet w b n S) (hk : w.heap[k]? = some (.stringIter s p)) : b ≠ k := by
 obtain ⟨D, ⟨es, clock, h1, _⟩, _⟩ := h
 intro e
 subst e
 rw [h1] at hk
 cases hk
def isPatS (p : ByteArray) : Bool := (signsOf p).isSome
theorem IsPattern_any (p : ByteArray) (w : World) (hp : p.size < 4294967281) (hG : GW w) : Calls Tryz.prog 113 #[.string p] w fun e w' => e = .returned (.bool (isPatS p)) ∧ Below w.heap.size w w' := by
 have hS := signs_any p w hp hG
 go_enter Tryz.func113, Tryz.ntmps113
 go_wp2_with (go_at_call 114; refine hS.mono ?_; rintro e w1 ⟨a, len, cap, rfl, -, hb1⟩)
 go_ret
 exact ⟨rfl, hb1⟩
def fitsRun (l : List Sign) (S : Int → Bool) : List Int → Int → Bool
 | [] => S
 | c :: cs => fitsRun l (behindB l S c) cs
def fitsS (p v : ByteArray) : Bool := match signsOf p with
 | none => false
 | some l => runesOk v && fitsRun l (cloB l 0) (runesC v 0) (l.length : Int)
theorem fitsRun_none (l : List Sign) (hl : l.length ≤ 24) : ∀ (cs : List Int) (S : Int → Bool), (∀ i, wfI i → S i = false) → ∀ j, wfI j → fitsRun l S cs j = false
 | [], S, h, j, hj => h j hj
 | c :: cs, S, h, j, hj => by
  refine fitsRun_none l hl cs _ (fun i _ => ?_) j hj
  unfold behindB
  rw [List.any_eq_false]
  intro a ha
  have := List.mem_range.1 ha
  rw [h a (wfI_of (by omega) (by omega))]; simp
def FitsRel (l : List Sign) (v : ByteArray) (sv : Value) (w1 : World) (N : Nat) (m : Value) (wr : World) : Prop :=
 ∃ (pos mb : Nat) (S : Int → Bool), m = .map (some mb) ∧ PSet wr mb (l.length + 1) S ∧ (∀ i, wfI i → S i = true → 0 ≤ i ∧ i < (l.length + 1 : Nat)) ∧ wr.heap[N]? = some (.stringIter v pos) ∧ Below w1.heap.size w1 wr ∧ Signs w1.heap.size wr sv l ∧
  fitsRun l (cloB l 0) (runesC v 0) = fitsRun l S (runesC v pos)
set_option maxRecDepth 100000 in
set_option maxHeartbeats 2000000 in
theorem Fits_any (p v : ByteArray) (w : World) (hp : p.size < 4294967281) (hv : v.size < 4294967281) (hG : GW w) : Calls Tryz.prog 90 #[.string p, .string v] w fun e w' => e = .returned (.bool (fitsS p v)) ∧ Below w.heap.size w w' := by
 have hS := signs_any p w hp hG
 cases hso : signsOf p with
 | none =>
  unfold SignsPost at hS
  rw [hso] at hS
  have HS := Lib.hid hso
  clear hso
  go_enter Tryz.func90, Tryz.ntmps90
  go_wp2_with fail
  go_step3
  go_wp2_with (go_at_call 114; refine hS.mono ?_; rintro e w1 ⟨a, len, cap, rfl, -, hb1⟩)
  rw [Exit.noGoto_ret]
  go_ret
  exact ⟨by simp [fitsS, HS.out], hb1⟩
 | some l =>
  have hlen := signsOf_len p l hso
  unfold SignsPost at hS
  rw [hso] at hS
  have HS := Lib.hid hso
  clear hso
  by_cases hr : runesOk v = true
  ·have HR := Lib.hid hr
   have hmm := @run_makeMap Tryz.prog
   go_enter Tryz.func90, Tryz.ntmps90
   go_wp2_with fail
   go_step3
   go_wp2_with (go_at_call 114; refine hS.mono ?_; rintro e w1 ⟨a, len, cap, rfl, hsg, hb1⟩)
   have hlen' := hsg.cell.1
   simp only [Option.getD_some] at hlen' hsg
   subst hlen'
   have hRn := Runes_any v w1 (by unfold maxLen; omega) (hG.below hb1)
   rw [hr] at hRn
   refine hRn.mono ?_
   rintro e w2 ⟨rfl, hb2⟩
   have hT := setAt_new (P := Tryz.prog) (kt := 3) w2
   have hB3 : Below w2.heap.size w2 (w2.alloc (.map #[] 0)) := (Below.refl _ w2).alloc (Nat.le_refl _) _
   have hsg3 : Signs w1.heap.size (w2.alloc (.map #[] 0)) _ l := SlAt.below (hb2.trans (hB3.mono hb2.size)) hsg
   have hput := sput_any a l.length cap l 0 w2.heap.size 0 w1.heap.size _ _ hsg3 hT hb2.size (Nat.zero_le _) (by omega) (by omega)
   clear hRn hS hr hT
   go_wp2_with (go_at_call 116; refine hput.mono ?_; rintro e w4 ⟨⟨v4, rfl⟩, hT4, hg4⟩)
   go_step3
   go_wp2_with fail
   have hsz2 := hb2.size
   have hsz4 := hg4.size
   rw [World.size_alloc] at hsz4
   have hB4 : Below w1.heap.size w1 w4 := (hb2.trans (hB3.mono hsz2)).grown hg4 (by rw [World.size_alloc]; omega) (fun k e => by cases e; omega)
   have hBi : Below w1.heap.size w1 (w4.iter v 0) := hB4.alloc (by omega) _
   have hT0 : PSet (w4.iter v 0) w2.heap.size (l.length + 1) (cloB l 0) := ((hT4.kept (World.grownBy_alloc w4 _ none) (by simp)).congr (fun j _ => by simp)).mono (by omega)
   clear hput hmm
   go_loopw [9] (FitsRel l v (.slice a l.length cap) w1 w4.heap.size) (fun _ wr => v.size - wr.iterPos w4.heap.size)
   case atStart => exact ⟨0, w2.heap.size, cloB l 0, rfl, hT0, fun i _ h => cloB_dom l 0 (Nat.zero_le _) i h, World.iter_heap w4 v 0, hBi, SlAt.below hBi hsg, rfl⟩
   case round =>
    obtain ⟨pos, mb, S, rfl, hT, hdom, hit, hB, hsgr, hspec⟩ := hrel
    have HSP := Lib.hid hspec
    have HD := Lib.hid hdom
    clear hspec hdom hT0 hBi hT4
    have hpos0 := iterPos_of hit
    have hNlt := (Array.getElem?_eq_some_iff.1 hit).1
    by_cases hps : pos < v.size
    ·obtain ⟨W1, hnx, hit2, hB2, hszW, hoth⟩ := next_str (P := Tryz.prog) hit hB (by omega) hps
     have hd := dec_pos v pos hps
     have hst := Lib.hid (runesC_step v pos hps)
     have hT2 : PSet W1 mb (l.length + 1) S := set_block hT (hoth mb (set_ne hT hit))
     have hbe := sbehind_any a l.length cap l ((Utf8.decode v pos).1 : Int) mb (l.length + 1) w1.heap.size S W1 (SlAt.below hB2 hsg) hT2 hB2.size HD.out (by omega)
     generalize ((Utf8.decode v pos).1 : Int) = c at hnx hst hbe
     clear hT hit hB hoth hszW
     go_wp2_with (go_at_call 117; refine hbe.mono ?_; rintro e W5 ⟨nb, rfl, hnb, hT5, hb5⟩)
     obtain ⟨kk, hln, hk0⟩ := SetAt.len Tryz.underlying3 und_places hT5
     have hln' := hln 3
     clear hln
     rw [hln']
     clear hln'
     have hit5 : W5.heap[w4.heap.size]? = some (.stringIter v (pos + (Utf8.decode v pos).2)) := (hb5.block _ (Array.getElem?_eq_some_iff.1 hit2).1).trans hit2
     have hB5 := hB2.trans (hb5.mono hB2.size)
     have hbf : Below w.heap.size w W5 := hb1.trans (hB5.mono hb1.size)
     have HB := Lib.hid (HSP.out.trans (by rw [hst.out]; rfl : fitsRun l S (runesC v pos) = fitsRun l (behindB l S c) (runesC v (pos + (Utf8.decode v pos).2))))
     clear hbe hT2
     by_cases hkk : kk = 0
     ·have hk1 : ((kk : Int) == 0) = true := by simp [hkk]
      have HK := Lib.hid (hk0.1 hkk)
      clear hkk hk0
      have hlook := SetAt.look Tryz.underlying3 und_places zero_unit hT5 (i := l.length) (wfI_of (by omega) (by omega))
      go_wp2_with fail
      rw [Exit.noGoto_ret]
      go_ret
      refine ⟨?_, hbf⟩
      have hwl : wfI (l.length : Int) := wfI_of (by omega) (by omega)
      have h9 : fitsS p v = false := by simp only [fitsS, HS.out, HR.out, HB.out, Bool.true_and]; exact fitsRun_none l hlen _ _ HK.out _ hwl
      rw [h9]
      show Ending.returned (.bool (behindB l S c l.length)) = _
      rw [HK.out _ hwl]
     ·have hk1 : ((kk : Int) == 0) = false := by rw [beq_eq_false_iff_ne]; omega
      clear hkk hk0
      go_wp2_with fail
      go_roundw
      case rel => exact ⟨_, nb, _, rfl, hT5, fun i _ h => behindB_dom l S c i h, hit5, hB5, SlAt.below hB5 hsg, HB.out⟩
      case measure => rw [iterPos_of hit5, hpos0]; omega
    ·have hnx : ∀ ty, (Instr.next (.pointer (some ⟨w4.heap.size, 0, none⟩)) true ty).run Tryz.prog wr = _ := fun ty => Lib.run_next_end_at wr w4.heap.size v pos ty hit hps
     have hlook := SetAt.look Tryz.underlying3 und_places zero_unit hT (i := l.length) (wfI_of (by omega) (by omega))
     go_wp2_with fail
     rw [Exit.noGoto_ret]
     go_ret
     have h9 : fitsS p v = S (l.length : Int) := by simp only [fitsS, HS.out, HR.out, HSP.out, Bool.true_and, runesC_end v pos hps]; rfl
     exact ⟨by rw [h9]; rfl, hb1.trans (hB.mono hb1.size)⟩
  ·have hr' : runesOk v = false := by simpa using hr
   have HR := Lib.hid hr'
   clear hr
   go_enter Tryz.func90, Tryz.ntmps90
   go_wp2_with fail
   go_step3
   go_wp2_with (go_at_call 114; refine hS.mono ?_; rintro e w1 ⟨a, len, cap, rfl, hsg, hb1⟩)
   have hRn := Runes_any v w1 (by unfold maxLen; omega) (hG.below hb1)
   rw [hr'] at hRn
   refine hRn.mono ?_
   rintro e w2 ⟨rfl, hb2⟩
   clear hRn hS hr'
   go_wp2_with fail
   rw [Exit.noGoto_ret]
   go_ret
   exact ⟨by simp [fitsS, HS.out, HR.out], hb1.trans (hb2.mono hb1.size)⟩
end Go.Proofs.YthbhmnakmhambaaGreatDoor
namespace Go.Proofs.YthbhmnakmhambaaGreatDoor
open Go Go.RowKit Go.Shelf
set_option maxRecDepth 100000 in
set_option maxHeartbeats 1000000 in
theorem New_no (n : Int) (h1 : (n == 1) = false) (h2 : (n == 2) = false) (h3 : (n == 3) = false) (w : World) : Calls Tryz.prog 30 #[.int .i64 n] w fun e w' => e = .returned (.tuple #[.agg #[.int .i64 0, .int .i64 0, .slice none 0 0, .int .i64 0, .string ⟨#[]⟩, .int .i64 0, .int .i64 0, .slice none 0 0, .int .i64 0, .slice none 0 0], .int .i64 101]) ∧ Below w.heap.size w w' := by
 obtain ⟨W0, hW0, hXr, hXx, hB0, hs0⟩ := boxes2 w #[.int .i64 0, .int .i64 0, .slice none 0 0, .int .i64 0, .string ⟨#[]⟩, .int .i64 0, .int .i64 0, .slice none 0 0, .int .i64 0, .slice none 0 0] 39 #[.int .i64 n, .int .i64 0, .slice none 0 0, .int .i64 0, .string ⟨#[]⟩, .int .i64 0, .int .i64 0, .slice none 0 0, .int .i64 0, .slice none 0 0] 39
 obtain ⟨c0, c1, c2, c3, c4, c5, c6, c7, c8, c9⟩ := cl10 hXx
 obtain ⟨f0, f1, f2, f3, f4, f5, f6, f7, f8, f9⟩ := cz10 hXx
 have e1 : W0.setCell ⟨w.heap.size + 1, 1, none⟩ (.int .i64 0) = W0 := set_same hXx rfl
 have e2 : W0.setCell ⟨w.heap.size + 1, 2, none⟩ (.slice none 0 0) = W0 := set_same hXx rfl
 have e3 : W0.setCell ⟨w.heap.size + 1, 3, none⟩ (.int .i64 0) = W0 := set_same hXx rfl
 have e4 : W0.setCell ⟨w.heap.size + 1, 4, none⟩ (.string ⟨#[]⟩) = W0 := set_same hXx rfl
 have e5 : W0.setCell ⟨w.heap.size + 1, 5, none⟩ (.int .i64 0) = W0 := set_same hXx rfl
 have e6 : W0.setCell ⟨w.heap.size + 1, 6, none⟩ (.int .i64 0) = W0 := set_same hXx rfl
 have e7 : W0.setCell ⟨w.heap.size + 1, 7, none⟩ (.slice none 0 0) = W0 := set_same hXx rfl
 have e8 : W0.setCell ⟨w.heap.size + 1, 8, none⟩ (.int .i64 0) = W0 := set_same hXx rfl
 have e9 : W0.setCell ⟨w.heap.size + 1, 9, none⟩ (.slice none 0 0) = W0 := set_same hXx rfl
 obtain ⟨r0, r1, r2, r3, r4, r5, r6, r7, r8, r9⟩ := cl10 hXr
 obtain ⟨g0, g1, g2, g3, g4, g5, g6, g7, g8, g9⟩ := cz10 hXr
 have d0 : W0.setCell ⟨w.heap.size, 0, none⟩ (.int .i64 0) = W0 := set_same hXr rfl
 have d1 : W0.setCell ⟨w.heap.size, 1, none⟩ (.int .i64 0) = W0 := set_same hXr rfl
 have d2 : W0.setCell ⟨w.heap.size, 2, none⟩ (.slice none 0 0) = W0 := set_same hXr rfl
 have d3 : W0.setCell ⟨w.heap.size, 3, none⟩ (.int .i64 0) = W0 := set_same hXr rfl
 have d4 : W0.setCell ⟨w.heap.size, 4, none⟩ (.string ⟨#[]⟩) = W0 := set_same hXr rfl
 have d5 : W0.setCell ⟨w.heap.size, 5, none⟩ (.int .i64 0) = W0 := set_same hXr rfl
 have d6 : W0.setCell ⟨w.heap.size, 6, none⟩ (.int .i64 0) = W0 := set_same hXr rfl
 have d7 : W0.setCell ⟨w.heap.size, 7, none⟩ (.slice none 0 0) = W0 := set_same hXr rfl
 have d8 : W0.setCell ⟨w.heap.size, 8, none⟩ (.int .i64 0) = W0 := set_same hXr rfl
 have d9 : W0.setCell ⟨w.heap.size, 9, none⟩ (.slice none 0 0) = W0 := set_same hXr rfl
 have HBV := Lib.hid hB0
 clear hXr hXx hB0
 go_enter Tryz.func30, Tryz.ntmps30
 go_wp2_with fail
 exact bodyPost_ret (v := .tuple #[.agg #[.int .i64 0, .int .i64 0, .slice none 0 0, .int .i64 0, .string ⟨#[]⟩, .int .i64 0, .int .i64 0, .slice none 0 0, .int .i64 0, .slice none 0 0], .int .i64 101]) (by simp [results, Tryz.f30, go_sem, r0, r1, r2, r3, r4, r5, r6, r7, r8, r9]) rfl ⟨rfl, HBV.out⟩
end Go.Proofs.YthbhmnakmhambaaGreatDoor

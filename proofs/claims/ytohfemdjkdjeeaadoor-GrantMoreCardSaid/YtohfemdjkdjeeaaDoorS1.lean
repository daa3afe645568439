/- Package label: Get. Package scope: names, values, patterns' signs. -/
import Derived.Test.YtohfemdjkdjeeaaDoorL2
namespace Go.Proofs.YtohfemdjkdjeeaaDoor
open Go Go.RowKit Go.Shelf
attribute [local go_sem] Oper.semAt_some

def labGet : List Lab → ByteArray → Option ByteArray
  | [], _ => none
  | x :: xs, n => if x.name.toList == n.toList then some x.value else labGet xs n
theorem labGet_snoc_none (ls : List Lab) (n : ByteArray) (x : Lab) (h : labGet ls n = none) : labGet (ls ++ [x]) n = if x.name.toList == n.toList then some x.value else none := by
  induction ls with
  | nil => rfl
  | cons y ys ih =>
    simp only [labGet, List.cons_append] at h ⊢
    split at h
    · cases h
    · rename_i hy; simp [hy, ih h]
theorem labGet_prefix (ps ls : List Lab) (n v : ByteArray) (hp : ps <+: ls) (h : labGet ps n = some v) : labGet ls n = some v := by
  obtain ⟨t, rfl⟩ := hp
  induction ps with
  | nil => simp [labGet] at h
  | cons y ys ih =>
    simp only [labGet, List.cons_append] at h ⊢
    split
    · rename_i hy; simpa [hy] using h
    · rename_i hy; exact ih (by simpa [hy] using h)

set_option maxRecDepth 100000 in
set_option maxHeartbeats 1000000 in
theorem label_Get_any (a0 : Option Addr) (cap : Nat) (ls : List LabK) (nm : ByteArray) (w : World) (hL : Labs w.heap.size w (.slice a0 ls.length cap) (ls.map (·.1))) (h3 : ls.length < 4294967281) :
    Calls Tryd.prog 24 #[.slice a0 ls.length cap, .string nm] w fun e w' => e = .returned (.tuple #[.string ((labGet (ls.map (·.1)) nm).getD ⟨#[]⟩), .bool (labGet (ls.map (·.1)) nm).isSome]) ∧ Below w.heap.size w w' := by
  refine calls_marks Tryd.func24 rfl ?_
  simp only [Tryd.ntmps24, List.size_toArray, List.length_cons, List.length_nil, Nat.reduceAdd, Nat.reduceSub, Array.replicate_succ, Array.replicate_zero, List.push_toArray, List.append_toArray, List.nil_append, List.cons_append]
  go_wp2_with (go_at_call 30; refine (each_any _ _ _ _).mono ?_; rintro e w' ⟨rfl, rfl⟩)
  obtain ⟨W0, hW0, b0, b1, b2, b3, hB0, hsz⟩ := box4 w (.string nm) 9 (.string ⟨#[]⟩) 9 (.bool false) 4 (.slice a0 ls.length cap) 26
  rw [hW0]
  clear hW0
  refine wp_range_box 43 (fun x : LabK => #[.string x.1.name, .string x.1.value]) 6 (gf := 49) (lb := #[.pointer (some ⟨w.heap.size + 3, 0, none⟩)]) rfl (enters_of Tryd.func49 (by kernel_rfl) rfl)
    (values_lab (w.heap.size + 3) w.heap.size _ ls h3 W0 (by omega) (by omega) b3.cell (SlAt.below hB0 hL)) (by omega) (Below.refl _ _) (fun _ => rfl)
    (fun pre W => Boxed W w.heap.size 9 (.string nm) ∧ Boxed W (w.heap.size + 1) 9 (.string ⟨#[]⟩) ∧ Boxed W (w.heap.size + 2) 4 (.bool false) ∧ labGet (pre.map (·.1)) nm = none ∧ Below w.heap.size w W)
    (fun c pre W => (∃ v, Boxed W (w.heap.size + 1) 9 (.string v) ∧ labGet (pre.map (·.1)) nm = some v) ∧ Boxed W (w.heap.size + 2) 4 (.bool true) ∧ c = .ret ∧ Below w.heap.size w W)
    ((ownBox _ _ _ _).and ((ownBox _ _ _ _).and ((ownBox _ _ _ _).and ((ownFrom_pure _ _).and (ownFrom_below (Nat.le_refl _) (by omega))))))
    (fun c => OwnFrom.and (fun s X Y row hs hg hr => by obtain ⟨v, h1, h2⟩ := hs; exact ⟨v, ownBox _ _ _ (fun _ => .string v) s X Y row h1 hg hr, h2⟩) ((ownBox _ _ _ _).and ((ownFrom_pure _ _).and (ownFrom_below (Nat.le_refl _) (by omega)))))
    ⟨b0, b1, b2, rfl, hB0⟩ ?assign ?body ?done ?stop
  case assign =>
    rintro l pre x W K ⟨hb1, hb2, hb3, hg, hB⟩ hs hK
    simp only [List.zip_toArray, List.zip_cons_cons, List.zip_nil_right, List.size_toArray, List.foldl_toArray', List.foldl_cons, List.foldl_nil, List.setIfInBounds_toArray, List.set_cons_succ, List.set_cons_zero] at hK ⊢
    gi_wp2
    exact ⟨hb1.alloc _, hb2.alloc _, hb3.alloc _, hg, hB.alloc hB.size _⟩
  case body =>
    rintro l pre x W Bx ⟨hb1, hb2, hb3, hg, hB⟩ hBx hBl hx hlt
    have c0 := cell_of_cells hx 0
    have c1 := cell_of_cells hx 1
    have c2 := hb1.cell
    have c3 := hb2.cell
    have c4 := hb3.cell
    have c5 := hb2.frozen
    have c6 := hb3.frozen
    simp at c0 c1
    simp only [List.zip_toArray, List.zip_cons_cons, List.zip_nil_right, List.size_toArray, List.foldl_toArray', List.foldl_cons, List.foldl_nil, List.setIfInBounds_toArray, List.set_cons_succ, List.set_cons_zero]
    have hsn := Lib.hid (labGet_snoc_none (pre.map (·.1)) nm x.1 hg)
    clear hsz hx hg
    by_cases he : (x.1.name.toList == nm.toList) = true
    · gi_wp2_with fail
      have HS := hsn.out
      rw [if_pos he] at HS
      refine ⟨((KeepsOthers.setCell _ _ _).from _).trans ((KeepsOthers.setCell _ _ _).from _), ⟨x.1.value, (hb2.set _).other (by omega) _, by rw [List.map_append, List.map_singleton]; exact HS⟩, (hb3.other (by omega) _).set _, rfl, (hB.setCell (p := ⟨w.heap.size + 1, 0, none⟩) (Nat.le_succ _) _).setCell (p := ⟨w.heap.size + 2, 0, none⟩) (Nat.le_add_right _ _) _⟩
    · have he' : (x.1.name.toList == nm.toList) = false := by simpa using he
      gi_wp2_with fail
      have HS := hsn.out
      rw [if_neg he] at HS
      exact ⟨KeepsFrom.refl _ _, Below.refl _ _, hb1, hb2, hb3, by rw [List.map_append, List.map_singleton]; exact HS, hB⟩
  case done =>
    rintro D W hD ⟨hb1, hb2, hb3, hg, hB⟩ hK
    have c3 := hb2.cell
    have c4 := hb3.cell
    have c5 := hb2.frozen
    have c6 := hb3.frozen
    have hDs : w.heap.size ≤ D := by omega
    clear hsz
    go_wp2_with fail
    have hK2 := dfSet (dfSet hK ⟨w.heap.size + 1, 0, none⟩ (.string ⟨#[]⟩)) ⟨w.heap.size + 1 + 1, 0, none⟩ (.bool false)
    have q1 := bxPut ((hb2.set (.string ⟨#[]⟩)).other (B' := w.heap.size + 1 + 1) (by omega) (.bool false)) hK2 rfl (.deferred none)
    have q2 := bxPut ((hb3.other (B' := w.heap.size + 1) (by omega) (.string ⟨#[]⟩)).set (.bool false)) hK2 rfl (.deferred none)
    refine marks_ret1 (v := .tuple #[.string ⟨#[]⟩, .bool false]) hK2 ?_ ⟨by rw [hg]; rfl, bPutD ((hB.setCell (p := ⟨w.heap.size + 1, 0, none⟩) (Nat.le_succ _) _).setCell (p := ⟨w.heap.size + 2, 0, none⟩) (Nat.le_add_right _ _) _) hDs hK2⟩
    simp [results, Tryd.f24, go_sem, q1.cell, q2.cell]
  case stop =>
    rintro D c pre W hD hp ⟨⟨v, hb1, hg⟩, hb2, rfl, hB⟩ hK
    have hDs : w.heap.size ≤ D := by omega
    clear hsz
    go_wp2_with fail
    have q1 := bxPut hb1 hK rfl (.deferred none)
    have q2 := bxPut hb2 hK rfl (.deferred none)
    have hgl := labGet_prefix _ _ _ _ (hp.map (·.1)) hg
    refine marks_ret1 (v := .tuple #[.string v, .bool true]) hK ?_ ⟨by rw [hgl]; rfl, bPutD hB hDs hK⟩
    simp [results, Tryd.f24, go_sem, q1.cell, q2.cell]

/-! ### package scope: names and values of labels -/
def sA : ByteArray := ⟨#[97]⟩
def scName (s : ByteArray) : Bool := labRight [⟨s, ⟨#[]⟩⟩]
def scValue (s : ByteArray) : Bool := labRight [⟨sA, s⟩]
theorem labs_new1 (w : World) (l : Lab) (t : TypeId) : Labs (w.heap.size + 1) (w.alloc (.cells #[.string l.name, .string l.value] t)) (.slice (some ⟨w.heap.size, 0, none⟩) 1 1) [l] := by
  refine .inr ⟨w.heap.size, 0, 1, rfl, by omega, fun i _ => ?_⟩
  rw [Nat.zero_add, cell_of_cells (World.alloc_heap_new w _) i]
  simp [Lab.enc]

theorem scIsName_any (s : ByteArray) (w : World) (hs : s.size < 4294967281) (hG : GW w) : Calls Tryd.prog 28 #[.string s] w fun e w' => e = .returned (.bool (scName s)) ∧ Below w.heap.size w w' := by
  have hB : Below w.heap.size w (w.alloc (.cells #[.string s, .string ⟨#[]⟩] 43)) := (Below.refl _ _).alloc (Nat.le_refl _) _
  have hR := label_Right_any (some ⟨w.heap.size, 0, none⟩) 1 [⟨⟨s, ⟨#[]⟩⟩, hs, by show (0 : Nat) < _; omega⟩] _ (by simpa using labs_new1 w ⟨s, ⟨#[]⟩⟩ 43) (hG.below hB) (by simp)
  go_enter Tryd.func28, Tryd.ntmps28
  go_wp2_with (go_at_call 23; refine hR.mono ?_; rintro e w' ⟨rfl, hb⟩)
  go_ret
  exact ⟨rfl, hB.trans (hb.mono (by simp))⟩
theorem scIsValue_any (s : ByteArray) (w : World) (hs : s.size < 4294967281) (hG : GW w) : Calls Tryd.prog 42 #[.string s] w fun e w' => e = .returned (.bool (scValue s)) ∧ Below w.heap.size w w' := by
  have hB : Below w.heap.size w (w.alloc (.cells #[.string sA, .string s] 43)) := (Below.refl _ _).alloc (Nat.le_refl _) _
  have hR := label_Right_any (some ⟨w.heap.size, 0, none⟩) 1 [⟨⟨sA, s⟩, by show (1 : Nat) < _; omega, hs⟩] _ (by simpa using labs_new1 w ⟨sA, s⟩ 43) (hG.below hB) (by simp)
  unfold sA at hR hB
  go_enter Tryd.func42, Tryd.ntmps42
  go_wp2_with (go_at_call 23; refine hR.mono ?_; rintro e w' ⟨rfl, hb⟩)
  go_ret
  exact ⟨rfl, hB.trans (hb.mono (by simp))⟩

/-! ### the signs of a pattern -/
inductive Sign where
  | any | one | that (c : Int)
def Sign.val : Sign → Value
  | .any => .iface 86 (.agg #[])
  | .one => .iface 87 (.agg #[])
  | .that c => .iface 85 (.agg #[.int .i32 c])
def Sign.isAny : Sign → Bool
  | .any => true
  | _ => false
def Sign.isFor (c : Int) : Sign → Bool
  | .one => true
  | .that d => d == c
  | .any => false
theorem assertAny (x : Sign) (w : World) : (Instr.typeAssert x.val 92 86 true).run Tryd.prog w = .ok (.tuple #[.agg #[], .bool x.isAny]) w := by cases x <;> kernel_rfl
theorem assertOne (x : Sign) (w : World) : (Instr.typeAssert x.val 92 87 true).run Tryd.prog w = .ok (.tuple #[.agg #[], .bool (match x with | .one => true | _ => false)]) w := by cases x <;> kernel_rfl
theorem assertThat (c : Int) (w : World) : (Instr.typeAssert (Sign.that c).val 92 85 false).run Tryd.prog w = .ok (.agg #[.int .i32 c]) w := by kernel_rfl
theorem fieldThat (c : Int) (w : World) : (Instr.field 85 (.agg #[.int .i32 c]) 0).run Tryd.prog w = .ok (.int .i32 c) w := by kernel_rfl
theorem isAny_any (x : Sign) (w : World) : Calls Tryd.prog 44 #[x.val] w fun e w' => e = .returned (.bool x.isAny) ∧ w = w' := by
  have h1 := assertAny x
  generalize x.val = v at h1 ⊢
  generalize x.isAny = b at h1 ⊢
  cases b <;>
  · go_enter Tryd.func44, Tryd.ntmps44
    go_wp2
    go_ret
    exact ⟨rfl, rfl⟩
theorem isFor_any (x : Sign) (c : Int) (w : World) (hx : x.isAny = false) : Calls Tryd.prog 45 #[x.val, .int .i32 c] w fun e w' => e = .returned (.bool (x.isFor c)) ∧ Below w.heap.size w w' := by
  cases x with
  | any => cases hx
  | one =>
    have h1 := assertOne .one
    simp only at h1
    generalize Sign.one.val = v at h1 ⊢
    go_enter Tryd.func45, Tryd.ntmps45
    go_wp2
    go_ret
    exact ⟨rfl, (Below.refl _ _).alloc (Nat.le_refl _) _⟩
  | that d =>
    have h1 := assertOne (.that d)
    have h2 := assertThat d
    have h3 := fieldThat d
    simp only at h1
    generalize (Sign.that d).val = v at h1 h2 ⊢
    go_enter Tryd.func45, Tryd.ntmps45
    go_wp2
    go_ret
    exact ⟨rfl, (Below.refl _ _).alloc (Nat.le_refl _) _⟩
end Go.Proofs.YtohfemdjkdjeeaaDoor

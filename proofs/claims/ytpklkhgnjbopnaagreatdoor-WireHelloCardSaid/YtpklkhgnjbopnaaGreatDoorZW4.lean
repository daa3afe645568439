/- Package wire: the writer in memory; strings.Builder in it. (Began as Y2, by a program.) -/
import Derived.Test.YtpklkhgnjbopnaaGreatDoorZYP
namespace Go.Proofs.YtpklkhgnjbopnaaGreatDoor
open Go Go.RowKit
def WAt (B b : Nat) (p : Value) (bs : List Value) (wr : Bool) (w : World) : Prop :=
 B ≤ b ∧ ∃ v, w.heap[b]? = some (.cells #[p, v, .bool wr] 119 (0, 0)) ∧ w.ownsRowF B 5 1 v bs.length bs ∧ v.ownBlock ≠ some b
def WIs (B b : Nat) (bs : List Value) (wr : Bool) (w : World) : Prop := WAt B b (.pointer none) bs wr w ∨ WAt B b (.pointer (some ⟨b, 0, none⟩)) bs wr w
section
variable {B b : Nat} {p v' : Value} {bs bs' : List Value} {wr : Bool} {w : World}
theorem WAt.cell0 (h : WAt B b p bs wr w) : w.cell? ⟨b, 0, none⟩ = some p := by obtain ⟨-, v, hb, -⟩ := h; rw [Lib.cell_of_heap hb]; rfl
theorem WAt.shape (h : WAt B b p bs wr w) : w.shape? b = some (119, 3) := by obtain ⟨-, v, hb, -⟩ := h; simp [World.shape?, hb]
theorem WAt.frozen0 (h : WAt B b p bs wr w) : w.frozen? ⟨b, 0, none⟩ = false := by obtain ⟨-, v, hb, -⟩ := h; exact Lib.frozen_of_heap hb 0
theorem WAt.keep {w2 : World} (hB : B ≤ b) {q v : Value} (hb : w2.heap[b]? = some (.cells #[q, v, .bool wr] 119 (0, 0))) (hown : w.ownsRowF B 5 1 v bs.length bs) (hs : w2.os = w.os ∧ w2.tape = w.tape ∧ w2.output = w.output ∧ w.heap.size ≤ w2.heap.size ∧ ∀ k, k < w.heap.size → k ≠ b → w2.heap[k]? = w.heap[k]?) (hne : v.ownBlock ≠ some b) : WAt B b q bs wr w2 :=
 ⟨hB, v, hb, hown.kept (row := some b) ⟨hs.1, hs.2.1, hs.2.2.1, hs.2.2.2.1, fun k hk hkb => hs.2.2.2.2 k hk (fun e => hkb (by simp [e]))⟩ (.inr hne), hne⟩
theorem WAt.used (h : WAt B b p bs wr w) (q : Value) : WAt B b q bs wr (w.setCell ⟨b, 0, none⟩ q) := by
 obtain ⟨hB, v, hb, hown, hne⟩ := h
 exact WAt.keep hB (by simp [World.setCell, Array.getElem?_modify, hb]) hown ⟨rfl, rfl, rfl, by simp [World.setCell], fun k _ hk => Below.heap_setCell _ _ _ _ hk⟩ hne
theorem WAt.put (hB : B ≤ b) {v : Value} (hb : w.heap[b]? = some (.cells #[p, v, .bool wr] 119 (0, 0))) (hown : w.ownsRowF B 5 1 v' bs'.length bs') : WAt B b p bs' wr (w.setCell ⟨b, 1, none⟩ v') := by
 have hne := Lib.ownBlock_neF hown hb (by decide)
 exact WAt.keep hB (by simp [World.setCell, Array.getElem?_modify, hb]) hown ⟨rfl, rfl, rfl, by simp [World.setCell], fun k _ hk => Below.heap_setCell _ _ _ _ hk⟩ hne
theorem WAt.bad (h : WAt B b p bs wr w) : WAt B b p bs true (w.setCell ⟨b, 2, none⟩ (.bool true)) := by
 obtain ⟨hB, v, hb, hown, hne⟩ := h
 exact WAt.keep hB (by simp [World.setCell, Array.getElem?_modify, hb]) hown ⟨rfl, rfl, rfl, by simp [World.setCell], fun k _ hk => Below.heap_setCell _ _ _ _ hk⟩ hne
theorem WAt.go {A W : World} (h : WAt B b p bs wr A) (hb : Below A.heap.size A W) : WAt B b p bs wr W := by
 obtain ⟨hB, v, h1, h2, h3⟩ := h
 exact ⟨hB, v, known hb (Nat.le_refl _) h1, owns_goF h2 hb, h3⟩
theorem WIs.go {A W : World} (h : WIs B b bs wr A) (hb : Below A.heap.size A W) : WIs B b bs wr W := h.imp (·.go hb) (·.go hb)
theorem WIs.lt (h : WIs B b bs wr w) : b < w.heap.size := by
 rcases h with ⟨-, v, h, -⟩ | ⟨-, v, h, -⟩ <;> exact (Array.getElem?_eq_some_iff.1 h).1
theorem WIs.cell2 (h : WIs B b bs wr w) : w.cell? ⟨b, 2, none⟩ = some (.bool wr) ∧ w.frozen? ⟨b, 2, none⟩ = false := by
 rcases h with ⟨-, v, h, -⟩ | ⟨-, v, h, -⟩ <;> exact ⟨by rw [Lib.cell_of_heap h]; rfl, Lib.frozen_of_heap h 2⟩
end
theorem lies_x : liesAt Tryz.prog Tryz.prog.depth 119 (3 / Tryz.prog.cellsOf 119) 0 86 1 = true := by kernel_rfl
set_option maxHeartbeats 1000000 in
set_option maxRecDepth 100000 in
theorem copyCheck_fresh_x (b : Nat) (w : World) (h0 : w.cell? ⟨b, 0, none⟩ = some (.pointer none)) (hsh : w.shape? b = some (119, 3)) (hfz : w.frozen? ⟨b, 0, none⟩ = false) :
  Calls Tryz.prog 72 #[.pointer (some ⟨b, 0, none⟩)] w fun e w' => e = .returned (.tuple #[]) ∧ w' = w.setCell ⟨b, 0, none⟩ (.pointer (some ⟨b, 0, none⟩)) := by
 obtain ⟨j, hj, hjs⟩ := Option.map_eq_some_iff.1 size_b
 go_enter Tryz.func72, Tryz.ntmps72
 go_wp2
 rw [Lib.run_to_unsafe w ⟨b, 0, none⟩ und_bp und_up hj (by rw [hjs]; decide) hsh (Nat.zero_lt_succ 2)]
 simp only [Result.andThen]
 rw [Oper.upon_value]
 go_wp2
 rw [run_callFunc_extern Tryz.func99 (by kernel_rfl) (by kernel_rfl) (by kernel_rfl) (e := Extern.AbiNoEscape.same) (by kernel_rfl)]
 rw [Lib.run_noEscape]
 simp only [Result.andThen]
 rw [Oper.upon_value]
 go_wp2
 rw [Lib.run_from_unsafe w ⟨b, 0, none⟩ und_up und_bp hj hsh lies_x]
 simp only [Result.andThen]
 rw [Oper.upon_value]
 go_wp2
 go_end0
 exact ⟨rfl, rfl⟩
set_option maxHeartbeats 1000000 in
theorem copyCheck_used_x (b : Nat) (w : World) (h0 : w.cell? ⟨b, 0, none⟩ = some (.pointer (some ⟨b, 0, none⟩))) :
  Calls Tryz.prog 72 #[.pointer (some ⟨b, 0, none⟩)] w fun e w' => e = .returned (.tuple #[]) ∧ w' = w := by
 obtain ⟨j, hj, hjs⟩ := Option.map_eq_some_iff.1 size_b
 have hn := Lib.run_neq_ptr_same (P := Tryz.prog) w ⟨b, 0, none⟩ und_bp hj
 go_enter Tryz.func72, Tryz.ntmps72
 go_wp2
 go_end0
 exact ⟨rfl, rfl⟩
theorem copyCheck_any_x (B b : Nat) (bs : List Value) (wr : Bool) (w : World) (h : WIs B b bs wr w) :
  Calls Tryz.prog 72 #[.pointer (some ⟨b, 0, none⟩)] w fun e w' => e = .returned (.tuple #[]) ∧ (WAt B b (.pointer (some ⟨b, 0, none⟩)) bs wr w' ∧ Below B w w' ∧ Lib.OthersKept 5 (some b) w w') := by
 rcases h with h | h
 ·refine (copyCheck_fresh_x b w h.cell0 h.shape h.frozen0).mono ?_
  rintro e w' ⟨rfl, rfl⟩
  exact ⟨rfl, h.used _, (Below.refl B w).setCell (p := ⟨b, 0, none⟩) h.1 _, (Lib.OthersKept.refl _ _ w).setCell ⟨b, 0, none⟩ rfl _⟩
 ·refine (copyCheck_used_x b w h.cell0).mono ?_
  rintro e w' ⟨rfl, rfl⟩
  exact ⟨rfl, h, Below.refl B _, Lib.OthersKept.refl _ _ _⟩
set_option maxHeartbeats 2000000 in
set_option maxRecDepth 100000 in
theorem WriteString_any_x (B b : Nat) (bs : List Value) (wr : Bool) (s : ByteArray) (w : World) (h : WIs B b bs wr w) (hlen : bs.length + s.size ≤ 140737488355328) (hBw : B ≤ w.heap.size) :
  Calls Tryz.prog 36 #[.pointer (some ⟨b, 0, none⟩), .string s] w fun e w' => e = .returned (.tuple #[.int .i64 s.size, .nilIface]) ∧ (WAt B b (.pointer (some ⟨b, 0, none⟩)) (bs ++ Lib.strCells s) wr w' ∧ Below B w w' ∧ Lib.OthersKept 5 (some b) w w') := by
 obtain ⟨i0, hi, hz0, hz1, hz2⟩ := info_parts info_byte
 go_enter Tryz.func36, Tryz.ntmps36
 go_wp2_with fail
 refine (copyCheck_any_x B b bs wr _ h).mono ?_
 rintro e w1 ⟨rfl, h1, hb1, hk1⟩
 obtain ⟨hB, v, hbk, hown, hne⟩ := h1
 have c0 : w1.cell? ⟨b, 0, none⟩ = some (.pointer (some ⟨b, 0, none⟩)) := by rw [Lib.cell_of_heap hbk]; rfl
 have c1 : w1.cell? ⟨b, 1, none⟩ = some v := by rw [Lib.cell_of_heap hbk]; rfl
 go_wp2_with (at_builtin; refine Lib.wpList_append_own_stringF _ rfl _ _ 84 9 rfl B 5 i0 und_bytes Tryz.underlying9 hi hz0 hz1 hz2 _ _ _ rfl hown s rfl ?c3 ?c4 ?c5 ?_)
 case c3 => unfold maxLen; omega
 case c4 => omega
 case c5 => have := hb1.size; omega
 intro v' w2 hown' hgrow _
 have hlt : b < w1.heap.size := (Array.getElem?_eq_some_iff.1 hbk).1
 have hb2 : w2.heap[b]? = some (.cells #[.pointer (some ⟨b, 0, none⟩), v, .bool wr] 119 (0, 0)) := by
  rw [hgrow.block b hlt (fun e => hne e.symm)]
  exact hbk
 have d0 : w2.cell? ⟨b, 0, none⟩ = some (.pointer (some ⟨b, 0, none⟩)) := by rw [Lib.cell_of_heap hb2]; rfl
 have d1 : w2.cell? ⟨b, 1, none⟩ = some v := by rw [Lib.cell_of_heap hb2]; rfl
 have f1 : w2.frozen? ⟨b, 1, none⟩ = false := Lib.frozen_of_heap hb2 1
 obtain ⟨ao, n', cap, rfl⟩ : ∃ ao n' cap, v' = .slice ao n' cap := by
  rcases hown'.2 with ⟨hv, _⟩ | ⟨g, cap, cur, fz, hv, _⟩
  ·exact ⟨_, _, _, hv⟩
  ·exact ⟨_, _, _, hv⟩
 go_wp2
 go_ret2
 refine ⟨rfl, ?_, ?_, (hk1.grown hgrow (Lib.ownsRowF_kind hown)).setCell ⟨b, 1, none⟩ rfl _⟩
 ·exact WAt.put hB hb2 (bs' := bs ++ Lib.strCells s) (by simpa [Lib.strCells_length] using hown')
 ·exact (hb1.grown hgrow (by have := hb1.size; omega) (fun k hk => (hown.lt k hk).1)).setCell (p := ⟨b, 1, none⟩) hB _
theorem cells_byte_x : Tryz.prog.cellsOf 5 = 1 := by kernel_rfl
set_option maxHeartbeats 2000000 in
set_option maxRecDepth 100000 in
theorem String_x (B b : Nat) (l : List UInt8) (wr : Bool) (w : World) (h : WIs B b (Lib.byteCells l) wr w) (h0 : l ≠ []) :
  Calls Tryz.prog 39 #[.pointer (some ⟨b, 0, none⟩)] w fun e w' => e = .returned (.string ⟨l.toArray⟩) ∧ Below B w w' := by
 obtain ⟨p, hAt⟩ : ∃ p, WAt B b p (Lib.byteCells l) wr w := by
  rcases h with h | h
  ·exact ⟨_, h⟩
  ·exact ⟨_, h⟩
 obtain ⟨hB, v, hbk, hown, hne⟩ := hAt
 have hl0 : l.length ≠ 0 := by simpa using h0
 rw [Lib.byteCells_length] at hown
 rcases hown.2 with ⟨_, hz⟩ | ⟨g, cap, cur, fz, rfl, hbg, hg, hfz, hnc, hcm, hcs, htake⟩
 ·exact absurd hz hl0
 have c1 : w.drew.cell? ⟨b, 1, none⟩ = some (.slice (some ⟨g, 0, none⟩) l.length cap) := by
  have : w.drew.heap[b]? = some (.cells #[p, .slice (some ⟨g, 0, none⟩) l.length cap, .bool wr] 119 (0, 0)) := hbk
  rw [Lib.cell_of_heap this]; rfl
 have hSD : (Builtin.unsafeSliceData_ #[84] 154 #[.slice (some ⟨g, 0, none⟩) l.length cap]).run Tryz.prog w.drew = .ok (.pointer (some ⟨g, 0, none⟩)) w.drew :=
  Lib.run_unsafeSliceData_row _ _ _ _ _ _ (by omega)
 have hUS : (Builtin.unsafeString_ #[154, 3] 9 #[.pointer (some ⟨g, 0, none⟩), .int .i64 l.length]).run Tryz.prog w.drew = .ok (.string ⟨l.toArray⟩) (w.drew.freeze ⟨g, 0, none⟩ l.length) := by
  refine Lib.run_unsafeString_row w.drew 154 3 9 5 (by kernel_rfl) cells_byte_x g cur.size (by have hg' : w.drew.heap[g]? = some (.cells cur 5 fz) := hg; simp [World.shape?, hg']) l h0 (by omega) (by unfold maxLen at hcm; omega) ?_
  intro j x hx
  have := hown.cells (g := g) rfl j (.int .u8 x.toNat) (by simp [Lib.byteCells, hx])
  exact this
 have hF := Lib.below_freeze (Below.drew (Below.refl B w)) (p := ⟨g, 0, none⟩) hbg l.length
 clear hown hne htake hbk hg
 have mixed : Tryz.prog.follows .mixedOrders = true := by kernel_rfl
 go_enter Tryz.func39, Tryz.ntmps39
 go_wp2
 go_region_o
 all_goals (go_wp2; go_ret; exact ⟨rfl, hF⟩)
end Go.Proofs.YtpklkhgnjbopnaaGreatDoor

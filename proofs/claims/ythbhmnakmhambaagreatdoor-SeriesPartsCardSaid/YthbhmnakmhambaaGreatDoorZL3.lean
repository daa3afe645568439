/- DERIVED: THE SHELF's CONTRACTS AT THIS DUMP, IN PLAIN WORDS (tools/lay-plain.mjs out of 'TryzShelf.lean', which tools/lay-shelf.mjs wrote): THE SAME DECLARATIONS UNDER THE SAME NAMES: 'import', 'namespace', 'open', 'def', 'theorem' AND NOTHING ELSE: no command of the shelf's: FOR A HAND-IN. Each laying: the table of numbers ('.._ren') and one theorem, a field a fact of the dump's own or the kernel's comparison; each contract: ONE APPLICATION. strings.Builder: copyCheck, WriteString, WriteByte at this program (the library's copyCheck holds a branch that the loader refuses, so the shelf's contracts are not laid). strings.Builder: WriteByte, WriteRune. Package label: quoted. -/
import Derived.Test.YthbhmnakmhambaaGreatDoorZA0
import Derived.Test.YthbhmnakmhambaaGreatDoorZL4
namespace Go.Proofs
open Go.Shelf
def Tryz.lays169_ren : Go.Shelf.Ren := ⟨fun | 169 => 106 | n => n, fun | 70 => 180 | 9 => 9 | 0 => 0 | 72 => 183 | 37 => 181 | 127 => 223 | 3 => 3 | 5 => 5 | n => n, fun | n => n⟩
theorem Tryz.lays169 : Go.Proofs.Lays.n169 Tryz.prog Tryz.lays169_ren := {
 mixed := by kernel_rfl
 f169 := Tryz.func106.trans (congrArg some (by kernel_rfl))
 t0 := Tryz.underlying0
 a0 := Tryz.isAgg0
 z0 := Tryz.sizeOf0
 v0 := Tryz.zeroValue0
 t3 := Tryz.underlying3
 a3 := Tryz.isAgg3
 z3 := Tryz.sizeOf3
 v3 := Tryz.zeroValue3
 t9 := Tryz.underlying9
 a9 := Tryz.isAgg9
 z9 := Tryz.sizeOf9
 v9 := Tryz.zeroValue9
 t37 := Tryz.underlying181
 a37 := Tryz.isAgg181
 z37 := Tryz.sizeOf181
 v37 := Tryz.zeroValue181
 t70 := Tryz.underlying180
 a70 := Tryz.isAgg180
 z70 := Tryz.sizeOf180
 v70 := Tryz.zeroValue180
 t72 := Tryz.underlying183
 a72 := Tryz.isAgg183
 z72 := Tryz.sizeOf183
 v72 := Tryz.zeroValue183
 t127 := Tryz.underlying223
 a127 := Tryz.isAgg223
 z127 := Tryz.sizeOf223
 v127 := Tryz.zeroValue223 }
theorem Tryz.Builder_Extra_169 : Builder.Extra Tryz.prog Tryz.lays169_ren := {
 sizeBuilder := by kernel_rfl
 liesBuilder := by kernel_rfl
 t5 := Tryz.underlying5
 a5 := Tryz.isAgg5
 z5 := Tryz.sizeOf5
 v5 := Tryz.zeroValue5
 infoByte := by kernel_rfl
 cellsByte := by kernel_rfl
 sizeByte := by kernel_rfl
 neB5 := by decide }
def Tryz.lays156_ren : Go.Shelf.Ren := ⟨fun | 156 => 72 | 165 => 107 | 166 => 108 | 169 => 106 | 240 => 127 | 241 => 129 | 276 => 146 | 277 => 148 | n => n, fun | 31 => 127 | 9 => 9 | 3 => 3 | 4 => 4 | 0 => 0 | 20 => 20 | 72 => 183 | 76 => 185 | 70 => 180 | 37 => 181 | 75 => 110 | 127 => 223 | 164 => 236 | 5 => 5 | 80 => 187 | n => n, fun | n => n⟩
theorem Tryz.lays156 : Go.Proofs.Lays.n156 Tryz.prog Tryz.lays156_ren := {
 mixed := by kernel_rfl
 f156 := Tryz.func72.trans (congrArg some (by kernel_rfl))
 f165 := Tryz.func107.trans (congrArg some (by kernel_rfl))
 f166 := Tryz.func108.trans (congrArg some (by kernel_rfl))
 f169 := Tryz.func106.trans (congrArg some (by kernel_rfl))
 f240 := Tryz.func127.trans (congrArg some (by kernel_rfl))
 f241 := Tryz.func129.trans (congrArg some (by kernel_rfl))
 f276 := Tryz.func146.trans (congrArg some (by kernel_rfl))
 f277 := Tryz.func148.trans (congrArg some (by kernel_rfl))
 t0 := Tryz.underlying0
 a0 := Tryz.isAgg0
 z0 := Tryz.sizeOf0
 v0 := Tryz.zeroValue0
 t3 := Tryz.underlying3
 a3 := Tryz.isAgg3
 z3 := Tryz.sizeOf3
 v3 := Tryz.zeroValue3
 t4 := Tryz.underlying4
 a4 := Tryz.isAgg4
 z4 := Tryz.sizeOf4
 v4 := Tryz.zeroValue4
 t9 := Tryz.underlying9
 a9 := Tryz.isAgg9
 z9 := Tryz.sizeOf9
 v9 := Tryz.zeroValue9
 t20 := Tryz.underlying20
 a20 := Tryz.isAgg20
 z20 := Tryz.sizeOf20
 v20 := Tryz.zeroValue20
 t31 := Tryz.underlying127
 a31 := Tryz.isAgg127
 z31 := Tryz.sizeOf127
 v31 := Tryz.zeroValue127
 t37 := Tryz.underlying181
 a37 := Tryz.isAgg181
 z37 := Tryz.sizeOf181
 v37 := Tryz.zeroValue181
 t70 := Tryz.underlying180
 a70 := Tryz.isAgg180
 z70 := Tryz.sizeOf180
 v70 := Tryz.zeroValue180
 t72 := Tryz.underlying183
 a72 := Tryz.isAgg183
 z72 := Tryz.sizeOf183
 v72 := Tryz.zeroValue183
 t75 := Tryz.underlying110
 a75 := Tryz.isAgg110
 z75 := Tryz.sizeOf110
 v75 := Tryz.zeroValue110
 t76 := Tryz.underlying185
 a76 := Tryz.isAgg185
 z76 := Tryz.sizeOf185
 v76 := Tryz.zeroValue185
 t127 := Tryz.underlying223
 a127 := Tryz.isAgg223
 z127 := Tryz.sizeOf223
 v127 := Tryz.zeroValue223
 t164 := Tryz.underlying236
 a164 := Tryz.isAgg236
 z164 := Tryz.sizeOf236
 v164 := Tryz.zeroValue236 }
theorem Tryz.Builder_Extra_156 : Builder.Extra Tryz.prog Tryz.lays156_ren := {
 sizeBuilder := by kernel_rfl
 liesBuilder := by kernel_rfl
 t5 := Tryz.underlying5
 a5 := Tryz.isAgg5
 z5 := Tryz.sizeOf5
 v5 := Tryz.zeroValue5
 infoByte := by kernel_rfl
 cellsByte := by kernel_rfl
 sizeByte := by kernel_rfl
 neB5 := by decide }
open Go.RowKit in
theorem Tryz.strings_Join (bk o c : Nat) (xs : List ByteArray) (sep : ByteArray) (w : World) (hcells : ∀ (j : Nat) x, xs[j]? = some x → w.cell? ⟨bk, o + j, none⟩ = some (.string x)) (hbk : bk < w.heap.size) (hN : xs.length ≤ 140737488355328) (hcap : xs.length ≤ c) (hlen : (Lib.join (xs.map (·.data.toList)) sep.data.toList).length ≤ 140737488355328) :
  Calls Tryz.prog 72 #[.slice (some ⟨bk, o, none⟩) xs.length c, .string sep] w fun e w' => e = .returned (.string ⟨(Lib.join (xs.map (·.data.toList)) sep.data.toList).toArray⟩) ∧ Below w.heap.size w w' := Any.strings_Join Tryz.lays156 Tryz.Builder_Extra_156 bk o c xs sep w hcells hbk hN hcap hlen
open Go.RowKit in
theorem Tryz.Builder_String_any_f (B b : Nat) (l : List UInt8) (w : World) (h : Lib.IsBuilderF 183 5 B b (Lib.byteCells l) w) (hBw : B ≤ w.heap.size) :
  Calls Tryz.prog 106 #[.pointer (some ⟨b, 0, none⟩)] w fun e w' => e = .returned (.string ⟨l.toArray⟩) ∧ (Lib.IsBuilderF 183 5 B b (Lib.byteCells l) w' ∧ Below B w w') := Any.Builder_String_any_f Tryz.lays169 Tryz.Builder_Extra_169 B b l w h hBw
def Tryz.lays242_ren : Go.Shelf.Ren := ⟨fun | 242 => 128 | 278 => 147 | n => n, fun | 37 => 181 | 21 => 21 | 51 => 252 | 4 => 4 | 5 => 5 | 46 => 273 | n => n, fun | n => n⟩
theorem Tryz.lays242 : Go.Proofs.Lays.n242 Tryz.prog Tryz.lays242_ren := {
 mixed := by kernel_rfl
 f242 := Tryz.func128.trans (congrArg some (by kernel_rfl))
 f278 := Tryz.func147.trans (congrArg some (by kernel_rfl))
 t4 := Tryz.underlying4
 a4 := Tryz.isAgg4
 z4 := Tryz.sizeOf4
 v4 := Tryz.zeroValue4
 t5 := Tryz.underlying5
 a5 := Tryz.isAgg5
 z5 := Tryz.sizeOf5
 v5 := Tryz.zeroValue5
 t21 := Tryz.underlying21
 a21 := Tryz.isAgg21
 z21 := Tryz.sizeOf21
 v21 := Tryz.zeroValue21
 t37 := Tryz.underlying181
 a37 := Tryz.isAgg181
 z37 := Tryz.sizeOf181
 v37 := Tryz.zeroValue181
 t46 := Tryz.underlying273
 a46 := Tryz.isAgg273
 z46 := Tryz.sizeOf273
 v46 := Tryz.zeroValue273
 t51 := Tryz.underlying252
 a51 := Tryz.isAgg252
 z51 := Tryz.sizeOf252
 v51 := Tryz.zeroValue252 }
open Go.RowKit in
theorem Tryz.utf8_AppendRune_row (B : Nat) (v : Value) (n : Nat) (xs : List Value) (r : Int) (hr0 : -2147483648 ≤ r) (hr1 : r ≤ 2147483647) (w : World) (hown : w.ownsRowF B 5 1 v n xs) (hlen : n + 4 ≤ 140737488355328) (hBw : B ≤ w.heap.size) :
  Calls Tryz.prog 128 #[v, .int .i32 r] w fun e w' => ∃ v', e = .returned v' ∧ w'.ownsRowF B 5 1 v' (n + (Lib.runeCells r).length) (xs ++ Lib.runeCells r) ∧ ∃ o, (w.alloc o).grownBy w' v.ownBlock := Any.utf8_AppendRune_row Tryz.lays242 (by kernel_rfl) B v n xs r hr0 hr1 w hown hlen hBw
end Go.Proofs
namespace Go.Proofs.YthbhmnakmhambaaGreatDoor
open Go Go.RowKit
theorem und_bp : Tryz.prog.underlying 180 = some (.pointer 183) := by kernel_rfl
theorem und_up : Tryz.prog.underlying 236 = some .unsafePointer := by kernel_rfl
theorem size_b : (Tryz.prog.info? 183).map (·.size) = some 2 := by kernel_rfl
theorem lies_b : liesAt Tryz.prog Tryz.prog.depth 183 (2 / Tryz.prog.cellsOf 183) 0 183 1 = true := by kernel_rfl
theorem info_byte : (Tryz.prog.info? 5).map (fun i => (i.zero, i.size, i.bytes)) = some (some (.int .u8 0), 1, 1) := by kernel_rfl
theorem und_bytes : Tryz.prog.underlying 181 = some (.slice 5) := by kernel_rfl
set_option maxHeartbeats 1000000 in
set_option maxRecDepth 100000 in
theorem copyCheck_fresh (b : Nat) (w : World) (h0 : w.cell? ⟨b, 0, none⟩ = some (.pointer none)) (hsh : w.shape? b = some (183, 2)) (hfz : w.frozen? ⟨b, 0, none⟩ = false) :
  Calls Tryz.prog 127 #[.pointer (some ⟨b, 0, none⟩)] w fun e w' => e = .returned (.tuple #[]) ∧ w' = w.setCell ⟨b, 0, none⟩ (.pointer (some ⟨b, 0, none⟩)) := by
 obtain ⟨j, hj, hjs⟩ := Option.map_eq_some_iff.1 size_b
 go_enter Tryz.func127, Tryz.ntmps127
 go_wp2
 rw [Lib.run_to_unsafe w ⟨b, 0, none⟩ und_bp und_up hj (by rw [hjs]; decide) hsh (Nat.zero_lt_succ 1)]
 simp only [Result.andThen]
 rw [Oper.upon_value]
 go_wp2
 rw [run_callFunc_extern Tryz.func146 (by kernel_rfl) (by kernel_rfl) (by kernel_rfl) (e := Extern.AbiNoEscape.same) (by kernel_rfl)]
 rw [Lib.run_noEscape]
 simp only [Result.andThen]
 rw [Oper.upon_value]
 go_wp2
 rw [Lib.run_from_unsafe w ⟨b, 0, none⟩ und_up und_bp hj hsh lies_b]
 simp only [Result.andThen]
 rw [Oper.upon_value]
 go_wp2
 go_end0
 exact ⟨rfl, rfl⟩
set_option maxHeartbeats 1000000 in
theorem copyCheck_used (b : Nat) (w : World) (h0 : w.cell? ⟨b, 0, none⟩ = some (.pointer (some ⟨b, 0, none⟩))) :
  Calls Tryz.prog 127 #[.pointer (some ⟨b, 0, none⟩)] w fun e w' => e = .returned (.tuple #[]) ∧ w' = w := by
 obtain ⟨j, hj, hjs⟩ := Option.map_eq_some_iff.1 size_b
 have hn := Lib.run_neq_ptr_same (P := Tryz.prog) w ⟨b, 0, none⟩ und_bp hj
 go_enter Tryz.func127, Tryz.ntmps127
 go_wp2
 go_end0
 exact ⟨rfl, rfl⟩
theorem copyCheck_any (B b : Nat) (bs : List Value) (w : World) (h : Lib.IsBuilderF 183 5 B b bs w) :
  Calls Tryz.prog 127 #[.pointer (some ⟨b, 0, none⟩)] w fun e w' => e = .returned (.tuple #[]) ∧ (Lib.BuilderAtF 183 5 B b (.pointer (some ⟨b, 0, none⟩)) bs w' ∧ Below B w w' ∧ Lib.OthersKept 5 (some b) w w') := by
 rcases h with h | h
 ·refine (copyCheck_fresh b w h.cell0 h.shape h.frozen0).mono ?_
  rintro e w' ⟨rfl, rfl⟩
  exact ⟨rfl, h.used _, (Below.refl B w).setCell (p := ⟨b, 0, none⟩) h.1 _, (Lib.OthersKept.refl _ _ w).setCell ⟨b, 0, none⟩ rfl _⟩
 ·refine (copyCheck_used b w h.cell0).mono ?_
  rintro e w' ⟨rfl, rfl⟩
  exact ⟨rfl, h, Below.refl B _, Lib.OthersKept.refl _ _ _⟩
end Go.Proofs.YthbhmnakmhambaaGreatDoor
namespace Go.Proofs.YthbhmnakmhambaaGreatDoor
open Go Go.RowKit
set_option maxHeartbeats 2000000 in
set_option maxRecDepth 100000 in
theorem WriteByte_any (B b : Nat) (bs : List Value) (c : Int) (w : World) (h : Lib.IsBuilderF 183 5 B b bs w) (hlen : bs.length + 1 ≤ 140737488355328) (hBw : B ≤ w.heap.size) :
  Calls Tryz.prog 104 #[.pointer (some ⟨b, 0, none⟩), .int .u8 c] w fun e w' => e = .returned .nilIface ∧ (Lib.BuilderAtF 183 5 B b (.pointer (some ⟨b, 0, none⟩)) (bs ++ [.int .u8 c]) w' ∧ Below B w w' ∧ Lib.OthersKept 5 (some b) w w') := by
 obtain ⟨i0, hi, hz0, hz1, hz2⟩ := info_parts info_byte
 go_enter Tryz.func104, Tryz.ntmps104
 go_wp2_with fail
 refine (copyCheck_any B b bs _ h).mono ?_
 rintro e w1 ⟨rfl, h1, hb1, hk1⟩
 obtain ⟨hB, v, hbk, hown, hne⟩ := h1
 have c0 : w1.cell? ⟨b, 0, none⟩ = some (.pointer (some ⟨b, 0, none⟩)) := by rw [Lib.cell_of_heap hbk]; rfl
 have c1 : w1.cell? ⟨b, 1, none⟩ = some v := by rw [Lib.cell_of_heap hbk]; rfl
 go_wp2_with (at_builtin; refine wpList_append_ownF _ rfl _ _ 181 rfl B 5 i0 (.int .u8 0) 1 1 und_bytes hi hz0 hz1 hz2 rfl (by decide) _ _ _ rfl (hown.alloc _) ⟨w1.heap.size, 0, none⟩ 1 1 [.int .u8 c] rfl rfl ?c1 ?c2 ?c3 ?c4 ?c5 ?_)
 case c1 =>
  intro j u hj
  match j, hj with
  | 0, hj => simp at hj; subst hj; simp [Addr.add]
 case c2 => intro u hu; simp at hu; subst hu; rfl
 case c3 => unfold maxLen; omega
 case c4 => omega
 case c5 => have := hb1.size; simp; omega
 intro v' w2 hown' hgrow _
 have hlt : b < w1.heap.size := (Array.getElem?_eq_some_iff.1 hbk).1
 have hb2 : w2.heap[b]? = some (.cells #[.pointer (some ⟨b, 0, none⟩), v] 183 (0, 0)) := by
  rw [hgrow.block b (by simp; omega) (fun e => hne e.symm), Lib.alloc_old w1 _ b hlt]
  exact hbk
 have d0 : w2.cell? ⟨b, 0, none⟩ = some (.pointer (some ⟨b, 0, none⟩)) := by rw [Lib.cell_of_heap hb2]; rfl
 have d1 : w2.cell? ⟨b, 1, none⟩ = some v := by rw [Lib.cell_of_heap hb2]; rfl
 have f1 : w2.frozen? ⟨b, 1, none⟩ = false := Lib.frozen_of_heap hb2 1
 obtain ⟨g, cap, rfl⟩ : ∃ g cap, v' = .slice (some ⟨g, 0, none⟩) (bs.length + 1) cap := by
  rcases hown'.2 with ⟨_, h0⟩ | ⟨g, cap, cur, fz, hv, _⟩
  ·omega
  ·exact ⟨g, cap, hv⟩
 go_wp2
 go_ret
 refine ⟨rfl, ?_, ?_, ((hk1.alloc _).grown hgrow (Lib.ownsRowF_kind (hown.alloc _))).setCell ⟨b, 1, none⟩ rfl _⟩
 ·exact Lib.BuilderAtF.put (T := 183) (e := 5) hB hb2 (bs' := bs ++ [.int .u8 c]) (by simpa using hown') (by decide)
 ·exact ((hb1.alloc (by have := hb1.size; omega) _).grown hgrow (by have := hb1.size; simp; omega) (fun k hk => (hown.lt k hk).1)).setCell (p := ⟨b, 1, none⟩) hB _
set_option maxHeartbeats 2000000 in
set_option maxRecDepth 100000 in
theorem WriteRune_any (B b : Nat) (bs : List Value) (r : Int) (hr0 : -2147483648 ≤ r) (hr1 : r ≤ 2147483647) (w : World) (h : Lib.IsBuilderF 183 5 B b bs w) (hlen : bs.length + 4 ≤ 140737488355328) (hBw : B ≤ w.heap.size) :
  Calls Tryz.prog 105 #[.pointer (some ⟨b, 0, none⟩), .int .i32 r] w fun e w' => (∃ v, e = .returned v) ∧ (Lib.BuilderAtF 183 5 B b (.pointer (some ⟨b, 0, none⟩)) (bs ++ Lib.runeCells r) w' ∧ Below B w w' ∧ Lib.OthersKept 5 (some b) w w') := by
 have hk4 := Lib.runeCells_le r
 go_enter Tryz.func105, Tryz.ntmps105
 go_wp2_with fail
 refine (copyCheck_any B b bs _ h).mono ?_
 rintro e w1 ⟨rfl, h1, hb1, hk1⟩
 obtain ⟨hB, v, hbk, hown, hne⟩ := h1
 obtain ⟨ao, cap, rfl⟩ : ∃ ao cap, v = .slice ao bs.length cap := by
  rcases hown.2 with ⟨hv, h0⟩ | ⟨g, cap, cur, fz, hv, _⟩
  ·exact ⟨none, 0, by rw [hv, h0]⟩
  ·exact ⟨_, _, hv⟩
 have c0 : w1.cell? ⟨b, 0, none⟩ = some (.pointer (some ⟨b, 0, none⟩)) := by rw [Lib.cell_of_heap hbk]; rfl
 have c1 : w1.cell? ⟨b, 1, none⟩ = some (.slice ao bs.length cap) := by rw [Lib.cell_of_heap hbk]; rfl
 go_wp2_with fail
 refine (Tryz.utf8_AppendRune_row B _ bs.length bs r hr0 hr1 _ hown hlen (by have := hb1.size; omega)).mono ?_
 rintro e w2 ⟨v', rfl, hown', o, hgrow⟩
 have hlt : b < w1.heap.size := (Array.getElem?_eq_some_iff.1 hbk).1
 have hb2 : w2.heap[b]? = some (.cells #[.pointer (some ⟨b, 0, none⟩), .slice ao bs.length cap] 183 (0, 0)) := by
  rw [hgrow.block b (by simp; omega) (fun e => hne e.symm), Lib.alloc_old w1 _ b hlt]
  exact hbk
 have d0 : w2.cell? ⟨b, 0, none⟩ = some (.pointer (some ⟨b, 0, none⟩)) := by rw [Lib.cell_of_heap hb2]; rfl
 have d1 : w2.cell? ⟨b, 1, none⟩ = some (.slice ao bs.length cap) := by rw [Lib.cell_of_heap hb2]; rfl
 have f1 : w2.frozen? ⟨b, 1, none⟩ = false := Lib.frozen_of_heap hb2 1
 obtain ⟨g, cap', rfl⟩ : ∃ g cap', v' = .slice (some ⟨g, 0, none⟩) (bs.length + (Lib.runeCells r).length) cap' := by
  rcases hown'.2 with ⟨_, h0⟩ | ⟨g, cap', cur, fz, hv, _⟩
  ·omega
  ·exact ⟨g, cap', hv⟩
 go_wp2
 go_ret2
 refine ⟨⟨_, rfl⟩, ?_, ?_, ((hk1.alloc _).grown hgrow (Lib.ownsRowF_kind (hown.alloc _))).setCell ⟨b, 1, none⟩ rfl _⟩
 ·exact Lib.BuilderAtF.put (T := 183) (e := 5) hB hb2 (bs' := bs ++ Lib.runeCells r) (by simpa using hown') (by decide)
 ·exact ((hb1.alloc (by have := hb1.size; omega) _).grown hgrow (by have := hb1.size; simp; omega) (fun k hk => (hown.lt k hk).1)).setCell (p := ⟨b, 1, none⟩) hB _
end Go.Proofs.YthbhmnakmhambaaGreatDoor
namespace Go.Proofs.YthbhmnakmhambaaGreatDoor
open Go Go.RowKit Go.Shelf
theorem quotedB_snoc (l : List (Nat × Int)) (p : Nat × Int) : quotedB (l ++ [p]) = quotedB l ++ ((if p.2 == 44 || p.2 == 92 then [92] else []) ++ Lib.encodeRune p.2) := by simp [quotedB]
theorem enc_le (r : Int) : (Lib.encodeRune r).length ≤ 4 := by have := Lib.runeCells_le r; rw [Lib.runeCells_length] at this; omega
theorem quotedB_len (l : List (Nat × Int)) : (quotedB l).length ≤ 5 * l.length := by
 induction l with
 | nil => simp [quotedB]
 | cons x xs ih =>
  have h := enc_le x.2
  have e : quotedB (x :: xs) = ((if x.2 == 44 || x.2 == 92 then [92] else []) ++ Lib.encodeRune x.2) ++ quotedB xs := by simp [quotedB]
  rw [e, List.length_append, List.length_append, List.length_cons]
  split <;> simp <;> omega
theorem isB_iter {T e : TypeId} {B b k : Nat} {bs : List Value} {w w' : World} {s : ByteArray} {pos : Nat} (h : Lib.IsBuilderF T e B b bs w) (hk : w.heap[k]? = some (.stringIter s pos)) (hs : ∀ j, j ≠ k → w'.heap[j]? = w.heap[j]?) : Lib.IsBuilderF T e B b bs w' := by
 have one : ∀ p, Lib.BuilderAtF T e B b p bs w → Lib.BuilderAtF T e B b p bs w' := fun p ⟨h1, v, h2, h3, h4⟩ => by
  refine ⟨h1, v, ?_, ⟨h3.1, ?_⟩, h4⟩
  ·rw [hs b (fun e => by rw [e, hk] at h2; cases h2)]; exact h2
  ·rcases h3.2 with h5 | ⟨g, cap, cur, fz, hv, hg, hh, r⟩
   ·exact .inl h5
   ·exact .inr ⟨g, cap, cur, fz, hv, hg, by rw [hs g (fun e => by rw [e, hk] at hh; cases hh)]; exact hh, r⟩
 exact h.imp (one _) (one _)
theorem isB_old {T e : TypeId} {B b : Nat} {bs : List Value} {w w' : World} (h : Lib.IsBuilderF T e B b bs w) (hs : ∀ j, j < w.heap.size → w'.heap[j]? = w.heap[j]?) : Lib.IsBuilderF T e B b bs w' := by
 have one : ∀ p, Lib.BuilderAtF T e B b p bs w → Lib.BuilderAtF T e B b p bs w' := fun p ⟨h1, v, h2, h3, h4⟩ => by
  refine ⟨h1, v, (hs b (Array.getElem?_eq_some_iff.1 h2).1).trans h2, ⟨h3.1, ?_⟩, h4⟩
  rcases h3.2 with h5 | ⟨g, cap, cur, fz, hv, hg, hh, r⟩
  ·exact .inl h5
  ·exact .inr ⟨g, cap, cur, fz, hv, hg, (hs g (Array.getElem?_eq_some_iff.1 hh).1).trans hh, r⟩
 exact h.imp (one _) (one _)
set_option maxRecDepth 100000 in
set_option maxHeartbeats 1000000 in
theorem quoted_any (s : ByteArray) (w : World) (hs : s.size < 4294967281) : Calls Tryz.prog 71 #[.string s] w fun e w' => e = .returned (.string ⟨(quotedB (rl s 0)).toArray⟩) ∧ Below w.heap.size w w' := by
 obtain ⟨W0, hW0, hX0, hB0, hs0⟩ := boxes1 w #[.pointer none, .slice none 0 0] 183
 have hbu : Lib.IsBuilderF 183 5 w.heap.size w.heap.size [] W0 := by rw [← hW0]; exact Lib.IsBuilderF.of (Lib.fresh_isBuilder _ _ w)
 have hit0 := World.iter_heap W0 s 0
 have hBi : Below w.heap.size w (W0.iter s 0) := hB0.alloc hB0.size _
 have hbi : Lib.IsBuilderF 183 5 w.heap.size w.heap.size [] (W0.iter s 0) := isB_old hbu (fun j hj => Below.heap_alloc _ _ _ hj)
 rw [hs0] at hit0
 have HW0 := Lib.hid hW0
 clear hW0 hX0 hs0 hbu
 go_enter Tryz.func71, Tryz.ntmps71
 go_wp2_with fail
 rw [HW0.out]
 go_loopw [5] (fun _ wr => ∃ (pos : Nat) (done : List (Nat × Int)), wr.heap[w.heap.size + 1]? = some (.stringIter s pos) ∧ Below w.heap.size w wr ∧ Lib.IsBuilderF 183 5 w.heap.size w.heap.size (Lib.byteCells (quotedB done)) wr ∧ done.length ≤ pos  ∧ Hid (rl s 0 = done ++ rl s pos)) (fun _ wr => s.size - wr.iterPos (w.heap.size + 1))
 case atStart => exact ⟨0, [], hit0, hBi, hbi, Nat.le_refl _, rfl⟩
 case round =>
  obtain ⟨pos, done, hit, hB, hbd, hdl, HS⟩ := hrel
  have hpos0 := iterPos_of hit
  have hql := quotedB_len done
  by_cases hp : pos < s.size
  ·obtain ⟨W1, hnx, hit2, hB2, hsz2, hoth⟩ := next_str (P := Tryz.prog) hit hB (Nat.le_succ _) hp
   have hbd1 := isB_iter hbd hit hoth
   have hstep := Lib.hid (rl_step s pos hp)
   have hd := dec_pos s pos hp
   have hle := decode_le s pos
   have hqc : (Lib.byteCells (quotedB done)).length = (quotedB done).length := by simp [Lib.byteCells]
   have hsW : w.heap.size ≤ W1.heap.size := hB2.size
   by_cases hc : ((Utf8.decode s pos).1 : Int) = 44 ∨ ((Utf8.decode s pos).1 : Int) = 92
   ·have HC : Hid ((((Utf8.decode s pos).1 : Int) == 44 || ((Utf8.decode s pos).1 : Int) == 92) = true) := by
     rcases hc with hc | hc <;> simp [Hid, hc]
    have fin : ∀ (w2 w3 : World) (hw2 : Lib.BuilderAtF 183 5 w.heap.size w.heap.size (.pointer (some ⟨w.heap.size, 0, none⟩)) (Lib.byteCells (quotedB done) ++ [.int .u8 92] ++ Lib.runeCells ((Utf8.decode s pos).1 : Int)) w3) (hb1 : Below w.heap.size W1 w2) (hk1 : Lib.OthersKept 5 (some w.heap.size) W1 w2) (hb2 : Below w.heap.size w2 w3) (hk2 : Lib.OthersKept 5 (some w.heap.size) w2 w3), ∃ (pos' : Nat) (done' : List (Nat × Int)), w3.heap[w.heap.size + 1]? = some (.stringIter s pos') ∧ Below w.heap.size w w3 ∧ Lib.IsBuilderF 183 5 w.heap.size w.heap.size (Lib.byteCells (quotedB done')) w3 ∧ done'.length ≤ pos' ∧ Hid (rl s 0 = done' ++ rl s pos') := by
     intro w2 w3 hw2 hb1 hk1 hb2 hk2
     refine ⟨pos + (Utf8.decode s pos).2, done ++ [(pos, ((Utf8.decode s pos).1 : Int))], hk2.iter (hk1.iter hit2 (by omega)) (by omega), (hB2.trans hb1).trans hb2, ?_, by simp; omega, ?_⟩
     ·rw [quotedB_snoc, if_pos HC.out, Lib.byteCells_append, Lib.byteCells_append, Lib.byteCells_encodeRune, ← List.append_assoc]
      exact .inr hw2
     ·show rl s 0 = _
      rw [HS.out, hstep.out]; simp
    have hcc : ((((Utf8.decode s pos).1 : Int) == 44) = true) ∨ ((((Utf8.decode s pos).1 : Int) == 44) = false ∧ (((Utf8.decode s pos).1 : Int) == 92) = true) := by
     rcases hc with hc | hc
     ·exact .inl (by simp [hc])
     ·exact .inr (by simp [hc])
    clear hc
    rcases hcc with hc1 | ⟨hc1, hc2⟩
    ·go_wp2_with (first | (go_at_call 104; refine (WriteByte_any w.heap.size w.heap.size _ 92 _ hbd1 (by omega) hsW).mono ?_; rintro e w2 ⟨rfl, h1, hb1, hk1⟩) | (go_at_call 105; refine (WriteRune_any w.heap.size w.heap.size _ _ (by omega) (by omega) _ (.inr h1) (by rw [List.length_append, List.length_singleton]; omega) (by have := hb1.size; omega)).mono ?_; rintro e w3 ⟨⟨v, rfl⟩, h2, hb2, hk2⟩))
     go_roundw
     case rel => exact fin w2 _ h2 hb1 hk1 hb2 hk2
     case measure => rw [iterPos_of (hk2.iter (hk1.iter hit2 (by omega)) (by omega)), hpos0]; omega
    ·go_wp2_with (first | (go_at_call 104; refine (WriteByte_any w.heap.size w.heap.size _ 92 _ hbd1 (by omega) hsW).mono ?_; rintro e w2 ⟨rfl, h1, hb1, hk1⟩) | (go_at_call 105; refine (WriteRune_any w.heap.size w.heap.size _ _ (by omega) (by omega) _ (.inr h1) (by rw [List.length_append, List.length_singleton]; omega) (by have := hb1.size; omega)).mono ?_; rintro e w3 ⟨⟨v, rfl⟩, h2, hb2, hk2⟩))
     go_roundw
     case rel => exact fin w2 _ h2 hb1 hk1 hb2 hk2
     case measure => rw [iterPos_of (hk2.iter (hk1.iter hit2 (by omega)) (by omega)), hpos0]; omega
   ·have hc1 : (((Utf8.decode s pos).1 : Int) == 44) = false := by simp; omega
    have hc2 : (((Utf8.decode s pos).1 : Int) == 92) = false := by simp; omega
    clear hc
    go_wp2_with (go_at_call 105; refine (WriteRune_any w.heap.size w.heap.size _ _ (by omega) (by omega) _ hbd1 (by omega) hsW).mono ?_; rintro e w3 ⟨⟨v, rfl⟩, h2, hb2, hk2⟩)
    go_roundw
    case rel =>
     refine ⟨pos + (Utf8.decode s pos).2, done ++ [(pos, ((Utf8.decode s pos).1 : Int))], hk2.iter hit2 (by omega), hB2.trans hb2, ?_, by simp; omega, ?_⟩
     ·rw [quotedB_snoc, if_neg (by rw [hc1, hc2]; decide), List.nil_append, Lib.byteCells_append, Lib.byteCells_encodeRune]
      exact .inr h2
     ·show rl s 0 = _
      rw [HS.out, hstep.out]; simp
    case measure => rw [iterPos_of (hk2.iter hit2 (by omega)), hpos0]; omega
  ·have hnx : ∀ ty, (Instr.next (.pointer (some ⟨w.heap.size + 1, 0, none⟩)) true ty).run Tryz.prog wr = _ := fun ty => Lib.run_next_end_at wr (w.heap.size + 1) s pos ty hit hp
   go_wp2_with (go_at_call 106; refine (Tryz.Builder_String_any_f w.heap.size w.heap.size _ _ hbd hB.size).mono ?_; rintro e w3 ⟨rfl, h2, hb2⟩)
   go_ret
   have h3 := HS.out
   rw [rl_end s pos hp, List.append_nil] at h3
   rw [h3]
   exact ⟨rfl, hB.trans hb2⟩
end Go.Proofs.YthbhmnakmhambaaGreatDoor

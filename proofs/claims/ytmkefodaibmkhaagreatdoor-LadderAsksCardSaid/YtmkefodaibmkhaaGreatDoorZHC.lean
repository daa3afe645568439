/- Package hll: greater, ahead, Place; registers at work in memory. Package hll: tell, done, blank, begin. Package hll: done, blank, begin. -/
import Derived.Test.YtmkefodaibmkhaaGreatDoorZH1
import Derived.Test.YtmkefodaibmkhaaGreatDoorZXG
import Derived.Test.YtmkefodaibmkhaaGreatDoorShelf
import Derived.Laws.BytesArg
import Derived.Lib.ConvBytes
import Derived.Lib.MinMax
import Derived.Test.YtmkefodaibmkhaaGreatDoorZF7
import Derived.BigRegion
namespace Go.Proofs.YtmkefodaibmkhaaGreatDoor
open Go Go.RowKit Go.Shelf

/-- Registers at work: a block of bytes that may be stored into. -/
def RegsAt (W : World) (g : Nat) (r : List Nat) : Prop := ∃ cs fz, W.heap[g]? = some (.cells cs 5 fz) ∧ (∀ (j x : Nat), r[j]? = some x → cs[j]? = some (Value.int .u8 (x : Int))) ∧ (fz = (0, 0) ∨ r.length ≤ fz.1)
theorem RegsAt.lt {W : World} {g : Nat} {r : List Nat} (h : RegsAt W g r) : g < W.heap.size := by
  obtain ⟨cs, fz, h1, -⟩ := h
  exact (Array.getElem?_eq_some_iff.1 h1).1
theorem RegsAt.cell {W : World} {g : Nat} {r : List Nat} (h : RegsAt W g r) {j x : Nat} (hx : r[j]? = some x) : W.cell? ⟨g, j, none⟩ = some (.int .u8 (x : Int)) := by
  obtain ⟨cs, fz, h1, h2, -⟩ := h
  simp [World.cell?, h1, h2 j x hx]
theorem RegsAt.frozen {W : World} {g : Nat} {r : List Nat} (h : RegsAt W g r) {j x : Nat} (hx : r[j]? = some x) : W.frozen? ⟨g, j, none⟩ = false := by
  obtain ⟨cs, fz, h1, h2, h3⟩ := h
  have hj := (List.getElem?_eq_some_iff.1 hx).1
  rcases h3 with rfl | h3
  · simp [World.frozen?, h1]
  · simp [World.frozen?, h1]; omega
theorem RegsAt.block {W W' : World} {g : Nat} {r : List Nat} (h : RegsAt W g r) (hb : W'.heap[g]? = W.heap[g]?) : RegsAt W' g r := by
  obtain ⟨cs, fz, h1, h2⟩ := h
  exact ⟨cs, fz, hb.trans h1, h2⟩
theorem RegsAt.grown {W W' : World} {g : Nat} {r : List Nat} {row : Option Nat} (h : RegsAt W g r) (hg : W.grownBy W' row) (hne : some g ≠ row) : RegsAt W' g r := h.block (hg.block g h.lt hne)
theorem RegsAt.go {W W' : World} {g : Nat} {r : List Nat} (h : RegsAt W g r) (hb : Below W.heap.size W W') : RegsAt W' g r := h.block (hb.block g h.lt)
theorem RegsAt.set {W : World} {g : Nat} {r : List Nat} (h : RegsAt W g r) (p k : Nat) : RegsAt (W.setCell ⟨g, p, none⟩ (.int .u8 (k : Int))) g (r.set p k) := by
  obtain ⟨cs, fz, h1, h2, h3⟩ := h
  refine ⟨_, fz, heap_set_known h1 _, fun j x hx => ?_, by rw [List.length_set]; exact h3⟩
  rw [List.getElem?_set] at hx
  rw [Array.getElem?_setIfInBounds]
  by_cases hp : p = j
  · subst hp
    by_cases hl : p < r.length
    · rw [if_pos rfl, if_pos hl] at hx
      cases hx
      have := h2 p _ (List.getElem?_eq_getElem hl)
      rw [if_pos rfl, if_pos (Array.getElem?_eq_some_iff.1 this).1]
    · rw [if_pos rfl, if_neg hl] at hx
      cases hx
  · rw [if_neg hp] at hx
    rw [if_neg hp]
    exact h2 j x hx
theorem RegsAt.other {W : World} {g b o : Nat} {r : List Nat} (h : RegsAt W g r) (hne : b ≠ g) (v : Value) : RegsAt (W.setCell ⟨b, o, none⟩ v) g r := h.block (heap_set_other (p := ⟨b, o, none⟩) hne v)

theorem greater_any (a b : Int) (w : World) : Calls Tryz.prog 184 #[.int .u8 a, .int .u8 b] w fun e w' => e = .returned (.int .u8 (max a b)) ∧ w' = w := by
  go_enter Tryz.func184, Tryz.ntmps184
  go_wp2
  go_ret
  exact ⟨rfl, rfl⟩
theorem ahead_any (n : Int) (w : World) (h0 : 0 ≤ n) (h1 : n ≤ 18446744073709551615) : Calls Tryz.prog 191 #[.int .u64 n] w fun e w' => e = .returned (.int .i64 (64 - (Lib.bitLen n.toNat : Int))) ∧ w' = w := by
  have hcall := Tryz.bits_LeadingZeros64 n w h0 h1
  generalize Lib.bitLen n.toNat = m at hcall ⊢
  go_enter Tryz.func191, Tryz.ntmps191
  go_wp2_with (go_at_call 194; refine hcall.mono ?_; rintro e w' ⟨rfl, rfl⟩)
  go_ret
  exact ⟨rfl, rfl⟩
theorem wrap_u64_mod (m : Nat) : IntKind.u64.wrap (m : Int) = ((m % 2 ^ 64 : Nat) : Int) := by simp [IntKind.wrap, IntKind.bits, IntKind.signed]
theorem wrap64_nat (m : Nat) (h : m < 2 ^ 63) : wrap64 (m : Int) = m := by unfold wrap64; omega
set_option maxRecDepth 100000 in
set_option maxHeartbeats 1000000 in
theorem Place_any (b : Nat) (n : Int) (w : World) (h1 : 3 ≤ b) (h2 : b ≤ 8) (hn : U64 n) : Calls Tryz.prog 186 #[.int .i64 b, .int .u64 n] w fun e w' => e = .returned (.tuple #[.int .i64 (hlAt b n.toNat : Nat), .int .i64 (hlRank b n.toNat : Nat)]) ∧ w' = w := by
  obtain ⟨m, rfl⟩ := Int.eq_ofNat_of_zero_le hn.1
  have hm : m < 2 ^ 64 := by have := hn.2; omega
  rw [Int.toNat_natCast]
  have hib : ∀ w, Calls Tryz.prog 136 #[.int .i64 b] w fun e w' => e = .returned (.bool true) ∧ w' = w := fun w => (isBits_any b w).mono fun e w' ⟨h3, h4⟩ => ⟨by rw [h3]; simp [isBitsB]; omega, h4.symm⟩
  have hw : IntKind.u64.wrap ((m : Int) * 2 ^ b) = ((m * 2 ^ b % 2 ^ 64 : Nat) : Int) := by
    rw [← wrap_u64_mod]; congr 1
  have hd : wrap64 ((m : Int) / 2 ^ (64 - b)) = ((hlAt b m : Nat) : Int) := by
    have h3 := hlAt_lt b m h2 hm
    have h4 : 2 ^ b ≤ 2 ^ 8 := Nat.pow_le_pow_right (by omega) h2
    rw [← wrap64_nat (hlAt b m) (by omega)]; unfold hlAt; congr 1
  have hk : hlRank b m = if m * 2 ^ b % 2 ^ 64 = 0 then 65 - b else 65 - Lib.bitLen (m * 2 ^ b % 2 ^ 64) := rfl
  have ho64 : m * 2 ^ b % 2 ^ 64 < 2 ^ 64 := Nat.mod_lt _ (by decide)
  generalize m * 2 ^ b % 2 ^ 64 = o at hw hk ho64
  generalize hlAt b m = q at hd ⊢
  generalize hlRank b m = k at hk ⊢
  have HK := Lib.hid hk
  clear hk hn hm
  by_cases h0 : o = 0
  · subst h0
    have HK2 : Hid (((65 : Int) - (b : Int)) = (k : Int)) := by have := HK.out; simp at this; show _ = _; omega
    go_enter Tryz.func186, Tryz.ntmps186
    go_wp2_with (go_at_call 136; refine (hib _).mono ?_; rintro e w' ⟨rfl, rfl⟩)
    go_ret2
    exact ⟨by rw [← HK2.out, ← hd]; rfl, rfl⟩
  · have t0 : ((o : Int) != 0) = true := by rw [bne_iff_ne]; omega
    have hA := ahead_any (o : Int) w (by omega) (by omega)
    rw [Int.toNat_natCast] at hA
    have hlen := bitLen_64 o ho64 h0
    have HK2 : Hid ((64 - (Lib.bitLen o : Int)) + 1 = (k : Int)) := by have := HK.out; rw [if_neg h0] at this; show _ = _; omega
    generalize Lib.bitLen o = z at hA hlen HK2
    have hz : (z : Int) ≤ 64 := by omega
    clear HK ho64 h0
    go_enter Tryz.func186, Tryz.ntmps186
    go_wp2_with (first | (go_at_call 136; refine (hib _).mono ?_; rintro e w' ⟨rfl, rfl⟩) | (go_at_call 191; refine hA.mono ?_; rintro e w' ⟨rfl, rfl⟩))
    go_ret2
    exact ⟨by rw [← HK2.out, ← hd]; rfl, rfl⟩
end Go.Proofs.YtmkefodaibmkhaaGreatDoor
namespace Go.Proofs.YtmkefodaibmkhaaGreatDoor
open Go Go.RowKit Go.Shelf

theorem gb_set (W : World) (b o : Nat) (v : Value) : W.grownBy (W.setCell ⟨b, o, none⟩ v) (some b) :=
  ⟨rfl, rfl, rfl, (KeepsWalks.setCell W _ v).size, fun k _ hk => Below.heap_setCell _ _ _ k (fun e => hk (by rw [e]))⟩
theorem gb_drew {W V : World} {row : Option Nat} (h : W.grownBy V row) : W.grownBy V.drew row := ⟨h.os, h.tape, h.output, h.size, h.block⟩
set_option maxRecDepth 100000 in
set_option maxHeartbeats 1000000 in
theorem tell_any (bt : Int) (s : ByteArray) (g len cap p k : Nat) (r : List Nat) (w : World) (hr : RegsAt w g r) (hp : p < r.length) (hl : r.length = len) :
    Calls Tryz.prog 187 #[.agg #[.int .i64 bt, .string s, .slice (some ⟨g, 0, none⟩) len cap, .func (.func 184) #[] #[]], .int .i64 p, .int .u8 k] w fun e w' => e = .returned (.tuple #[]) ∧ RegsAt w' g (hlTell r p k) ∧ w.grownBy w' (some g) := by
  obtain ⟨x, hx⟩ : ∃ x, r[p]? = some x := ⟨_, List.getElem?_eq_getElem hp⟩
  obtain ⟨W0, hW0, hX0, hB0, hs0⟩ := boxes1 w #[.int .i64 bt, .string s, .slice (some ⟨g, 0, none⟩) len cap, .func (.func 184) #[] #[]] 260
  have hr0 : RegsAt W0.drew g r := (hr.go hB0).block rfl
  have hp2 : (p : Int) < len := by omega
  let Inv : World → Prop := fun W => W = W0.drew
  have q0 : ∀ X : WIn Inv, X.world.cell? ⟨w.heap.size, 1, none⟩ = some (.string s) := fun X => by rw [X.ok]; exact cell_of_cells hX0 1
  have q2 : ∀ X : WIn Inv, X.world.cell? ⟨w.heap.size, 2, none⟩ = some (.slice (some ⟨g, 0, none⟩) len cap) := fun X => by rw [X.ok]; exact cell_of_cells hX0 2
  have q3 : ∀ X : WIn Inv, X.world.cell? ⟨w.heap.size, 3, none⟩ = some (.func (.func 184) #[] #[]) := fun X => by rw [X.ok]; exact cell_of_cells hX0 3
  have q4 : ∀ X : WIn Inv, X.world.cell? ⟨g, p, none⟩ = some (.int .u8 x) := fun X => by rw [X.ok]; exact hr0.cell hx
  have KG : Hid (∀ X : WIn Inv, Calls Tryz.prog 184 #[.int .u8 x, .int .u8 k] X.world fun e w' => e = .returned (.int .u8 (max (x : Int) k)) ∧ ∃ Y : WIn Inv, w' = Y.world) := fun X => (greater_any x k X.world).mono fun e w' h => ⟨h.1, X, h.2⟩
  have hne : Nonempty (WIn Inv) := ⟨⟨W0.drew, rfl⟩⟩
  have hI0 : Hid (Inv W0.drew) := rfl
  have hfin : Hid (∀ X : WIn Inv, X.world = W0.drew) := fun X => X.ok
  have HR := Lib.hid hr0
  have HX := Lib.hid hx
  have HG : Hid (w.grownBy W0 none) := by rw [← hW0]; exact World.grownBy_alloc w _ none
  clear_value Inv
  clear hr hr0 hx
  go_enter Tryz.func187, Tryz.ntmps187
  go_wp2_with fail
  refine wp_region_class_lit Inv (l := [_, _, _, _, _, _, _, _, _, _, _, _, _]) (o := _) rfl (by kernel_rfl) (by kernel_rfl) (by kernel_rfl) hI0.out ?_
  repeat (first | go_big_quiet_step ((go_at_call 184; with_reducible exact KG.out _)) | quiet_step ((go_at_call 184; with_reducible exact KG.out _)))
  refine wpQuiet_nil ?_
  rintro _ ⟨X, rfl⟩
  rw [hfin.out X]
  clear hfin hI0 hne KG q0 q2 q3 q4 hW0
  have d0 := HR.out.cell HX.out
  have d1 := HR.out.frozen HX.out
  go_wp2_with fail
  go_end0
  have e : (max (x : Int) (k : Int)) = ((max (r.getD p 0) k : Nat) : Int) := by rw [List.getD_eq_getElem?_getD, HX.out]; simp only [Option.getD_some]; omega
  rw [e]
  exact ⟨rfl, (RegsAt.set (W := W0.drew) HR.out p _).block rfl, gb_drew ((HG.out.but (some g)).trans (gb_set W0 g p _))⟩
end Go.Proofs.YtmkefodaibmkhaaGreatDoor
namespace Go.Proofs.YtmkefodaibmkhaaGreatDoor
open Go Go.RowKit Go.Shelf

theorem und_bytes8 : Tryz.prog.underlying 111 = some (.slice 5) := by kernel_rfl
theorem info_u8 : (Tryz.prog.info? 5).map (fun i => (i.zero, i.size, i.bytes)) = some (some (.int .u8 0), 1, 1) := by kernel_rfl
def hlStr (r : List Nat) : ByteArray := strOfNums (r.map fun (n : Nat) => (n : Int))
theorem make_u8 (w : World) (len : Nat) (h : len ≤ 1000) : ∃ w1, (Instr.makeSlice 111 (.int .i64 (len : Int)) (.int .i64 (len : Int))).run Tryz.prog w = .ok (.slice (some ⟨w.heap.size, 0, none⟩) len len) w1 ∧ RegsAt w1 w.heap.size (List.replicate len 0) ∧ Below w.heap.size w w1 ∧ w1.heap.size = w.heap.size + 1 := by
  obtain ⟨i, hi, hz, hsize, hby⟩ := info_parts info_u8
  have hr := run_makeSlice (P := Tryz.prog) (w := w) 111 5 i _ und_bytes8 hi hz .i64 .i64 (len : Int) (len : Int) (by omega) (Int.le_refl _) (by rw [hsize]; omega) (by rw [hby]; omega) (by omega)
  rw [Int.toNat_natCast] at hr
  refine ⟨_, hr, ⟨_, (0, 0), World.alloc_heap_new _ _, fun j x hx => ?_, .inl rfl⟩, (Below.refl _ w).alloc (Nat.le_refl _) _, by simp⟩
  rw [List.getElem?_replicate] at hx
  split at hx
  · cases hx
    rename_i hj
    rw [hsize, Nat.mul_one]
    simp [madeCells, Value.cells, hj, Nat.mod_one]
  · cases hx
theorem str_cells {W : World} {g len cap : Nat} {r : List Nat} (hr : RegsAt W g r) (hl : r.length = len) : (convert 111 9 (.slice (some ⟨g, 0, none⟩) len cap)).run Tryz.prog W = .ok (.string (hlStr r)) W :=
  run_convert_bytes_arg W 111 5 und_bytes8 Tryz.underlying5 g 0 len cap (r.map fun (n : Nat) => (n : Int)) (by rw [List.length_map, hl]) (fun i hi => by
    have hx := List.getElem?_eq_getElem (show i < r.length by omega)
    rw [Nat.zero_add, hr.cell hx]
    simp [List.getD_eq_getElem?_getD, hx]) 9 Tryz.underlying9
set_option maxRecDepth 100000 in
set_option maxHeartbeats 1000000 in
theorem hdone_any (bt : Int) (s : ByteArray) (g len cap : Nat) (pk : Value) (r : List Nat) (w : World) (hr : RegsAt w g r) (hl : r.length = len) :
    Calls Tryz.prog 181 #[.agg #[.int .i64 bt, .string s, .slice (some ⟨g, 0, none⟩) len cap, pk]] w fun e w' => e = .returned (.agg #[.int .i64 bt, .string (hlStr r)]) ∧ Below w.heap.size w w' := by
  obtain ⟨W0, hW0, hX0, hX1, hB0, hs0⟩ := boxes2 w #[.int .i64 bt, .string s, .slice (some ⟨g, 0, none⟩) len cap, pk] 260 #[.int .i64 0, .string ⟨#[]⟩] 29
  have hcv := str_cells (cap := cap) (hr.go hB0) hl
  have c0 : W0.cell? ⟨w.heap.size, 0, none⟩ = some (.int .i64 bt) := cell_of_cells hX0 0
  have c1 : W0.cell? ⟨w.heap.size, 1, none⟩ = some (.string s) := cell_of_cells hX0 1
  have c2 : W0.cell? ⟨w.heap.size, 2, none⟩ = some (.slice (some ⟨g, 0, none⟩) len cap) := cell_of_cells hX0 2
  have c3 : W0.cell? ⟨w.heap.size, 3, none⟩ = some (pk) := cell_of_cells hX0 3
  have d0 : W0.cell? ⟨w.heap.size + 1, 0, none⟩ = some (.int .i64 0) := cell_of_cells hX1 0
  have d1 : W0.cell? ⟨w.heap.size + 1, 1, none⟩ = some (.string ⟨#[]⟩) := cell_of_cells hX1 1
  have f0 : W0.frozen? ⟨w.heap.size + 1, 0, none⟩ = false := frozen_of_cells hX1 0
  have f1 : W0.frozen? ⟨w.heap.size + 1, 1, none⟩ = false := frozen_of_cells hX1 1
  generalize hlStr r = out at hcv ⊢
  have HX := Lib.hid hX1
  clear hr hl hX0 hX1
  go_enter Tryz.func181, Tryz.ntmps181
  go_wp2_with fail
  have hX2 := set_cells2 (u := .int .i64 bt) (v := .string out) HX.out
  have hB2 := (hB0.setCell (p := ⟨w.heap.size + 1, 0, none⟩) (Nat.le_succ _) (.int .i64 bt)).setCell (p := ⟨w.heap.size + 1, 1, none⟩) (Nat.le_succ _) (.string out)
  generalize (W0.setCell ⟨w.heap.size + 1, 0, none⟩ (.int .i64 bt)).setCell ⟨w.heap.size + 1, 1, none⟩ (.string out) = V at hX2 hB2 ⊢
  have k0 : V.cell? ⟨w.heap.size + 1, 0, none⟩ = some (.int .i64 bt) := cell_of_cells hX2 0
  have k1 : V.cell? ⟨w.heap.size + 1, 1, none⟩ = some (.string out) := cell_of_cells hX2 1
  exact bodyPost_ret (v := .agg #[.int .i64 bt, .string out]) (by simp [results, Tryz.f181, go_sem, k0, k1]) rfl ⟨rfl, hB2⟩
theorem st_fn {W : World} {B off : Nat} {cs : Array Value} {t : TypeId} {old : Value} (h : W.heap[B]? = some (.cells cs t (0, 0))) (ho : cs[off]? = some old) (f : Fn) : (store ⟨B, off, none⟩ (.func f #[] #[])).run Tryz.prog W = .ok () (W.setCell ⟨B, off, none⟩ (.func f #[] #[])) := by
  rw [run_store Tryz.prog W ⟨B, off, none⟩ _ _ (by rfl)]
  simp [World.cell?, World.frozen?, h, ho]
set_option maxRecDepth 100000 in
set_option maxHeartbeats 1000000 in
theorem blank_any (b : Nat) (w : World) (h1 : 3 ≤ b) (h2 : b ≤ 8) :
    Calls Tryz.prog 178 #[.int .i64 b] w fun e w' => ∃ g, e = .returned (.tuple #[.agg #[.int .i64 b, .string ⟨#[]⟩, .slice (some ⟨g, 0, none⟩) (2 ^ b) (2 ^ b), .func (.func 184) #[] #[]], .nilIface]) ∧ RegsAt w' g (hlNone b) ∧ w.heap.size ≤ g ∧ Below w.heap.size w w' := by
  have hib : ∀ w, Calls Tryz.prog 136 #[.int .i64 b] w fun e w' => e = .returned (.bool true) ∧ w' = w := fun w => (isBits_any b w).mono fun e w' ⟨h3, h4⟩ => ⟨by rw [h3]; simp [isBitsB]; omega, h4.symm⟩
  have hp : 2 ^ b ≤ 2 ^ 8 := Nat.pow_le_pow_right (by omega) h2
  have hw : IntKind.i64.wrap (2 ^ b) = ((2 ^ b : Nat) : Int) := by
    have h9 : ∀ n : Nat, n ≤ 256 → IntKind.i64.wrap (n : Int) = n := fun n h => IntWalk.i64_in _ (by omega)
    simpa using h9 (2 ^ b) hp
  unfold hlNone
  generalize 2 ^ b = len at hp hw ⊢
  obtain ⟨W0, hW0, hX0, hB0, hs0⟩ := boxes1 w #[.int .i64 0, .string ⟨#[]⟩, .slice none 0 0, .nilFunc] 260
  obtain ⟨W1, hmk, hr1, hB1, hs1⟩ := make_u8 W0 len (by omega)
  have hX1 := (hB1.block _ (by omega)).trans hX0
  rw [hs0] at hmk hr1
  have d0 : W1.cell? ⟨w.heap.size, 0, none⟩ = some (.int .i64 0) := cell_of_cells hX1 0
  have d1 : W1.cell? ⟨w.heap.size, 1, none⟩ = some (.string ⟨#[]⟩) := cell_of_cells hX1 1
  have d2 : W1.cell? ⟨w.heap.size, 2, none⟩ = some (.slice none 0 0) := cell_of_cells hX1 2
  have d3 : W1.cell? ⟨w.heap.size, 3, none⟩ = some (.nilFunc) := cell_of_cells hX1 3
  have f0 : W1.frozen? ⟨w.heap.size, 0, none⟩ = false := frozen_of_cells hX1 0
  have f1 : W1.frozen? ⟨w.heap.size, 1, none⟩ = false := frozen_of_cells hX1 1
  have f2 : W1.frozen? ⟨w.heap.size, 2, none⟩ = false := frozen_of_cells hX1 2
  have f3 : W1.frozen? ⟨w.heap.size, 3, none⟩ = false := frozen_of_cells hX1 3
  have HR := Lib.hid hr1
  have HB := Lib.hid (hB0.trans (hB1.mono hB0.size))
  obtain ⟨W4, hW4⟩ : ∃ W4, ((W1.setCell ⟨w.heap.size, 0, none⟩ (.int .i64 b)).setCell ⟨w.heap.size, 1, none⟩ (.string ⟨#[]⟩)).setCell ⟨w.heap.size, 2, none⟩ (.slice (some ⟨w.heap.size + 1, 0, none⟩) len len) = W4 := ⟨_, rfl⟩
  have hX4 : W4.heap[w.heap.size]? = some (.cells #[.int .i64 b, .string ⟨#[]⟩, .slice (some ⟨w.heap.size + 1, 0, none⟩) len len, .nilFunc] 260 (0, 0)) := by rw [← hW4]; exact heap_set_known (heap_set_known (heap_set_known hX1 _) _) _
  have hB4 : Below w.heap.size w W4 := by rw [← hW4]; exact (((hB0.trans (hB1.mono hB0.size)).setCell (p := ⟨w.heap.size, 0, none⟩) (Nat.le_refl _) _).setCell (p := ⟨w.heap.size, 1, none⟩) (Nat.le_refl _) _).setCell (p := ⟨w.heap.size, 2, none⟩) (Nat.le_refl _) _
  have hr4 : RegsAt W4 (w.heap.size + 1) (List.replicate len 0) := by rw [← hW4]; exact ((hr1.other (by omega) _).other (by omega) _).other (by omega) _
  have hst := st_fn (off := 3) hX4 rfl (.func 184)
  clear hp hX0 hX1 hr1 hB0 hB1 hs1
  go_enter Tryz.func178, Tryz.ntmps178
  go_wp2_with (first | (go_at_call 136; refine (hib _).mono ?_; rintro e w' ⟨rfl, rfl⟩) | fail)
  have hX5 : (W4.setCell ⟨w.heap.size, 3, none⟩ (.func (.func 184) #[] #[])).heap[w.heap.size]? = some (.cells #[.int .i64 b, .string ⟨#[]⟩, .slice (some ⟨w.heap.size + 1, 0, none⟩) len len, .func (.func 184) #[] #[]] 260 (0, 0)) := heap_set_known hX4 _
  have hB5 := hB4.setCell (p := ⟨w.heap.size, 3, none⟩) (Nat.le_refl _) (.func (.func 184) #[] #[])
  have hr5 := hr4.other (b := w.heap.size) (o := 3) (by omega) (.func (.func 184) #[] #[])
  generalize W4.setCell ⟨w.heap.size, 3, none⟩ (.func (.func 184) #[] #[]) = V at hX5 hB5 hr5 ⊢
  have k0 : V.cell? ⟨w.heap.size, 0, none⟩ = some (.int .i64 b) := cell_of_cells hX5 0
  have k1 : V.cell? ⟨w.heap.size, 1, none⟩ = some (.string ⟨#[]⟩) := cell_of_cells hX5 1
  have k2 : V.cell? ⟨w.heap.size, 2, none⟩ = some (.slice (some ⟨w.heap.size + 1, 0, none⟩) len len) := cell_of_cells hX5 2
  have k3 : V.cell? ⟨w.heap.size, 3, none⟩ = some (.func (.func 184) #[] #[]) := cell_of_cells hX5 3
  exact bodyPost_ret (v := .tuple #[.agg #[.int .i64 b, .string ⟨#[]⟩, .slice (some ⟨w.heap.size + 1, 0, none⟩) len len, .func (.func 184) #[] #[]], .nilIface]) (by simp [results, Tryz.f178, go_sem, k0, k1, k2, k3]) rfl ⟨_, rfl, hr5, Nat.le_succ _, hB5⟩
theorem run_bytes_of (W : World) (s : ByteArray) : ∃ W1 cap, (convert 9 111 (.string s)).run Tryz.prog W = .ok (.slice (some ⟨W.heap.size, 0, none⟩) s.size cap) W1 ∧ RegsAt W1 W.heap.size (s.data.toList.map (·.toNat)) ∧ Below W.heap.size W W1 ∧ W1.heap.size = W.heap.size + 1 := by
  refine ⟨_, _, Lib.run_convert_string_bytes W 9 111 5 s Tryz.underlying9 und_bytes8 Tryz.underlying5, ⟨_, _, Lib.bytesWorld_at_new W 5 s, fun j x hx => ?_, .inr ?_⟩, ?_, Lib.bytesWorld_size W _ s⟩
  · rw [List.getElem?_map] at hx
    cases hb : s.data.toList[j]? with
    | none => rw [hb] at hx; cases hx
    | some y =>
      rw [hb] at hx
      cases hx
      have hj := (List.getElem?_eq_some_iff.1 hb).1
      rw [Array.length_toList] at hj
      unfold Lib.bytesCells
      rw [Array.getElem?_append_left (by simpa using hj), Array.getElem?_map, ← Array.getElem?_toList, hb]
      rfl
  · simp [Lib.bytesCells]
  · exact (Below.refl _ W).grown (row := none) ⟨rfl, rfl, rfl, by rw [Lib.bytesWorld_size]; omega, fun k hk _ => Lib.bytesWorld_at_old W _ s k hk⟩ (Nat.le_refl _) (fun k e => by cases e)
end Go.Proofs.YtmkefodaibmkhaaGreatDoor

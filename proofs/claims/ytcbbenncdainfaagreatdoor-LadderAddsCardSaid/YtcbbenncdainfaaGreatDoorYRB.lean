/- Package hist: blank, begin. slices.Sorted(maps.Keys(..)) at the keys of a histogram's counts: the kit's contracts, laid at this program by hand. Package hist: done. Package hist: Add. The references of layers 7 and 8: Right, Same. -/
import Derived.Shelf.SlIterI.Nil
import Derived.Ground.GgzProg
import Derived.Test.YtcbbenncdainfaaGreatDoorYRA
namespace Go.Proofs.YtcbbenncdainfaaGreatDoor
open Go Go.RowKit Go.Shelf Go.Maps
theorem binPut_last (a : List (Int × Int)) (b : Int × Int) (h : BinUp (a ++ [b])) : binPut a b.1 b.2 = a ++ [b] := hiPuts_self [b] a h
theorem mapIs_new (w : World) : MapIs (w.alloc (.map #[] 0)) w.heap.size 0 [] := ⟨0, _, World.ownsMap_made _ _ _ _, Nat.le_refl _, fun _ _ => rfl⟩
set_option maxRecDepth 100000 in
set_option maxHeartbeats 1000000 in
theorem hblank_any (f : Nat) (w : World) (hf : f ≤ 3) :
  Calls Tryz.prog 204 #[.int .i64 f] w fun e w' => ∃ b, e = .returned (.tuple #[.agg #[.map (some b), .int .i64 f], .nilIface]) ∧ MapIs w' b 0 [] ∧ w.heap.size ≤ b ∧ Below w.heap.size w w' := by
 have hib := isFine_ok f hf
 have hmm := @run_makeMap Tryz.prog
 obtain ⟨W0, hW0, hX0, hB0, hs0⟩ := boxes1 w #[.map none, .int .i64 0] 241
 obtain ⟨W1, hW1⟩ : ∃ W1, W0.alloc (.map #[] 0) = W1 := ⟨_, rfl⟩
 have hM1 : MapIs W1 (w.heap.size + 1) 0 [] := by rw [← hW1, ← hs0]; exact mapIs_new W0
 have hX1 : W1.heap[w.heap.size]? = some (.cells #[.map none, .int .i64 0] 241 (0, 0)) := by rw [← hW1]; exact (Below.heap_alloc _ _ _ (by omega)).trans hX0
 have hB1 : Below w.heap.size w W1 := by rw [← hW1]; exact hB0.alloc hB0.size _
 obtain ⟨d0, d1⟩ := cl2 hX1
 obtain ⟨g0, g1⟩ := cz2 hX1
 have hX2 := set_cells2 (u := .map (some (w.heap.size + 1))) (v := .int .i64 f) hX1
 have hB2 := (hB1.setCell (p := ⟨w.heap.size, 0, none⟩) (Nat.le_refl _) (.map (some (w.heap.size + 1)))).setCell (p := ⟨w.heap.size, 1, none⟩) (Nat.le_refl _) (.int .i64 f)
 have hM2 := (hM1.kept (gb_set W1 w.heap.size 0 (.map (some (w.heap.size + 1)))) (by simp)).kept (gb_set _ w.heap.size 1 (.int .i64 f)) (by simp)
 clear hX0 hX1 hB0 hB1 hM1
 go_enter Tryz.func204, Tryz.ntmps204
 go_wp2_with (first | (go_at_call 105; refine (hib _).mono ?_; rintro e w' ⟨rfl, rfl⟩) | fail)
 generalize (W1.setCell ⟨w.heap.size, 0, none⟩ (.map (some (w.heap.size + 1)))).setCell ⟨w.heap.size, 1, none⟩ (.int .i64 f) = V at hX2 hB2 hM2 ⊢
 obtain ⟨k0, k1⟩ := cl2 hX2
 exact bodyPost_ret (v := .tuple #[.agg #[.map (some (w.heap.size + 1)), .int .i64 f], .nilIface]) (by simp [results, Tryz.f204, go_sem, k0, k1]) rfl ⟨_, rfl, hM2, Nat.le_succ _, hB2⟩
set_option maxRecDepth 100000 in
set_option maxHeartbeats 1000000 in
theorem hbegin9_any (f : Nat) (l : List (Int × Int)) (a : Option Addr) (len cap : Nat) (w : World) (hf : f ≤ 3) (hL : SlE encB 2 w.heap.size w a len l) (hr : hiRight f l = true) (hu : BinUp l) (hbu : BinsU l) (hlen : len ≤ 1000) (hp : ∀ b ∈ l, I64 b.1) (hm : len ≤ maxLen) :
  Calls Tryz.prog 198 #[.agg #[.int .i64 f, .slice a len cap]] w fun e w' => ∃ b, e = .returned (.tuple #[.agg #[.map (some b), .int .i64 f], .nilIface]) ∧ MapIs w' b l.length l ∧ w.heap.size ≤ b ∧ Below w.heap.size w w' := by
 have hR : Hid (∀ w1, Below w.heap.size w w1 → Calls Tryz.prog 98 #[.agg #[.int .i64 f, .slice a len cap]] w1 fun e w' => e = .returned (.bool true) ∧ Below w1.heap.size w1 w') := fun w1 hb => (hist_Right_any f l a len cap w1 ((hL.below hb).mono hb.size) hm (fun b hb => (hp b hb).2)).mono fun e w' h => ⟨by rw [h.1, hr], h.2⟩
 have hB := fun w => hblank_any f w hf
 obtain ⟨W0, hW0, hXp, hX0, hB0, hs0⟩ := boxes2 w #[.int .i64 f, .slice a len cap] 31 #[.map none, .int .i64 0] 241
 have HX0 := Lib.hid hX0
 have HXP := Lib.hid hXp
 obtain ⟨z0, z1⟩ := cl2 hXp
 clear hX0 hXp
 go_enter Tryz.func198, Tryz.ntmps198
 go_wp2_with fail
 refine (hR.out _ hB0).mono ?_
 rintro e w1 ⟨rfl, hb1⟩
 have hXp1 := known hb1 (Nat.le_refl _) HXP.out
 obtain ⟨y0, y1⟩ := cl2 hXp1
 go_wp2_with fail
 refine (hB _).mono ?_
 rintro e w2 ⟨b, rfl, hm2, hb2, hB2⟩
 obtain ⟨W3, hW3, hX3, hB3, hs3⟩ := boxes1 w2 #[.map (some b), .int .i64 f] 241
 have hbl := hm2.lt
 have hb1s := hb1.size
 have hB2s := hB2.size
 have hXp3 := known (hB2.trans (hB3.mono hB2s)) (Nat.le_refl _) hXp1
 have hXr3 := known (hB2.trans (hB3.mono hB2s)) (Nat.le_refl _) (known hb1 (Nat.le_refl _) HX0.out)
 have hM3 : MapIs W3 b 0 [] := hm2.kept (below_gb hB3 none) (by simp)
 have hB03 : Below w.heap.size w W3 := (hB0.trans (hb1.mono (by omega))).trans ((hB2.mono (by omega)).trans (hB3.mono (by omega)))
 have HX3 := Lib.hid hX3
 have HXR := Lib.hid hXr3
 obtain ⟨q0, q1⟩ := cl2 hXp3
 have HL := Lib.hid hL
 have HU : Hid (BinUp l ∧ BinsU l ∧ (∀ b ∈ l, I64 b.1) ∧ len ≤ 1000 ∧ len = l.length) := ⟨hu, hbu, hp, hlen, hL.1⟩
 have HB03 := Lib.hid hB03
 clear hXp1 hXp3 hXr3 hX3 hB3 hB2 hb1 hm2 hL hu hbu hp hr hm hB03
 have hlen9 := hlen
 go_wp2_with fail
 go_loopw [7, 23] (fun _ i wr => ∃ k : Nat, k ≤ len ∧ i = .int .i64 k ∧ MapIs wr b k (l.take k) ∧ W3.grownBy wr (some b)) (fun _ i _ => len - (intOf i).toNat)
 case atStart => exact ⟨0, Nat.zero_le _, rfl, hM3, World.grownBy.refl _ _⟩
 case round =>
  obtain ⟨k, hk, rfl, hM, hG⟩ := hrel
  have hXw := (hG.block _ (Array.getElem?_eq_some_iff.1 HX3.out).1 (fun e => by cases e; omega)).trans HX3.out
  have hXr := (hG.block _ (Array.getElem?_eq_some_iff.1 HXR.out).1 (fun e => by cases e; omega)).trans HXR.out
  have hBw : Below w.heap.size w wr := HB03.out.grown hG HB03.out.size (fun j e => by cases e; omega)
  by_cases hlt : k < len
  ·obtain ⟨x, b1, o1, hx, ea, hb1, p0, p1⟩ := bin_cells (HL.out.below hBw) hlt
   subst ea
   have HX := Lib.hid hx
   have hxi : I64 x.1 := HU.out.2.2.1 x (List.mem_of_getElem? hx)
   have hxu : U64 x.2 := HU.out.2.1 x (List.mem_of_getElem? hx)
   obtain ⟨x1, x2⟩ := x
   dsimp only at p0 p1 hxi hxu
   obtain ⟨W4, hW4, hX4, hB4, hs4⟩ := boxes1 wr #[.int .i64 x1, .int .u64 x2] 123
   have hM4 : MapIs W4 b k (l.take k) := hM.kept (below_gb hB4 none) (by simp)
   have hXw4 := known hB4 (Nat.le_refl _) hXw
   have hP := put_any b k f x1 x2 (l.take k) W4 hM4 hxi hxu (by omega) (HU.out.1.sublist (List.take_sublist _ _)) (fun c hc => HU.out.2.1 c (List.mem_of_mem_take hc))
   obtain ⟨u0, u1⟩ := cl2 hX4
   obtain ⟨v0, v1⟩ := cl2 hXw4
   have HG := Lib.hid (hG.trans (below_gb hB4 (some b)))
   clear hx hXw hXr hX4 hXw4 hM4 hM hB4 hG
   go_wp2_with fail
   refine hP.mono ?_
   rintro e w6 ⟨rfl, hM6, hG6⟩
   go_wp2_with fail
   go_roundw
   case rel => exact ⟨k + 1, by omega, by simp, by rw [take_snoc' HX.out, ← binPut_last _ _ (by rw [← take_snoc' HX.out]; exact HU.out.1.sublist (List.take_sublist _ _))]; exact hM6, HG.out.trans hG6⟩
   case measure => simp [intOf]; omega
  ·obtain rfl : k = len := by omega
   have hMl : MapIs wr b l.length l := by have := hM; rwa [List.take_of_length_le (by rw [HU.out.2.2.2.2]; exact Nat.le_refl _), HU.out.2.2.2.2] at this
   obtain ⟨u0, u1⟩ := cl2 hXw
   obtain ⟨o0, o1⟩ := cl2 hXr
   obtain ⟨g0, g1⟩ := cz2 hXr
   have hX6 := set_cells2 (u := .map (some b)) (v := .int .i64 f) hXr
   have hB6 := (hBw.setCell (p := ⟨w.heap.size + 1, 0, none⟩) (Nat.le_succ _) (.map (some b))).setCell (p := ⟨w.heap.size + 1, 1, none⟩) (Nat.le_succ _) (.int .i64 f)
   have hM7 := (hMl.kept (gb_set wr (w.heap.size + 1) 0 (.map (some b))) (by simp; omega)).kept (gb_set _ (w.heap.size + 1) 1 (.int .i64 f)) (by simp; omega)
   clear hXw hXr hM hMl hG hBw
   go_wp2_with fail
   generalize (wr.setCell ⟨w.heap.size + 1, 0, none⟩ (.map (some b))).setCell ⟨w.heap.size + 1, 1, none⟩ (.int .i64 f) = V at hX6 hB6 hM7 ⊢
   obtain ⟨j0, j1⟩ := cl2 hX6
   exact bodyPost_ret (v := .tuple #[.agg #[.map (some b), .int .i64 f], .nilIface]) (by simp [results, Tryz.f198, go_sem, j0, j1]) rfl ⟨b, rfl, hM7, by omega, hB6⟩
end Go.Proofs.YtcbbenncdainfaaGreatDoor
namespace Go.Proofs
open Go.RowKit Go.Maps Go.Sort Go.Shelf
def Tryz.keysA_ren : Go.Shelf.Ren := ⟨fun | 7 => 207 | 10 => 211 | n => n, fun | 23 => 239 | 26 => 3 | 3 => 43 | 28 => 126 | 0 => 0 | 27 => 125 | 33 => 139 | 4 => 4 | n => n, fun | n => n⟩
theorem Tryz.keysA : Go.Proofs.SlLaysZI.n7 Tryz.prog Tryz.keysA_ren := {
 mixed := by kernel_rfl
 f7 := ⟨Tryz.f207.name, by decide, Tryz.func207.trans (congrArg some (by kernel_rfl))⟩
 f10 := ⟨Tryz.f211.name, by decide, Tryz.func211.trans (congrArg some (by kernel_rfl))⟩
 t0 := by kernel_rfl
 a0 := fun w => by kernel_rfl
 z0 := fun w => by kernel_rfl
 v0 := fun w => by kernel_rfl
 t4 := by kernel_rfl
 a4 := fun w => by kernel_rfl
 z4 := fun w => by kernel_rfl
 v4 := fun w => by kernel_rfl
 t23 := by kernel_rfl
 a23 := fun w => by kernel_rfl
 z23 := fun w => by kernel_rfl
 v23 := fun w => by kernel_rfl
 t26 := by kernel_rfl
 a26 := fun w => by kernel_rfl
 z26 := fun w => by kernel_rfl
 v26 := fun w => by kernel_rfl
 t27 := by kernel_rfl
 a27 := fun w => by kernel_rfl
 z27 := fun w => by kernel_rfl
 v27 := fun w => by kernel_rfl
 t28 := by kernel_rfl
 a28 := fun w => by kernel_rfl
 z28 := fun w => by kernel_rfl
 v28 := fun w => by kernel_rfl
 t33 := by kernel_rfl
 a33 := fun w => by kernel_rfl
 z33 := fun w => by kernel_rfl
 v33 := fun w => by kernel_rfl }
def Tryz.sortedA_ren : Go.Shelf.Ren := ⟨fun | 6 => 206 | 8 => 209 | 9 => 210 | 11 => 212 | n => n, fun | 26 => 3 | 28 => 126 | 24 => 253 | 0 => 0 | 3 => 3 | 33 => 139 | n => n, fun | n => n⟩
theorem Tryz.sortedA : Go.Proofs.SlLaysZI.n6 Tryz.prog Tryz.sortedA_ren := {
 mixed := by kernel_rfl
 f6 := ⟨Tryz.f206.name, by decide, Tryz.func206.trans (congrArg some (by kernel_rfl))⟩
 f8 := ⟨Tryz.f209.name, by decide, Tryz.func209.trans (congrArg some (by kernel_rfl))⟩
 f11 := ⟨Tryz.f212.name, by decide, Tryz.func212.trans (congrArg some (by kernel_rfl))⟩
 t0 := by kernel_rfl
 a0 := fun w => by kernel_rfl
 z0 := fun w => by kernel_rfl
 v0 := fun w => by kernel_rfl
 t24 := by kernel_rfl
 a24 := fun w => by kernel_rfl
 z24 := fun w => by kernel_rfl
 v24 := fun w => by kernel_rfl
 t26 := by kernel_rfl
 a26 := fun w => by kernel_rfl
 z26 := fun w => by kernel_rfl
 v26 := fun w => by kernel_rfl
 t28 := by kernel_rfl
 a28 := fun w => by kernel_rfl
 z28 := fun w => by kernel_rfl
 v28 := fun w => by kernel_rfl
 i26 := by kernel_rfl }
end Go.Proofs
namespace Go.Proofs.YtcbbenncdainfaaGreatDoor
open Go Go.RowKit Go.Shelf Go.Maps Go.Sort
theorem sortsA (m : Nat) : AnyZI.SortsIn Tryz.prog Tryz.sortedA_ren Fence.wide m :=
 ⟨fun blk off cap ss W hH hblk hsz => callsIn_wide.2 (Tryz.slices_Sort_int blk off cap ss W hH hblk hsz), fun p cap W => callsIn_wide.2 (Tryz.slices_Sort_int_none p cap W)⟩
theorem keys_any (mb : Option Nat) (W : World) : Calls Tryz.prog 207 #[.map mb] W fun e w' => e = .returned (.func (.func 211) #[] #[.pointer (some ⟨W.heap.size, 0, none⟩)]) ∧ w' = W.alloc (.cells #[.map mb] 239) :=
 (callsIn_wide (n := 5)).1 (AnyZI.keys_in Tryz.keysA Fence.wide 5 trivial rfl mb W)
theorem sorted_any (b nn : Nat) (D : DataW Unit) (w : World) (hown : w.ownsMap Tryz.prog 3 (plainElem Tryz.prog 43) b nn D) (hs : Maps.size D ≤ 100000) :
  Calls Tryz.prog 206 #[.func (.func 211) #[] #[.pointer (some ⟨w.heap.size, 0, none⟩)]] (w.alloc (.cells #[.map (some b)] 239)) fun e w' => ∃ (v : Value) (ss : List Int), e = .returned v ∧ ss.Perm (intKeys D) ∧
   w'.ownsRow w.heap.size 3 1 v ss.length ((ss.mergeSort (fun x y => decide (x ≤ y))).map encZ) ∧ (v = .slice none 0 0 ↔ ss = []) ∧ Below w.heap.size w w' := by
 have hbl := hown.lt
 have hseq : SeqGives Fence.wide 2 Tryz.prog 211 #[.pointer (some ⟨w.heap.size, 0, none⟩)] encZ (fun ss => ss.Perm (intKeys D)) (Maps.size D) (w.alloc (.cells #[.map (some b)] 239)) :=
  AnyZI.keys_gives (ρ := Tryz.keysA_ren) { Tryz.keysA with } Fence.wide _ trivial rfl (by omega) w.heap.size b nn D _ (by simp) (by simp) (by
   obtain ⟨es, clock, hb, Ft, hs, hD⟩ := hown
   exact ⟨es, clock, (Below.heap_alloc _ _ b hbl).trans hb, Ft, hs, hD⟩)
 have cS := AnyZI.sorted_in Tryz.sortedA Fence.wide 5 trivial trivial trivial trivial rfl (by omega) (sortsA _) (enters_of Tryz.func210 (by kernel_rfl) rfl) 211 #[.pointer (some ⟨w.heap.size, 0, none⟩)] trivial (enters_of Tryz.func211 (by kernel_rfl) rfl) _ _ (by unfold maxLen; omega) (by omega) _ hseq
 change CallsIn _ _ Tryz.prog 206 _ _ _ at cS
 refine (callsIn_wide (n := 5)).1 (cS.mono ?_)
 rintro e w' ⟨v, ss, h1, h2, h3, h4, h5⟩
 exact ⟨v, ss, h1, h2, owns_base h3 (by simp), h4, ((Below.refl _ w).alloc (Nat.le_refl _) _).trans (h5.mono (by simp))⟩
end Go.Proofs.YtcbbenncdainfaaGreatDoor
namespace Go.Proofs.YtcbbenncdainfaaGreatDoor
open Go Go.RowKit Go.Shelf Go.Maps Go.Sort
theorem binAt_done : ∀ (l : List (Int × Int)) (p : Int), BinUp l → binAt (hiDone l) p = match binAt l p with
  | some x => if x = 0 then none else some x
  | none => none
 | [], p, _ => rfl
 | (q, m) :: t, p, h => by
  obtain ⟨h1, h2⟩ := binUp_tail h
  have ih := binAt_done t p h1
  have hno : q = p → binAt (hiDone t) p = none := fun e => binAt_none (fun c hc => by have := h2 c (List.mem_filter.1 hc).1; rw [← e]; exact this)
  rw [binAt_cons]
  unfold hiDone
  rw [List.filter_cons]
  by_cases hm : m = 0
  ·subst hm
   rw [if_neg (by simp)]
   by_cases hq : q = p
   ·rw [if_pos hq]; exact hno hq
   ·rw [if_neg hq]; exact ih
  ·rw [if_pos (by simpa using hm), binAt_cons]
   by_cases hq : q = p
   ·rw [if_pos hq, if_pos hq]; simp [hm]
   ·rw [if_neg hq, if_neg hq]; exact ih
theorem binAt_of : ∀ {l : List (Int × Int)} {p x : Int}, binAt l p = some x → p ∈ l.map Prod.fst
 | b :: t, p, x, h => by
  rw [binAt_cons] at h
  split at h
  ·rename_i e; simp [e]
  ·exact List.mem_cons_of_mem _ (binAt_of h)
theorem binAt_mem : ∀ {l : List (Int × Int)} {p : Int}, p ∈ l.map Prod.fst → binAt l p ≠ none
 | b :: t, p, h => by
  rw [binAt_cons]
  split
  ·simp
  ·rename_i hne
   rcases List.mem_cons.1 h with e | h
   ·exact absurd e.symm hne
   ·exact binAt_mem h
theorem binAt_get : ∀ {l : List (Int × Int)}, BinUp l → ∀ {b : Int × Int}, b ∈ l → binAt l b.1 = some b.2
 | c :: t, hu, b, h => by
  obtain ⟨h1, h2⟩ := binUp_tail hu
  rw [binAt_cons]
  rcases List.mem_cons.1 h with rfl | h
  ·simp
  ·have := h2 b h
   rw [if_neg (by omega)]
   exact binAt_get h1 h
def Swept (l : List (Int × Int)) (left : Lit → Bool) (D : DataW Unit) : Prop := ∀ p z, D.atKey (.int .i64 p) z = match binAt l p with
 | some x => if x = 0 ∧ left (.int .i64 p) = false then z else .lit (.int .u64 x)
 | none => z
theorem swept_start {l : List (Int × Int)} {D : DataW Unit} (h : ∀ p z, D.atKey (.int .i64 p) z = match binAt l p with
 | some x => .lit (.int .u64 x)
 | none => z) : Swept l (Maps.has D) D := fun p z => by
 have h1 := h p
 rw [h1 z]
 cases hb : binAt l p with
 | none => rfl
 | some x =>
  rw [hb] at h1
  have := has_true_of_atKey (k := .int .i64 p) h1
  simp [this]
theorem swept_val {l : List (Int × Int)} {left : Lit → Bool} {D : DataW Unit} {x c : Int} (h : Swept l left D) (hat : ∀ zd, D.atKey (.int .i64 x) zd = .lit (.int .u64 c)) : binAt l x = some c := by
 have h1 := (h x (.lit (.bool true))).symm.trans (hat _)
 cases hb : binAt l x with
 | none => rw [hb] at h1; simp at h1
 | some v =>
  rw [hb] at h1
  simp only at h1
  split at h1
  ·simp at h1
  ·simp at h1; rw [h1]
theorem sameKey_int (q x : Int) : (Lit.int .i64 q).sameKey (.int .i64 x) = decide (q = x) := by
 by_cases h : q = x
 ·subst h; rw [WideAt.sameKey_self (a := .int .i64 q) trivial]; simp
 ·rw [sameKey_ne (by simpa using h)]; simp [h]
theorem swept_struck {l : List (Int × Int)} {left : Lit → Bool} {D : DataW Unit} {x : Int} (h : Swept l left D) (hat : ∀ zd, D.atKey (.int .i64 x) zd = .lit (.int .u64 0)) : Swept l (fun z => left z && !z.sameKey (.int .i64 x)) (D.del (.int .i64 x)) := fun q z => by
 have hv := swept_val h hat
 by_cases hq : q = x
 ·subst hq
  rw [atKey_del_same, hv]
  simp [sameKey_int]
 ·rw [atKey_del_other (by simpa using hq), h q z]
  simp [sameKey_int, hq]
theorem swept_stays {l : List (Int × Int)} {left : Lit → Bool} {D : DataW Unit} {x c : Int} (h : Swept l left D) (hc : c ≠ 0) (hat : ∀ zd, D.atKey (.int .i64 x) zd = .lit (.int .u64 c)) : Swept l (fun z => left z && !z.sameKey (.int .i64 x)) D := fun q z => by
 have hv := swept_val h hat
 rw [h q z]
 by_cases hq : q = x
 ·subst hq
  rw [hv]
  simp [hc]
 ·simp [sameKey_int, hq]
theorem swept_end {l : List (Int × Int)} {left : Lit → Bool} {D : DataW Unit} (hu : BinUp l) (h : Swept l left D) (hl : ∀ k, left k = false) : ∀ p z, D.atKey (.int .i64 p) z = match binAt (hiDone l) p with
 | some x => .lit (.int .u64 x)
 | none => z := fun p z => by
 rw [h p z, binAt_done l p hu]
 cases binAt l p with
 | none => rfl
 | some x =>
  by_cases hx : x = 0
  ·simp [hx, hl]
  ·simp [hx]
theorem done_keys {w : World} {b nn : Nat} {D : DataW Unit} {l : List (Int × Int)} (hown : w.ownsMap Tryz.prog 3 (plainElem Tryz.prog 43) b nn D) (hu : BinUp l) (hE : ∀ p z, D.atKey (.int .i64 p) z = match binAt l p with
  | some x => .lit (.int .u64 x)
  | none => z) {ss : List Int} (h : ss.Perm (intKeys D)) : ss.mergeSort (fun x y => decide (x ≤ y)) = l.map Prod.fst := by
 obtain ⟨es, hD, hpw, _⟩ := hown.entries lawI
 obtain ⟨es', hD', hko⟩ := hown.keysOf
 obtain rfl : es = es' := by rw [hD] at hD'; simpa using hD'
 subst hD
 have hup : (l.map Prod.fst).Pairwise (· < ·) := List.pairwise_map.2 hu
 have hp := perm_intKeys hpw (fun p hp => by obtain ⟨v, hv⟩ := hko p hp; obtain ⟨x, _, hx, _⟩ := Maps.keyOf_i64 Tryz.underlying3 hv; exact ⟨x, hx⟩) (ss := l.map Prod.fst) (hup.imp (fun {a b} h => by omega)) (fun x => by
  cases hb : binAt l x with
  | none =>
   have h1 : ∀ z, (DataW.map es).atKey (.int .i64 x) z = z := fun z => by rw [hE x z, hb]
   rw [has_false_of_atKey h1]
   refine ⟨fun hx => ?_, fun h => by simp at h⟩
   exact absurd hb (binAt_mem hx)
  | some y =>
   have h1 : ∀ z, (DataW.map es).atKey (.int .i64 x) z = .lit (.int .u64 y) := fun z => by rw [hE x z, hb]
   rw [has_true_of_atKey h1]
   exact ⟨fun _ => rfl, fun _ => binAt_of hb⟩)
 rw [show (fun x y : Int => decide (x ≤ y)) = leI from rfl, mergeSort_of_perm_i (h.trans hp.symm)]
 exact List.mergeSort_of_pairwise (hup.imp (fun {a b} h => by simp; omega))
theorem gb_below {A B C : World} {row : Option Nat} (h : A.grownBy B row) (hb : Below A.heap.size B C) : A.grownBy C row := ⟨hb.os.trans h.os, hb.tape.trans h.tape, hb.output.trans h.output, Nat.le_trans h.size hb.size, fun k hk hne => (hb.block k hk).trans (h.block k hk hne)⟩
theorem meas_succ {k n : Nat} (h : k < n) : n - (k + 1) < n - k := by omega
theorem slC_of_owns_set {α : Type} {enc : α → List Value} {w : World} {base e size : Nat} {v : Value} {l : List α} (hk : ∀ x, (enc x).length = size) (h : w.ownsRow base e size v l.length (l.flatMap enc)) {b : Nat} (hb : b < base) (u z : Value) :
  ∃ a cap, v = .slice a l.length cap ∧ SlC enc size ((w.setCell ⟨b, 0, none⟩ u).setCell ⟨b, 1, none⟩ z).heap.size ((w.setCell ⟨b, 0, none⟩ u).setCell ⟨b, 1, none⟩ z) a l.length cap l ∧ ∀ x, a = some x → base ≤ x.block :=
 slC_of_owns hk (ownsRow_setCell_below (ownsRow_setCell_below h (a := ⟨b, 0, none⟩) hb u) (a := ⟨b, 1, none⟩) hb z)
abbrev encI : Int → List Value := fun x => [encZ x]
theorem flat_encI : ∀ l : List Int, l.flatMap encI = l.map encZ
 | [] => rfl
 | x :: t => by rw [List.flatMap_cons, flat_encI t]; rfl
theorem int_cell {n₀ : Nat} {w : World} {a : Option Addr} {len : Nat} {l : List Int} (h : SlE encI 1 n₀ w a len l) {j : Nat} (hj : j < len) : ∃ x b off, l[j]? = some x ∧ a = some ⟨b, off, none⟩ ∧ b < n₀ ∧ w.cell? ⟨b, off + j, none⟩ = some (.int .i64 x) := by
 obtain ⟨x, b, off, hx, e, hb, hc⟩ := h.at hj
 have := hc 0 (by omega)
 rw [Nat.mul_one, Nat.add_zero] at this
 exact ⟨x, b, off, hx, e, hb, this⟩
attribute [-go_sem] Builtin.append_
theorem sorted_done (b nn : Nat) (D : DataW Unit) (w : World) (l : List (Int × Int)) (hown : w.ownsMap Tryz.prog 3 (plainElem Tryz.prog 43) b nn D) (hs : Maps.size D ≤ 100000) (hu : BinUp l) (hE : ∀ p z, D.atKey (.int .i64 p) z = match binAt l p with
  | some x => .lit (.int .u64 x)
  | none => z) :
  Calls Tryz.prog 206 #[.func (.func 211) #[] #[.pointer (some ⟨w.heap.size, 0, none⟩)]] (w.alloc (.cells #[.map (some b)] 239)) fun e w' => ∃ a5 c5, e = .returned (.slice a5 l.length c5) ∧
   SlC encI 1 w'.heap.size w' a5 l.length c5 (l.map Prod.fst) ∧ (∀ x, a5 = some x → w.heap.size ≤ x.block) ∧ Below w.heap.size w w' := by
 refine (sorted_any b nn D w hown hs).mono ?_
 rintro e w5 ⟨v5, ss, rfl, hperm, hrow, hnil, hb5⟩
 have hk := done_keys hown hu hE hperm
 have hlss : ss.length = l.length := by have := congrArg List.length hk; simpa using this
 rw [hk, hlss] at hrow
 obtain ⟨a5, c5, rfl, hs5, hb5'⟩ := slC_of_owns (enc := encI) (l := l.map Prod.fst) (fun _ => rfl) (by rw [List.length_map]; rw [flat_encI]; exact hrow)
 rw [List.length_map] at hs5 ⊢
 exact ⟨a5, c5, rfl, hs5, hb5', hb5⟩
set_option maxRecDepth 100000 in
set_option maxHeartbeats 2000000 in
theorem hdone9_any (b K : Nat) (f : Int) (l : List (Int × Int)) (w : World) (hm : MapIs w b K l) (hu : BinUp l) (hb : BinsU l) (hi : ∀ c ∈ l, I64 c.1) (hlen : l.length ≤ 5000) (hK : K ≤ 5000) :
  Calls Tryz.prog 202 #[.agg #[.map (some b), .int .i64 f]] w fun e w' => ∃ a len cap, e = .returned (.agg #[.int .i64 f, .slice a len cap]) ∧ SlC encB 2 w'.heap.size w' a len cap (hiDone l) ∧ (∀ x, a = some x → w.heap.size ≤ x.block) ∧ w.grownBy w' (some b) := by
 obtain ⟨W1, hW1, hX1, hR1, hB1, hs1⟩ := boxes2 w #[.map (some b), .int .i64 f] 241 #[.int .i64 0, .slice none 0 0] 31
 obtain ⟨nn, D0, hown0, hnn, hD0⟩ := hm
 have hbl := hown0.lt
 have hown : W1.ownsMap Tryz.prog 3 (plainElem Tryz.prog 43) b nn D0 := hown0.kept (below_gb hB1 none) (by simp)
 obtain ⟨c0, c1⟩ := cl2 hX1
 go_enter Tryz.func202, Tryz.ntmps202
 go_wp2_with (first
  | (at_range; refine wpList_range_own _ rfl _ 239 rfl 3 43 lawI und_counts _ b nn _ rfl hown ?_; intro w0 hrg0 hg0 hs0)
  | go_in)
 go_frame
 have hz0 : w0.heap.size = w.heap.size + 3 := by rw [hs0, hs1]
 rw [hs1] at hrg0 ⊢
 have HZ0 : Hid (w0.heap.size = w.heap.size + 3) := hz0
 have HS1 : Hid (W1.heap.size = w.heap.size + 2) := hs1
 have HX1 := Lib.hid hX1
 have HR1 := Lib.hid hR1
 have HB1 := Lib.hid hB1
 clear hs0 hs1 hz0 hX1 hR1 hB1
 go_loopw [3, 4] (fun _ _ wr => ∃ (left : Lit → Bool) (cnt : Nat) (D : DataW Unit), wr.ranges Tryz.prog 3 (plainElem Tryz.prog 43) b (w.heap.size + 2) nn D left cnt ∧ Swept l left D ∧ W1.grownBy wr (some b))
  (fun _ _ wr => wr.rangeLeft b (w.heap.size + 2))
 case atStart => exact ⟨_, _, _, hrg0, swept_start hD0, hg0.but _⟩
 case round =>
  obtain ⟨left, cnt, D, hrg, hS, hgw⟩ := hrel
  have hXr := (hgw.block w.heap.size (by have := HS1.out; omega) (fun e => by have := Option.some.inj e; omega)).trans HX1.out
  have hRr := (hgw.block (w.heap.size + 1) (by have := HS1.out; omega) (fun e => by have := Option.some.inj e; omega)).trans HR1.out
  have HRr := Lib.hid hRr
  have HXr := Lib.hid hXr
  have HS := Lib.hid hS
  have HGW := Lib.hid hgw
  clear hXr hRr hS hgw
  go_wp2_with (first
   | (at_next; refine wpList_next_ranges_ii _ rfl _ rfl 3 43 .i64 .u64 lawI Tryz.underlying3 Tryz.underlying43 b (w.heap.size + 2) nn _ _ _ rfl hrg ?_ ?_)
   | go_in)
  ·intro _ hl0
   have hE := swept_end hu HS.out hl0
   have hown2 := hrg.owns
   obtain ⟨u0, u1⟩ := cl2 HXr.out
   obtain ⟨W2, hW2, hX2, hB2, hs2⟩ := boxes1 wr #[.int .i64 f, .slice none 0 0] 31
   have hown3 : W2.ownsMap Tryz.prog 3 (plainElem Tryz.prog 43) b nn D := hown2.kept (below_gb hB2 none) (by simp)
   have hXw2 := known hB2 (Nat.le_refl _) HXr.out
   have hX3 : (W2.setCell ⟨wr.heap.size, 1, none⟩ (.slice none 0 0)).heap[wr.heap.size]? = some (.cells #[.int .i64 f, .slice none 0 0] 31 (0, 0)) := hSk hX2 (.slice none 0 0)
   have hX3w := (Below.heap_setCell W2 ⟨wr.heap.size, 1, none⟩ (.slice none 0 0) w.heap.size (by have := (Array.getElem?_eq_some_iff.1 HXr.out).1; simp; omega)).trans hXw2
   have hown4 := hown3.kept (gb_set W2 wr.heap.size 1 (.slice none 0 0)) (by have := hown2.lt; simp; omega)
   have hB3 := hB2.setCell (p := ⟨wr.heap.size, 1, none⟩) (Nat.le_refl _) (.slice none 0 0)
   obtain ⟨v0, v1⟩ := cl2 hXw2
   obtain ⟨x0, x1⟩ := cl2 hX2
   obtain ⟨y0, y1⟩ := cz2 hX2
   obtain ⟨W3, hW3⟩ : ∃ W3, W2.setCell ⟨wr.heap.size, 1, none⟩ (.slice none 0 0) = W3 := ⟨_, rfl⟩
   rw [hW3] at hX3 hX3w hown4 hB3
   have hs3 : W3.heap.size = wr.heap.size + 1 := by rw [← hW3]; simpa using hs2
   have HSO := Lib.hid (sorted_done b nn D W3 (hiDone l) hown4 (by have := hown4.size_le; omega) (hiDone_up hu) hE)
   have HX3 := Lib.hid hX3
   have HXW3 := Lib.hid hX3w
   have HB3 := Lib.hid hB3
   have HS3 := Lib.hid hs3
   have HM3 : Hid (MapIs W3 b nn (hiDone l)) := ⟨nn, D, hown4, Nat.le_refl _, hE⟩
   have HL : Hid (BinUp (hiDone l) ∧ BinsU (hiDone l) ∧ (∀ c ∈ hiDone l, I64 c.1) ∧ (hiDone l).length ≤ 5000) := ⟨hiDone_up hu, hiDone_u64 hb, fun c hc => hi c (List.mem_filter.1 hc).1, Nat.le_trans (hiDone_len l) hlen⟩
   obtain ⟨L, hLe⟩ : ∃ L, hiDone l = L := ⟨_, rfl⟩
   have HLe := Lib.hid hLe
   rw [hLe] at HM3 HSO HL hE
   clear hLe
   obtain ⟨z0, z1⟩ := cl2 hX3w
   clear hrg hXw2 hX2 u0 hX3 hX3w hB3 hs3 hown4 hown3 hown2 hB2
   go_wp2_with (first | (go_at_call 207; refine (keys_any _ _).mono ?_; rintro e w' ⟨rfl, rfl⟩) | (go_at_call 206; refine HSO.out.mono ?_; rintro e w5 ⟨a5, c5, rfl, hs5, hb5', hb5⟩) | fail)
   obtain ⟨X, hX⟩ : ∃ X, wr.heap.size = X := ⟨_, rfl⟩
   have HX := Lib.hid hX
   rw [hX] at HX3 HS3 HB3 ⊢
   have HS5 := Lib.hid hs5
   have HB5 := Lib.hid hb5
   have HB5' := Lib.hid hb5'
   have hx5 := known hb5 (Nat.le_refl _) HX3.out
   have hy5 := known hb5 (Nat.le_refl _) HXW3.out
   have HXW5 := Lib.hid hy5
   have HM5 : Hid (MapIs w5 b nn L) := HM3.out.kept (below_gb hb5 none) (by simp)
   have hz5 : W3.heap.size ≤ w5.heap.size := hb5.size
   have HR5 : Hid (w5.heap[w.heap.size + 1]? = some (.cells #[.int .i64 0, .slice none 0 0] 31 (0, 0))) := known hb5 (Nat.le_refl _) (known HB3.out (by omega) HRr.out)
   have HG5 : Hid (w.grownBy w5 (some b)) := ((below_gb HB1.out (some b)).trans (gb_below (gb_below HGW.out (HB3.out.mono (by rw [← hX]; exact HGW.out.size))) (hb5.mono (by have := HGW.out.size; have := HS3.out; omega))))
   have HZ5 := Lib.hid hz5
   clear hy5 hs5 hb5 hb5' HXr HS HGW HSO HXW3 HM3 hX u1 v0 v1 x0 x1 y0 y1 z0 z1 hE hl0 hs2 hW2 hW3 hz5
   go_loopw [7, 29] (fun _ i wk => ∃ (k : Nat) (v : Value), k ≤ L.length ∧ i = .int .i64 k ∧ wk.heap[X]? = some (.cells #[.int .i64 f, v] 31 (0, 0)) ∧ wk.ownsRow w5.heap.size 123 2 v k ((L.take k).flatMap encB) ∧ w5.grownBy wk (some X)) (fun _ i _ => L.length - (intOf i).toNat)
   case atStart => exact ⟨0, _, Nat.zero_le _, rfl, hx5, ⟨rfl, Or.inl ⟨rfl, rfl⟩⟩, World.grownBy.refl _ _⟩
   case round =>
    obtain ⟨k, v, hk, rfl, hXk, hrow, hG⟩ := hrel
    have hXb : X < w5.heap.size := (Array.getElem?_eq_some_iff.1 hx5).1
    have hwX : w.heap.size < X := by have := HX.out; have := (Array.getElem?_eq_some_iff.1 HXW5.out).1; have := HB3.out.size; have := (Array.getElem?_eq_some_iff.1 HRr.out).1; omega
    have hXw := (hG.block _ (Array.getElem?_eq_some_iff.1 HXW5.out).1 (fun e => by have := Option.some.inj e; omega)).trans HXW5.out
    have hGs := hG.size
    by_cases hlt : k < L.length
    ·obtain ⟨y, hy⟩ : ∃ y, L[k]? = some y := ⟨_, List.getElem?_eq_getElem hlt⟩
     obtain ⟨x, b5, o5, hx, rfl, hb5, hc5⟩ := int_cell HS5.out.1 hlt
     obtain rfl : x = y.1 := by rw [List.getElem?_map, hy] at hx; simpa using hx.symm
     have hb3 : W3.heap.size ≤ b5 := HB5'.out _ rfl
     have hbX : b5 ≠ X := by have := HS3.out; omega
     have hck : wr.cell? ⟨b5, o5 + k, none⟩ = some (.int .i64 y.1) := by rw [← hc5]; exact World.cell?_of_block (hG.block _ hb5 (fun e => hbX (Option.some.inj e)))
     have hmk : MapIs wr b nn L := HM5.out.kept hG (by simp; omega)
     have hget : binGet L y.1 = y.2 := by unfold binGet; rw [binAt_get HL.out.1 (List.mem_of_getElem? hy)]; rfl
     have hy1 : I64 y.1 := HL.out.2.2.1 y (List.mem_of_getElem? hy)
     have hlk := hmk.look hy1
     rw [hget] at hlk
     obtain ⟨g, cap, w1, hap, hrow1, hB1, hz1, hbl1, hoth1⟩ := append_one Tryz.prog 29 und_bin info_bin rfl (by decide) hrow (Below.refl w5.heap.size wr) (Nat.le_refl _) hGs (encB y) rfl (one_bin y) (by have := HL.out.2.2.2; omega) (by decide)
     obtain ⟨p0, p1⟩ := cl2 hXw
     obtain ⟨q0, q1⟩ := cl2 hXk
     obtain ⟨r0, r1⟩ := cz2 hXk
     rw [show (encB y).toArray = #[.int .i64 y.1, .int .u64 y.2] from rfl] at hap
     have hX1k := (hbl1 X hXb).trans hXk
     obtain ⟨s0, s1⟩ := cl2 hX1k
     obtain ⟨t0, t1⟩ := cz2 hX1k
     have hX2k : (w1.setCell ⟨X, 1, none⟩ (.slice (some ⟨g, 0, none⟩) (k + 1) cap)).heap[X]? = some (.cells #[.int .i64 f, .slice (some ⟨g, 0, none⟩) (k + 1) cap] 31 (0, 0)) := hSk hX1k _
     have hrow2 := ownsRow_setCell_below hrow1 (a := ⟨X, 1, none⟩) hXb (.slice (some ⟨g, 0, none⟩) (k + 1) cap)
     have hG2 : w5.grownBy (w1.setCell ⟨X, 1, none⟩ (.slice (some ⟨g, 0, none⟩) (k + 1) cap)) (some X) := (gb_below hG hB1).trans (gb_set _ _ _ _)
     clear hbl1 hoth1 hrow1 hrow hXk hX1k hB1
     have hL5 : L.length ≤ 5000 := HL.out.2.2.2
     go_wp2_with fail
     go_roundw
     case rel => exact ⟨k + 1, _, hlt, by simp, hX2k, by rw [take_snoc' hy, List.flatMap_append]; simpa using hrow2, hG2⟩
     case measure => simp [intOf]; exact meas_succ hlt
    ·obtain rfl : k = L.length := by omega
     rw [List.take_length] at hrow
     have hbase : w.heap.size + 1 < w5.heap.size := (Array.getElem?_eq_some_iff.1 HR5.out).1
     obtain ⟨a, cap, rfl, hab⟩ : ∃ a cap, v = .slice a L.length cap ∧ ∀ x, a = some x → w5.heap.size ≤ x.block := by
      obtain ⟨a, cap, h1, h2, h3⟩ := slC_of_owns (enc := encB) (fun _ => rfl) hrow
      exact ⟨a, cap, h1, h3⟩
     have hSl : SlC encB 2 ((wr.setCell ⟨w.heap.size + 1, 0, none⟩ (.int .i64 f)).setCell ⟨w.heap.size + 1, 1, none⟩ (.slice a L.length cap)).heap.size ((wr.setCell ⟨w.heap.size + 1, 0, none⟩ (.int .i64 f)).setCell ⟨w.heap.size + 1, 1, none⟩ (.slice a L.length cap)) a L.length cap L := by
      obtain ⟨a', cap', h1, h2, h3⟩ := slC_of_owns_set (enc := encB) (fun _ => rfl) hrow hbase (.int .i64 f) (.slice a L.length cap)
      cases h1
      exact h2
     have hR := (hG.block _ (Array.getElem?_eq_some_iff.1 HR5.out).1 (fun e => by have := Option.some.inj e; have := HX.out; have := (Array.getElem?_eq_some_iff.1 HRr.out).1; omega)).trans HR5.out
     obtain ⟨s0, s1⟩ := cl2 hXk
     obtain ⟨o0, o1⟩ := cl2 hR
     obtain ⟨m0, m1⟩ := cz2 hR
     have hX6 := set_cells2 (u := .int .i64 f) (v := .slice a L.length cap) hR
     have HSl := Lib.hid hSl
     have Hab := Lib.hid hab
     clear hrow hSl hab hR
     go_wp2_with fail
     have hG6 : w.grownBy ((wr.setCell ⟨w.heap.size + 1, 0, none⟩ (.int .i64 f)).setCell ⟨w.heap.size + 1, 1, none⟩ (.slice a L.length cap)) (some b) := ((HG5.out.andThen hG (fun j hj => Or.inl (by have := Option.some.inj hj; omega))).andThen (gb_set _ _ _ _) (fun j hj => Or.inl (by have := Option.some.inj hj; omega))).andThen (gb_set _ _ _ _) (fun j hj => Or.inl (by have := Option.some.inj hj; omega))
     have hS6 := HSl.out
     generalize (wr.setCell ⟨w.heap.size + 1, 0, none⟩ (.int .i64 f)).setCell ⟨w.heap.size + 1, 1, none⟩ (.slice a L.length cap) = V at hX6 hG6 hS6 ⊢
     obtain ⟨j0, j1⟩ := cl2 hX6
     exact bodyPost_ret (v := .agg #[.int .i64 f, .slice a L.length cap]) (by simp [results, Tryz.f202, go_sem, j0, j1]) rfl ⟨a, L.length, cap, rfl, by rw [HLe.out]; exact hS6, (fun x hx => by have := Hab.out x hx; omega), hG6⟩
  ·intro x c w1 cnt1 hwx hwc hlx hat hrg1 hlt hg1 hs1 hen
   have hgw1 : W1.grownBy w1 (some b) := HGW.out.andThen hg1 (fun j hj => by obtain rfl := Option.some.inj hj; exact Or.inl (by have := HS1.out; omega))
   have hXw1 := (hg1.block _ (Array.getElem?_eq_some_iff.1 HXr.out).1 (fun e => by have := Option.some.inj e; omega)).trans HXr.out
   have q0 : w1.cell? ⟨w.heap.size, 0, none⟩ = some (.map (some b)) := cCc hXw1 0
   have HGW1 := Lib.hid hgw1
   clear hgw1 hXw1
   go_wp2_with (first
    | (at_delete; refine wpList_delete_ranges _ rfl _ _ 239 3 rfl 43 lawI und_counts _ b (w.heap.size + 2) nn _ _ _ rfl hrg1 _ _ rfl (keyOf_int_mk Tryz.underlying3 hwx) ?_; intro w2 cnt2 hrg2 hle hturn; go_frame)
    | go_in)
   ·have hc0 : c = 0 := by simpa using (by assumption : (c == 0) = true)
    subst hc0
    rw [strike_twice] at hrg2
    go_roundw
    case rel => exact ⟨_, cnt2, _, hrg2, swept_struck HS.out hat, HGW1.out.andThen hturn.grown (fun j hj => by cases hj; exact Or.inr rfl)⟩
    case measure => rw [hrg2.left_eq, hrg.left_eq]; omega
   ·have hc0 : c ≠ 0 := by simpa using (by assumption : (c == 0) = false)
    go_roundw
    case rel => exact ⟨_, cnt1, _, hrg1, swept_stays HS.out hc0 hat, HGW1.out⟩
    case measure => rw [hrg1.left_eq, hrg.left_eq]; exact hlt
end Go.Proofs.YtcbbenncdainfaaGreatDoor
namespace Go.Proofs.YtcbbenncdainfaaGreatDoor
open Go Go.RowKit Go.Shelf Go.Maps Go.Sort
theorem hiBk_fin (f : Nat) (v : Nat) (hf : f ≤ 3) (hv : v < 2 ^ 64) : 0 ≤ hiBk f v ∧ hiBk f v ≤ 512 := by
 unfold hiBk
 split
 ·omega
 ·have hb : Lib.bitLen v ≤ 64 := Lib.bitLen_le v 64 (Nat.le_refl _) hv
  rw [Int.toNat_natCast]
  have hO : v * 2 ^ (64 - (Lib.bitLen v - 1)) % 2 ^ 64 < 2 ^ 64 := Nat.mod_lt _ (Nat.two_pow_pos 64)
  generalize v * 2 ^ (64 - (Lib.bitLen v - 1)) % 2 ^ 64 = O at hO ⊢
  have hq : O / 2 ^ (64 - f) < 2 ^ f := by
   rw [Nat.div_lt_iff_lt_mul (Nat.two_pow_pos _), ← Nat.pow_add, show f + (64 - f) = 64 by omega]
   exact hO
  have h8 : 2 ^ f ≤ 2 ^ 3 := Nat.pow_le_pow_right (by omega) hf
  have h9 : (Lib.bitLen v - 1) * 2 ^ f ≤ 63 * 2 ^ 3 := Nat.mul_le_mul (by omega) h8
  generalize O / 2 ^ (64 - f) = q at hq ⊢
  generalize (Lib.bitLen v - 1) * 2 ^ f = m at h9 ⊢
  generalize 2 ^ f = z at hq h8
  omega
theorem hiBk_i64 (f : Nat) (v : Nat) (hf : f ≤ 3) (hv : v < 2 ^ 64) : I64 (hiBk f v) := by
 have := hiBk_fin f v hf hv
 unfold I64
 omega
theorem slC_block {α : Type} {enc : α → List Value} {k n : Nat} {w V : World} {a : Option Addr} {len cap : Nat} {l : List α} (h : SlC enc k n w a len cap l) (hk : ∀ x, a = some x → V.heap[x.block]? = w.heap[x.block]?) : SlC enc k n V a len cap l :=
 ⟨⟨h.1.1, fun j x hx => by
  obtain ⟨b, off, e, hb, hc⟩ := h.1.2 j x hx
  exact ⟨b, off, e, hb, fun i hi => (World.cell?_of_block (show V.heap[b]? = w.heap[b]? from hk _ e)).trans (hc i hi)⟩⟩, h.2⟩
def HistOut (n : Nat) (w w7 : World) (a : Option Addr) (len cap : Nat) (f : Int) (l : List (Int × Int)) : Prop :=
 ((w7.setCell ⟨n + 1, 0, none⟩ (.int .i64 f)).setCell ⟨n + 1, 1, none⟩ (.slice a len cap)).heap[n + 1]? = some (.cells #[.int .i64 f, .slice a len cap] 31 (0, 0)) ∧
 SlC encB 2 ((w7.setCell ⟨n + 1, 0, none⟩ (.int .i64 f)).setCell ⟨n + 1, 1, none⟩ (.slice a len cap)).heap.size ((w7.setCell ⟨n + 1, 0, none⟩ (.int .i64 f)).setCell ⟨n + 1, 1, none⟩ (.slice a len cap)) a len cap l ∧
 Below n w ((w7.setCell ⟨n + 1, 0, none⟩ (.int .i64 f)).setCell ⟨n + 1, 1, none⟩ (.slice a len cap))
theorem hist_out {w w6 w7 : World} {b : Nat} {a : Option Addr} {len cap : Nat} {f : Int} {l : List (Int × Int)} (hbn : w.heap.size + 1 < b) (hR6 : w6.heap[w.heap.size + 1]? = some (.cells #[.int .i64 0, .slice none 0 0] 31 (0, 0))) (hB6 : Below w.heap.size w w6) (hS7 : SlC encB 2 w7.heap.size w7 a len cap l) (ha7 : ∀ x, a = some x → w6.heap.size ≤ x.block) (hg7 : w6.grownBy w7 (some b)) :
  w7.heap[w.heap.size + 1]? = some (.cells #[.int .i64 0, .slice none 0 0] 31 (0, 0)) ∧ HistOut w.heap.size w w7 a len cap f l := by
 have hl := (Array.getElem?_eq_some_iff.1 hR6).1
 have hR7 := (hg7.block _ hl (fun e => by cases e; omega)).trans hR6
 refine ⟨hR7, set_cells2 hR7, ?_, ?_⟩
 ·have hsz : ((w7.setCell ⟨w.heap.size + 1, 0, none⟩ (.int .i64 f)).setCell ⟨w.heap.size + 1, 1, none⟩ (.slice a len cap)).heap.size = w7.heap.size := by simp
  rw [hsz]
  refine slC_block hS7 fun x hx => ?_
  have := ha7 x hx
  exact (Below.heap_setCell _ _ _ _ (fun e => by simp at e; omega)).trans (Below.heap_setCell _ _ _ _ (fun e => by simp at e; omega))
 ·have hB7 : Below w.heap.size w w7 := hB6.grown hg7 hB6.size (fun k e => by cases e; omega)
  exact (hB7.setCell (p := ⟨w.heap.size + 1, 0, none⟩) (Nat.le_succ _) _).setCell (p := ⟨w.heap.size + 1, 1, none⟩) (Nat.le_succ _) _
set_option maxRecDepth 100000 in
set_option maxHeartbeats 2000000 in
theorem hiAdd_any (f : Nat) (l : List (Int × Int)) (v : Nat) (n : Int) (a : Option Addr) (len cap : Nat) (w : World) (hf : f ≤ 3) (hL : SlE encB 2 w.heap.size w a len l) (hr : hiRight f l = true) (hu : BinUp l) (hbu : BinsU l) (hlen : len ≤ 1000) (hp : ∀ b ∈ l, I64 b.1) (hv : v < 2 ^ 64) (hn : U64 n) :
  Calls Tryz.prog 194 #[.agg #[.int .i64 f, .slice a len cap], .int .u64 v, .int .u64 n] w fun e w' => ∃ a' len' cap', e = .returned (.tuple #[.agg #[.int .i64 f, .slice a' len' cap'], .int .i64 0]) ∧ SlC encB 2 w'.heap.size w' a' len' cap' (hiAdd f l v n) ∧ Below w.heap.size w w' := by
 have HLL := Lib.hid hL.1
 obtain ⟨W0, hW0, hXp, hX0, hB0, hs0⟩ := boxes2 w #[.int .i64 f, .slice a len cap] 31 #[.int .i64 0, .slice none 0 0] 31
 obtain ⟨z0, z1⟩ := cl2 hXp
 have hBg := hbegin9_any f l a len cap W0 hf ((hL.below hB0).mono hB0.size) hr hu hbu hlen hp (by unfold maxLen; omega)
 have HX0 := Lib.hid hX0
 have HB0 := Lib.hid hB0
 clear hL hr hX0 hB0 hXp
 go_enter Tryz.func194, Tryz.ntmps194
 go_wp2_with fail
 refine hBg.mono ?_
 rintro e w1 ⟨b, rfl, hm1, hb1, hB1⟩
 obtain ⟨W2, hW2, hX2, hB2, hs2⟩ := boxes1 w1 #[.map (some b), .int .i64 f] 241
 have hm2 : MapIs W2.drew b l.length l := hm1.kept (gb_drew (below_gb hB2 none)) (by simp)
 have hb1l := hm1.lt
 have HX2 : Hid (W2.drew.heap[w1.heap.size]? = some (.cells #[.map (some b), .int .i64 f] 241 (0, 0))) := hX2
 obtain ⟨y0, y1⟩ := cl2 HX2.out
 have HBK := Lib.hid (Bucket_any f v W2.drew hf hv)
 have hX02 := known (hB1.trans (hB2.mono hB1.size)) (Nat.le_refl _) HX0.out
 have HR2 : Hid (W2.drew.heap[w.heap.size + 1]? = some (.cells #[.int .i64 0, .slice none 0 0] 31 (0, 0))) := hX02
 have hB02 : Below w.heap.size w W2.drew := ((HB0.out.trans (hB1.mono HB0.out.size)).trans (hB2.mono (by have := hB1.size; have := HB0.out.size; omega))).drew
 have hs1 : W0.heap.size ≤ w1.heap.size := hB1.size
 have hi := hiBk_i64 f v hf hv
 have HP : Hid (∀ w4, Below W2.drew.heap.size W2.drew w4 → Calls Tryz.prog 200 #[.agg #[.map (some b), .int .i64 f], .int .i64 (hiBk f v), .int .u64 n] w4 fun e w' => e = .returned (.tuple #[]) ∧ MapIs w' b (l.length + 1) (binPut l (hiBk f v) n) ∧ w4.grownBy w' (some b)) := fun w4 hb4 =>
  put_any b l.length f (hiBk f v) n l w4 (hm2.kept (below_gb hb4 none) (by simp)) hi hn (by have := HLL.out; omega) hu hbu
 have HF : Hid (∀ w4 w6, Below W2.drew.heap.size W2.drew w4 → MapIs w6 b (l.length + 1) (binPut l (hiBk f v) n) → w4.grownBy w6 (some b) →
   w6.heap[w1.heap.size]? = some (.cells #[.map (some b), .int .i64 f] 241 (0, 0)) ∧ w6.heap[w.heap.size + 1]? = some (.cells #[.int .i64 0, .slice none 0 0] 31 (0, 0)) ∧
   (Calls Tryz.prog 202 #[.agg #[.map (some b), .int .i64 f]] w6 fun e w' => ∃ a len cap, e = .returned (.agg #[.int .i64 f, .slice a len cap]) ∧ SlC encB 2 w'.heap.size w' a len cap (hiAdd f l v n) ∧ (∀ x, a = some x → w6.heap.size ≤ x.block) ∧ w6.grownBy w' (some b)) ∧ Below w.heap.size w w6) := fun w4 w6 hb4 hm6 hg6 => by
  have hx4 := known hb4 (Nat.le_refl _) HX2.out
  have hr4 := known hb4 (Nat.le_refl _) HR2.out
  have hB4 : Below w.heap.size w w4 := hB02.trans (hb4.mono hB02.size)
  refine ⟨(hg6.block _ (Array.getElem?_eq_some_iff.1 hx4).1 (fun e => by cases e; omega)).trans hx4, (hg6.block _ (Array.getElem?_eq_some_iff.1 hr4).1 (fun e => by cases e; omega)).trans hr4, ?_, hB4.grown hg6 hB4.size (fun k e => by cases e; omega)⟩
  exact hdone9_any b (l.length + 1) f _ w6 hm6 (binPut_up _ _ _ hu) (binPut_u64 _ _ _ hbu hn) (fun c hc => by rcases binPut_mem _ _ _ _ hc with e | h; rw [e]; exact hi; exact hp c h) (by have := binPut_len l (hiBk f v) n; have := HLL.out; omega) (by have := HLL.out; omega)
 have HE : Hid (∀ w6 w7 a' len' cap', w6.heap[w.heap.size + 1]? = some (.cells #[.int .i64 0, .slice none 0 0] 31 (0, 0)) → Below w.heap.size w w6 → SlC encB 2 w7.heap.size w7 a' len' cap' (hiAdd f l v n) → (∀ x, a' = some x → w6.heap.size ≤ x.block) → w6.grownBy w7 (some b) →
   w7.heap[w.heap.size + 1]? = some (.cells #[.int .i64 0, .slice none 0 0] 31 (0, 0)) ∧ HistOut w.heap.size w w7 a' len' cap' f (hiAdd f l v n)) := fun w6 w7 a' len' cap' hR6 hB6 hS7 ha7 hg7 => hist_out (by omega) hR6 hB6 hS7 ha7 hg7
 clear hX2 hX02 hm1 hm2 hB1 hB2 hB02 hi
 go_wp2_with fail
 -- REGION
 refine wp_region_any (by kernel_rfl) ?_
 change wpAny _ _ _ _ _ _ _ (World.drew _)
 refine tk 1 (v := ?_) rfl ?_ ?_
 rotate_left
 ·intro w; go_simp; with_reducible rfl
 refine tk 3 (v := ?_) rfl ?_ ?_
 rotate_left
 ·intro w; go_simp; with_reducible rfl
 refine tk 5 (v := ?_) rfl ?_ ?_
 rotate_left
 ·intro w; go_simp; with_reducible rfl
 refine wpAny_ready (rs := [0, 2]) (by kernel_rfl) (by simp) ?_
 refine AllReady.cons rfl (fun K hK => ?_) ?_
 ·go_simp
  refine hK _ _ ?_
  clear hK K
  refine wpAny_ready (rs := [2]) (by kernel_rfl) (by simp) ?_
  refine AllReady.cons rfl (fun K hK => ?_) ?_
  ·go_simp
   refine hK _ _ ?_
   clear hK K
   refine wpAny_ready (rs := [4]) (by kernel_rfl) (by simp) ?_
   refine AllReady.cons rfl (fun K hK => ?_) ?_
   ·go_simp
    refine HBK.out.mono ?_
    rintro e w4 ⟨rfl, hb4⟩
    have hX4 := known hb4 (Nat.le_refl _) HX2.out
    obtain ⟨x0, x1⟩ := cl2 hX4
    have hP := HP.out w4 hb4
    have HB4 := Lib.hid hb4
    clear hX4 hb4
    refine hK _ _ ?_
    clear hK K
    refine wpAny_ready (rs := [6]) (by kernel_rfl) (by simp) ?_
    refine AllReady.cons rfl (fun K hK => ?_) ?_
    ·go_simp
     refine hP.mono ?_
     rintro e w6 ⟨rfl, hm6, hg6⟩
     refine hK _ _ ?_
     clear hK K
     refine wpAny_done (by kernel_rfl) ?_ _
     obtain ⟨hX6, hR6, hD6, hB6⟩ := HF.out w4 w6 HB4.out hm6 hg6
     clear hm6 hg6 hP
     obtain ⟨j0, j1⟩ := cl2 hX6
     have HR6 := Lib.hid hR6
     have HB6 := Lib.hid hB6
     clear hX6 hR6 hB6
     go_wp2_with fail
     refine hD6.mono ?_
     rintro e w7 ⟨a', len', cap', rfl, hS7, ha7, hg7⟩
     obtain ⟨hR7, hY7⟩ := HE.out w6 w7 a' len' cap' HR6.out HB6.out hS7 ha7 hg7
     obtain ⟨m0, m1⟩ := cl2 hR7
     obtain ⟨n0, n1⟩ := cz2 hR7
     have HY7 := Lib.hid hY7
     clear hR7 hY7 hS7 ha7 hg7
     go_wp2_with fail
     obtain ⟨hX8, hS8, hB8⟩ := HY7.out
     generalize (w7.setCell ⟨w.heap.size + 1, 0, none⟩ (.int .i64 f)).setCell ⟨w.heap.size + 1, 1, none⟩ (.slice a' len' cap') = V at hX8 hS8 hB8 ⊢
     obtain ⟨q0, q1⟩ := cl2 hX8
     exact bodyPost_ret (v := .tuple #[.agg #[.int .i64 f, .slice a' len' cap'], .int .i64 0]) (by simp [results, Tryz.f194, go_sem, q0, q1]) rfl ⟨a', len', cap', rfl, hS8, hB8⟩
    exact AllReady.nil
   exact AllReady.nil
  exact AllReady.nil
 refine AllReady.cons rfl (fun K hK => ?_) ?_
 ·go_simp
  refine hK _ _ ?_
  clear hK K
  refine wpAny_ready (rs := [0, 4]) (by kernel_rfl) (by simp) ?_
  refine AllReady.cons rfl (fun K hK => ?_) ?_
  ·go_simp
   refine hK _ _ ?_
   clear hK K
   refine wpAny_ready (rs := [4]) (by kernel_rfl) (by simp) ?_
   refine AllReady.cons rfl (fun K hK => ?_) ?_
   ·go_simp
    refine HBK.out.mono ?_
    rintro e w4 ⟨rfl, hb4⟩
    have hX4 := known hb4 (Nat.le_refl _) HX2.out
    obtain ⟨x0, x1⟩ := cl2 hX4
    have hP := HP.out w4 hb4
    have HB4 := Lib.hid hb4
    clear hX4 hb4
    refine hK _ _ ?_
    clear hK K
    refine wpAny_ready (rs := [6]) (by kernel_rfl) (by simp) ?_
    refine AllReady.cons rfl (fun K hK => ?_) ?_
    ·go_simp
     refine hP.mono ?_
     rintro e w6 ⟨rfl, hm6, hg6⟩
     refine hK _ _ ?_
     clear hK K
     refine wpAny_done (by kernel_rfl) ?_ _
     obtain ⟨hX6, hR6, hD6, hB6⟩ := HF.out w4 w6 HB4.out hm6 hg6
     clear hm6 hg6 hP
     obtain ⟨j0, j1⟩ := cl2 hX6
     have HR6 := Lib.hid hR6
     have HB6 := Lib.hid hB6
     clear hX6 hR6 hB6
     go_wp2_with fail
     refine hD6.mono ?_
     rintro e w7 ⟨a', len', cap', rfl, hS7, ha7, hg7⟩
     obtain ⟨hR7, hY7⟩ := HE.out w6 w7 a' len' cap' HR6.out HB6.out hS7 ha7 hg7
     obtain ⟨m0, m1⟩ := cl2 hR7
     obtain ⟨n0, n1⟩ := cz2 hR7
     have HY7 := Lib.hid hY7
     clear hR7 hY7 hS7 ha7 hg7
     go_wp2_with fail
     obtain ⟨hX8, hS8, hB8⟩ := HY7.out
     generalize (w7.setCell ⟨w.heap.size + 1, 0, none⟩ (.int .i64 f)).setCell ⟨w.heap.size + 1, 1, none⟩ (.slice a' len' cap') = V at hX8 hS8 hB8 ⊢
     obtain ⟨q0, q1⟩ := cl2 hX8
     exact bodyPost_ret (v := .tuple #[.agg #[.int .i64 f, .slice a' len' cap'], .int .i64 0]) (by simp [results, Tryz.f194, go_sem, q0, q1]) rfl ⟨a', len', cap', rfl, hS8, hB8⟩
    exact AllReady.nil
   exact AllReady.nil
  refine AllReady.cons rfl (fun K hK => ?_) ?_
  ·go_simp
   refine HBK.out.mono ?_
   rintro e w4 ⟨rfl, hb4⟩
   have hX4 := known hb4 (Nat.le_refl _) HX2.out
   obtain ⟨x0, x1⟩ := cl2 hX4
   have hP := HP.out w4 hb4
   have HB4 := Lib.hid hb4
   clear hX4 hb4
   refine hK _ _ ?_
   clear hK K
   refine wpAny_ready (rs := [0]) (by kernel_rfl) (by simp) ?_
   refine AllReady.cons rfl (fun K hK => ?_) ?_
   ·go_simp
    refine hK _ _ ?_
    clear hK K
    refine wpAny_ready (rs := [6]) (by kernel_rfl) (by simp) ?_
    refine AllReady.cons rfl (fun K hK => ?_) ?_
    ·go_simp
     refine hP.mono ?_
     rintro e w6 ⟨rfl, hm6, hg6⟩
     refine hK _ _ ?_
     clear hK K
     refine wpAny_done (by kernel_rfl) ?_ _
     obtain ⟨hX6, hR6, hD6, hB6⟩ := HF.out w4 w6 HB4.out hm6 hg6
     clear hm6 hg6 hP
     obtain ⟨j0, j1⟩ := cl2 hX6
     have HR6 := Lib.hid hR6
     have HB6 := Lib.hid hB6
     clear hX6 hR6 hB6
     go_wp2_with fail
     refine hD6.mono ?_
     rintro e w7 ⟨a', len', cap', rfl, hS7, ha7, hg7⟩
     obtain ⟨hR7, hY7⟩ := HE.out w6 w7 a' len' cap' HR6.out HB6.out hS7 ha7 hg7
     obtain ⟨m0, m1⟩ := cl2 hR7
     obtain ⟨n0, n1⟩ := cz2 hR7
     have HY7 := Lib.hid hY7
     clear hR7 hY7 hS7 ha7 hg7
     go_wp2_with fail
     obtain ⟨hX8, hS8, hB8⟩ := HY7.out
     generalize (w7.setCell ⟨w.heap.size + 1, 0, none⟩ (.int .i64 f)).setCell ⟨w.heap.size + 1, 1, none⟩ (.slice a' len' cap') = V at hX8 hS8 hB8 ⊢
     obtain ⟨q0, q1⟩ := cl2 hX8
     exact bodyPost_ret (v := .tuple #[.agg #[.int .i64 f, .slice a' len' cap'], .int .i64 0]) (by simp [results, Tryz.f194, go_sem, q0, q1]) rfl ⟨a', len', cap', rfl, hS8, hB8⟩
    exact AllReady.nil
   exact AllReady.nil
  exact AllReady.nil
 exact AllReady.nil
end Go.Proofs.YtcbbenncdainfaaGreatDoor
namespace Go.Proofs.YtcbbenncdainfaaGreatDoor
open Go Go.RowKit Go.Shelf
theorem ref07_isBits_any (n : Int) (w : World) : Calls Tryz.prog 82 #[.int .i64 n] w fun e w' => e = .returned (.bool (isBitsB n)) ∧ w' = w := by
 have HR : Hid (isBitsB n = (decide (3 ≤ n) && decide (n ≤ 8))) := rfl
 generalize isBitsB n = b at HR ⊢
 by_cases h1 : 3 ≤ n
 ·by_cases h2 : n ≤ 8
  ·have H9 : Hid (b = true) := by rw [Hid, HR.out, decide_eq_true h1, decide_eq_true h2]; rfl
   go_enter Tryz.func82, Tryz.ntmps82
   go_wp2_with fail
   go_ret
   exact ⟨by rw [H9.out]; rfl, rfl⟩
  ·have H9 : Hid (b = false) := by rw [Hid, HR.out, decide_eq_false h2, Bool.and_false]
   go_enter Tryz.func82, Tryz.ntmps82
   go_wp2_with fail
   go_ret
   exact ⟨by rw [H9.out]; rfl, rfl⟩
 ·have H9 : Hid (b = false) := by rw [Hid, HR.out, decide_eq_false h1, Bool.false_and]
  go_enter Tryz.func82, Tryz.ntmps82
  go_wp2_with fail
  go_ret
  exact ⟨by rw [H9.out]; rfl, rfl⟩
theorem regsOk_octs (b : Int) (s : ByteArray) : regsOk b s = okRegs b (octs s) := by
 have h : s.data.toList = (octs s).map (·.2) := by
  apply List.ext_getElem?
  intro i
  by_cases hi : i < s.size
  ·simp [octs, hi]
  ·simp [octs, hi]
 unfold regsOk okRegs
 rw [h, List.all_map]
 rfl
set_option maxRecDepth 100000 in
set_option maxHeartbeats 1000000 in
theorem ref07_Right_mid (b : Nat) (hb1 : 3 ≤ b) (hb2 : b ≤ 8) (s : ByteArray) (q : Int) (hq : q = 2 ^ b) (w : World) :
  Calls Tryz.prog 55 #[.agg #[.int .i64 b, .string s]] w fun e w' => e = .returned (.bool ((s.size : Int) == q && regsOk b s)) ∧ Below w.heap.size w w' := by
 obtain ⟨W0, hW0, hX0, hB0, hs0⟩ := boxes1 w #[.int .i64 b, .string s] 26
 have HIB : Hid (∀ w, Calls Tryz.prog 82 #[.int .i64 b] w fun e w' => e = .returned (.bool true) ∧ w' = w) := fun w => (ref07_isBits_any b w).mono fun e w' ⟨h1, h2⟩ => ⟨by rw [h1]; simp [isBitsB]; omega, h2⟩
 have hq1 : 0 ≤ q ∧ q ≤ 256 := by
  rcases (by omega : b = 3 ∨ b = 4 ∨ b = 5 ∨ b = 6 ∨ b = 7 ∨ b = 8) with rfl | rfl | rfl | rfl | rfl | rfl <;> (rw [hq]; decide)
 obtain ⟨hq1, hq2⟩ := hq1
 have hw : IntKind.i64.wrap (2 ^ b) = q := by rw [← hq]; exact IntWalk.i64_in _ (by omega)
 have hz0 : w.heap.size < W0.heap.size := by omega
 have HB0 := Lib.hid hB0
 have HR : Hid (regsOk b s = okRegs b (octs s)) := regsOk_octs b s
 have HO := Lib.hid (octs_len s)
 obtain ⟨c0, c1⟩ := cl2 hX0
 clear hX0 hB0 hq
 by_cases hs : (s.size : Int) = q
 case neg =>
  have t0 : ((s.size : Int) != q) = true := by rw [bne_iff_ne]; exact hs
  have H9 : Hid (((s.size : Int) == q && regsOk b s) = false) := by rw [Hid, beq_eq_false_iff_ne.2 hs]; rfl
  generalize ((s.size : Int) == q && regsOk b s) = bR at H9 ⊢
  clear hs
  go_enter Tryz.func55, Tryz.ntmps55
  go_wp2_with fail
  go_quiet ((go_at_call 82; exact Calls.quiet_of_same (HIB.out _)))
  go_wp2_with fail
  go_ret
  exact ⟨by rw [H9.out]; rfl, bDr HB0.out _⟩
 have t0 : ((s.size : Int) != q) = false := by rw [bne_eq_false_iff_eq]; exact hs
 have hs256 : s.size ≤ 256 := by omega
 have H8 : Hid (((s.size : Int) == q && regsOk b s) = okRegs b (octs s)) := by rw [Hid, beq_iff_eq.2 hs, Bool.true_and, HR.out]
 generalize ((s.size : Int) == q && regsOk b s) = bR at H8 ⊢
 clear hs
 go_enter Tryz.func55, Tryz.ntmps55
 go_wp2_with fail
 go_quiet ((go_at_call 82; exact Calls.quiet_of_same (HIB.out _)))
 have hBq : Below W0.heap.size W0 (W0.drewN nq) := bDr (Below.refl _ _) _
 go_wp2_with fail
 go_loopw [3] (fun i wr => ∃ (k : Nat), i = .int .i64 k ∧ k ≤ s.size ∧ Below W0.heap.size W0 wr ∧ Hid (okRegs b ((octs s).take k) = true)) (fun i _ => s.size - (intOf i).toNat)
 case atStart => exact ⟨0, rfl, Nat.zero_le _, hBq, rfl⟩
 case round =>
  obtain ⟨k, rfl, hk, hB, HS⟩ := hrel
  have r0 : wr.cell? ⟨w.heap.size, 0, none⟩ = some (.int .i64 b) := (hB.cell (p := ⟨w.heap.size, 0, none⟩) hz0).trans c0
  have r1 : wr.cell? ⟨w.heap.size, 1, none⟩ = some (.string s) := (hB.cell (p := ⟨w.heap.size, 1, none⟩) hz0).trans c1
  by_cases hlt : k < s.size
  ·have HX := Lib.hid (octs_at s k hlt)
   have hx := UInt8.toNat_lt (s[k]'hlt)
   have HT : Hid (okRegs b ((octs s).take (k + 1)) = !decide (65 - (b : Int) < ((s[k]'hlt).toNat : Int))) := by
    rw [Hid, take_snoc' HX.out, okRegs_append, HS.out, okRegs_one, Bool.true_and]
   by_cases ht : 65 - (b : Int) < ((s[k]'hlt).toNat : Int)
   ·have H9 : Hid (bR = false) := by
     have h1 : okRegs b ((octs s).take (k + 1)) = false := by rw [HT.out, decide_eq_true ht]; rfl
     rw [Hid, H8.out]
     cases h2 : okRegs b (octs s) with
     | false => rfl
     | true =>
      rw [← List.take_append_drop (k + 1) (octs s), okRegs_append, h1] at h2
      cases h2
    go_wp2_with fail
    go_quiet (fail)
    go_wp2_with fail
    go_ret
    exact ⟨by rw [H9.out]; rfl, HB0.out.trans ((bDr hB _).mono (by omega))⟩
   ·have H9 : Hid (okRegs b ((octs s).take (k + 1)) = true) := by rw [Hid, HT.out, decide_eq_false ht]; rfl
    go_wp2_with fail
    go_quiet (fail)
    go_wp2_with fail
    go_roundw
    case rel => exact ⟨k + 1, by go_num, by omega, bDr hB _, H9.out⟩
    case measure => simp [intOf]; omega
  ·obtain rfl : k = s.size := by omega
   have H9 : Hid (bR = true) := by rw [Hid, H8.out, ← HS.out, List.take_of_length_le (by rw [HO.out]; exact Nat.le_refl _)]
   go_wp2_with fail
   go_ret
   exact ⟨by rw [H9.out]; rfl, HB0.out.trans (hB.mono (by omega))⟩
set_option maxRecDepth 100000 in
set_option maxHeartbeats 1000000 in
theorem ref07_Right_any (b : Int) (s : ByteArray) (w : World) :
  Calls Tryz.prog 55 #[.agg #[.int .i64 b, .string s]] w fun e w' => e = .returned (.bool (hlRight b s)) ∧ Below w.heap.size w w' := by
 cases hb : isBitsB b with
 | true =>
  have hr : 3 ≤ b ∧ b ≤ 8 := by simpa [isBitsB] using hb
  obtain ⟨n, rfl⟩ : ∃ n : Nat, b = n := ⟨b.toNat, by omega⟩
  have h := ref07_Right_mid n (by omega) (by omega) s _ rfl w
  have e : hlRight n s = ((s.size : Int) == 2 ^ n && regsOk n s) := by unfold hlRight; rw [hb, Bool.true_and, Int.toNat_natCast]
  rw [e]
  exact h
 | false =>
  obtain ⟨W0, hW0, hX0, hB0, hs0⟩ := boxes1 w #[.int .i64 b, .string s] 26
  have HIB : Hid (∀ w, Calls Tryz.prog 82 #[.int .i64 b] w fun e w' => e = .returned (.bool false) ∧ w' = w) := fun w => (ref07_isBits_any b w).mono fun e w' ⟨h1, h2⟩ => ⟨by rw [h1, hb], h2⟩
  have H9 : Hid (hlRight b s = false) := by unfold hlRight; rw [Hid, hb]; rfl
  have HB0 := Lib.hid hB0
  obtain ⟨c0, c1⟩ := cl2 hX0
  clear hX0 hB0 hb
  generalize hlRight b s = bR at H9 ⊢
  go_enter Tryz.func55, Tryz.ntmps55
  go_wp2_with fail
  go_quiet ((go_at_call 82; exact Calls.quiet_of_same (HIB.out _)))
  go_wp2_with fail
  go_ret
  exact ⟨by rw [H9.out]; rfl, bDr HB0.out _⟩
end Go.Proofs.YtcbbenncdainfaaGreatDoor

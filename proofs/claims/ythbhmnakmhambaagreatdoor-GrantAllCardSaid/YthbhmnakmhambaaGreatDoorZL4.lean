/- DERIVED: THE SHELF's CONTRACTS AT THIS DUMP, IN PLAIN WORDS (tools/lay-plain.mjs out of 'TryzShelf.lean', which tools/lay-shelf.mjs wrote): THE SAME DECLARATIONS UNDER THE SAME NAMES: 'import', 'namespace', 'open', 'def', 'theorem' AND NOTHING ELSE: no command of the shelf's: FOR A HAND-IN. Each laying: the table of numbers ('.._ren') and one theorem, a field a fact of the dump's own or the kernel's comparison; each contract: ONE APPLICATION. Package hll: greater, ahead, Place; registers at work in memory. Package label: the runes of names and values; names, values. Package label: values, sets of labels (ranges over slices.Values). Package label: quoted. Package label: Less; slices of labels: Equal, Clone. -/
import Derived.Shelf.Strings.Builder1
import Derived.Shelf.Strings.Builder2
import Derived.Shelf.Strings.OnBuilder
import Derived.Shelf.Small.Bits
import Derived.Shelf.Strings.BuilderF
import Derived.Shelf.Strings.BuilderK
import Derived.Shelf.Strings.BuilderRune
import Derived.Shelf.Utf8.AppendRune
import Derived.Shelf.Utf8.AppendRunePlain
import Derived.Shelf.Strings.Builder2Cap
import Derived.Shelf.Strconv.Itoa0
import Derived.Shelf.Strings.Search1
import Derived.Shelf.Strings.Search2
import Derived.Shelf.Strings.Search3
import Derived.Shelf.Strings.Cut
import Derived.Shelf.LaysM
import Derived.Shelf.Strings.Shaped
import Derived.Shelf.Unicode.DecodeSlow
import Derived.Shelf.Unicode.DecodeAny
import Derived.Shelf.Strings.BuilderCap
import Derived.Ground.SlgmProg
import Derived.Shelf.SortM.Plain
import Derived.Shelf.SortM.SortNone
import Derived.Laws.BytesArg
import Derived.Lib.ConvBytes
import Derived.Lib.MinMax
import Derived.Test.YthbhmnakmhambaaGreatDoorZXI
namespace Go.Proofs
open Go.Shelf
def Tryz.lays134_ren : Go.Shelf.Ren := ⟨fun | 134 => 212 | 129 => 215 | n => n, fun | 53 => 41 | 3 => 3 | 4 => 4 | 46 => 273 | 5 => 5 | 9 => 9 | n => n, fun | n => n⟩
theorem Tryz.lays134 : Go.Proofs.Lays.n134 Tryz.prog Tryz.lays134_ren := {
 mixed := by kernel_rfl
 f129 := Tryz.func215.trans (congrArg some (by kernel_rfl))
 f134 := Tryz.func212.trans (congrArg some (by kernel_rfl))
 t3 := Tryz.underlying3
 a3 := Tryz.isAgg3
 z3 := Tryz.sizeOf3
 v3 := Tryz.zeroValue3
 t4 := Tryz.underlying4
 a4 := Tryz.isAgg4
 z4 := Tryz.sizeOf4
 v4 := Tryz.zeroValue4
 t5 := Tryz.underlying5
 a5 := Tryz.isAgg5
 z5 := Tryz.sizeOf5
 v5 := Tryz.zeroValue5
 t9 := Tryz.underlying9
 a9 := Tryz.isAgg9
 z9 := Tryz.sizeOf9
 v9 := Tryz.zeroValue9
 t46 := Tryz.underlying273
 a46 := Tryz.isAgg273
 z46 := Tryz.sizeOf273
 v46 := Tryz.zeroValue273
 t53 := Tryz.underlying41
 a53 := Tryz.isAgg41
 z53 := Tryz.sizeOf41
 v53 := Tryz.zeroValue41 }
theorem Tryz.bits_LeadingZeros64 (x : Int) (w : World) (h0 : 0 ≤ x) (h1 : x ≤ 18446744073709551615) :
  Calls Tryz.prog 212 #[.int .u64 x] w fun e w' => e = .returned (.int .i64 (64 - (Lib.bitLen x.toNat : Int))) ∧ w' = w := Any.bits_LeadingZeros64 Tryz.lays134 x w h0 h1
def Tryz.lays129_ren : Go.Shelf.Ren := ⟨fun | 129 => 215 | n => n, fun | 53 => 41 | 3 => 3 | 4 => 4 | 46 => 273 | 5 => 5 | 9 => 9 | n => n, fun | n => n⟩
theorem Tryz.lays129 : Go.Proofs.Lays.n129 Tryz.prog Tryz.lays129_ren := {
 mixed := by kernel_rfl
 f129 := Tryz.func215.trans (congrArg some (by kernel_rfl))
 t3 := Tryz.underlying3
 a3 := Tryz.isAgg3
 z3 := Tryz.sizeOf3
 v3 := Tryz.zeroValue3
 t4 := Tryz.underlying4
 a4 := Tryz.isAgg4
 z4 := Tryz.sizeOf4
 v4 := Tryz.zeroValue4
 t5 := Tryz.underlying5
 a5 := Tryz.isAgg5
 z5 := Tryz.sizeOf5
 v5 := Tryz.zeroValue5
 t9 := Tryz.underlying9
 a9 := Tryz.isAgg9
 z9 := Tryz.sizeOf9
 v9 := Tryz.zeroValue9
 t46 := Tryz.underlying273
 a46 := Tryz.isAgg273
 z46 := Tryz.sizeOf273
 v46 := Tryz.zeroValue273
 t53 := Tryz.underlying41
 a53 := Tryz.isAgg41
 z53 := Tryz.sizeOf41
 v53 := Tryz.zeroValue41 }
theorem Tryz.bits_Len64 (x : Int) (w : World) (h0 : 0 ≤ x) (h1 : x ≤ 18446744073709551615) :
  Calls Tryz.prog 215 #[.int .u64 x] w fun e w' => e = .returned (.int .i64 (Lib.bitLen x.toNat)) ∧ w' = w := Any.bits_Len64 Tryz.lays129 x w h0 h1
def Tryz.lays197_ren : Go.Shelf.Ren := ⟨fun | 197 => 134 | 260 => 152 | n => n, fun | 9 => 9 | 21 => 21 | 3 => 3 | 4 => 4 | 5 => 5 | 105 => 230 | 119 => 275 | 0 => 0 | 46 => 273 | 139 => 278 | 138 => 277 | n => n, fun | 3 => 2 | 4 => 3 | n => n⟩
theorem Tryz.lays197 : Go.Proofs.Lays.n197 Tryz.prog Tryz.lays197_ren := {
 mixed := by kernel_rfl
 f197 := Tryz.func134.trans (congrArg some (by kernel_rfl))
 f260 := Tryz.func152.trans (congrArg some (by kernel_rfl))
 t0 := Tryz.underlying0
 a0 := Tryz.isAgg0
 z0 := Tryz.sizeOf0
 v0 := Tryz.zeroValue0
 t3 := Tryz.underlying3
 a3 := Tryz.isAgg3
 z3 := Tryz.sizeOf3
 v3 := Tryz.zeroValue3
 t4 := Tryz.underlying4
 a4 := Tryz.isAgg4
 z4 := Tryz.sizeOf4
 v4 := Tryz.zeroValue4
 t5 := Tryz.underlying5
 a5 := Tryz.isAgg5
 z5 := Tryz.sizeOf5
 v5 := Tryz.zeroValue5
 t9 := Tryz.underlying9
 a9 := Tryz.isAgg9
 z9 := Tryz.sizeOf9
 v9 := Tryz.zeroValue9
 t21 := Tryz.underlying21
 a21 := Tryz.isAgg21
 z21 := Tryz.sizeOf21
 v21 := Tryz.zeroValue21
 t46 := Tryz.underlying273
 a46 := Tryz.isAgg273
 z46 := Tryz.sizeOf273
 v46 := Tryz.zeroValue273
 t105 := Tryz.underlying230
 a105 := Tryz.isAgg230
 z105 := Tryz.sizeOf230
 v105 := Tryz.zeroValue230
 t119 := Tryz.underlying275
 a119 := Tryz.isAgg275
 z119 := Tryz.sizeOf275
 t138 := Tryz.underlying277
 a138 := Tryz.isAgg277
 z138 := Tryz.sizeOf277
 v138 := Tryz.zeroValue277
 t139 := Tryz.underlying278
 a139 := Tryz.isAgg278
 z139 := Tryz.sizeOf278
 v139 := Tryz.zeroValue278
 g3 := by kernel_rfl
 g4 := by kernel_rfl }
open Go.RowKit Go.Lib in
theorem Tryz.utf8_DecodeRuneInString (s : ByteArray) (w : World) (hT : Lib.Utf8Tabs 2 3 w) :
  Calls Tryz.prog 134 #[.string s] w fun e w' => e = .returned (.tuple #[.int .i32 (Lib.decodeGo s).1, .int .i64 (Lib.decodeGo s).2]) ∧ Below w.heap.size w w' := Any.utf8_DecodeRuneInString Tryz.lays197 s w hT
def Tryz.laysSlM5_f255_ren : Go.Shelf.Ren := ⟨fun | 5 => 255 | 8 => 259 | 7 => 258 | 19 => 269 | 20 => 215 | 10 => 260 | 11 => 261 | 12 => 262 | 13 => 263 | 14 => 264 | 15 => 265 | 16 => 266 | 17 => 267 | 18 => 268 | 30 => 270 | 31 => 271 | 32 => 272 | 33 => 273 | 34 => 274 | 35 => 275 | 40 => 276 | n => n, fun | 23 => 71 | 25 => 3 | 3 => 3 | 32 => 273 | 22 => 71 | 0 => 0 | 44 => 252 | 46 => 41 | 4 => 4 | 36 => 361 | 35 => 360 | 41 => 25 | 5 => 5 | 9 => 9 | 53 => 367 | 57 => 371 | 63 => 373 | 64 => 316 | n => n, fun | n => n⟩
theorem Tryz.laysSlM5_f255 : Go.Proofs.SlLaysM.n5 Tryz.prog Tryz.laysSlM5_f255_ren := {
 mixed := by kernel_rfl
 f5 := ⟨Tryz.f255.name, by decide, Tryz.func255.trans (congrArg some (by kernel_rfl))⟩
 f7 := ⟨Tryz.f258.name, by decide, Tryz.func258.trans (congrArg some (by kernel_rfl))⟩
 f8 := Tryz.func259.trans (congrArg some (by kernel_rfl))
 f10 := ⟨Tryz.f260.name, by decide, Tryz.func260.trans (congrArg some (by kernel_rfl))⟩
 f11 := ⟨Tryz.f261.name, by decide, Tryz.func261.trans (congrArg some (by kernel_rfl))⟩
 f12 := ⟨Tryz.f262.name, by decide, Tryz.func262.trans (congrArg some (by kernel_rfl))⟩
 f13 := ⟨Tryz.f263.name, by decide, Tryz.func263.trans (congrArg some (by kernel_rfl))⟩
 f14 := ⟨Tryz.f264.name, by decide, Tryz.func264.trans (congrArg some (by kernel_rfl))⟩
 f15 := ⟨Tryz.f265.name, by decide, Tryz.func265.trans (congrArg some (by kernel_rfl))⟩
 f16 := ⟨Tryz.f266.name, by decide, Tryz.func266.trans (congrArg some (by kernel_rfl))⟩
 f17 := ⟨Tryz.f267.name, by decide, Tryz.func267.trans (congrArg some (by kernel_rfl))⟩
 f18 := ⟨Tryz.f268.name, by decide, Tryz.func268.trans (congrArg some (by kernel_rfl))⟩
 f19 := Tryz.func269.trans (congrArg some (by kernel_rfl))
 f20 := Tryz.func215.trans (congrArg some (by kernel_rfl))
 f30 := ⟨Tryz.f270.name, by decide, Tryz.func270.trans (congrArg some (by kernel_rfl))⟩
 f31 := Tryz.func271.trans (congrArg some (by kernel_rfl))
 f32 := Tryz.func272.trans (congrArg some (by kernel_rfl))
 f33 := ⟨Tryz.f273.name, by decide, Tryz.func273.trans (congrArg some (by kernel_rfl))⟩
 f34 := ⟨Tryz.f274.name, by decide, Tryz.func274.trans (congrArg some (by kernel_rfl))⟩
 f35 := ⟨Tryz.f275.name, by decide, Tryz.func275.trans (congrArg some (by kernel_rfl))⟩
 f40 := ⟨Tryz.f276.name, by decide, Tryz.func276.trans (congrArg some (by kernel_rfl))⟩
 t0 := Tryz.underlying0
 a0 := Tryz.isAgg0
 z0 := Tryz.sizeOf0
 v0 := Tryz.zeroValue0
 t3 := Tryz.underlying3
 a3 := Tryz.isAgg3
 z3 := Tryz.sizeOf3
 v3 := Tryz.zeroValue3
 t4 := Tryz.underlying4
 a4 := Tryz.isAgg4
 z4 := Tryz.sizeOf4
 v4 := Tryz.zeroValue4
 t5 := Tryz.underlying5
 a5 := Tryz.isAgg5
 z5 := Tryz.sizeOf5
 v5 := Tryz.zeroValue5
 t9 := Tryz.underlying9
 a9 := Tryz.isAgg9
 z9 := Tryz.sizeOf9
 v9 := Tryz.zeroValue9
 t22 := Tryz.underlying71
 a22 := Tryz.isAgg71
 z22 := Tryz.sizeOf71
 v22 := Tryz.zeroValue71
 t23 := Tryz.underlying71
 a23 := Tryz.isAgg71
 z23 := Tryz.sizeOf71
 v23 := Tryz.zeroValue71
 t25 := Tryz.underlying3
 a25 := Tryz.isAgg3
 z25 := Tryz.sizeOf3
 v25 := Tryz.zeroValue3
 t32 := Tryz.underlying273
 a32 := Tryz.isAgg273
 z32 := Tryz.sizeOf273
 v32 := Tryz.zeroValue273
 t35 := Tryz.underlying360
 a35 := Tryz.isAgg360
 z35 := Tryz.sizeOf360
 v35 := Tryz.zeroValue360
 t36 := Tryz.underlying361
 a36 := Tryz.isAgg361
 z36 := Tryz.sizeOf361
 v36 := Tryz.zeroValue361
 t41 := Tryz.underlying25
 a41 := Tryz.isAgg25
 z41 := Tryz.sizeOf25
 v41 := Tryz.zeroValue25
 t44 := Tryz.underlying252
 a44 := Tryz.isAgg252
 z44 := Tryz.sizeOf252
 v44 := Tryz.zeroValue252
 t46 := Tryz.underlying41
 a46 := Tryz.isAgg41
 z46 := Tryz.sizeOf41
 v46 := Tryz.zeroValue41
 t53 := Tryz.underlying367
 a53 := Tryz.isAgg367
 z53 := Tryz.sizeOf367
 v53 := Tryz.zeroValue367
 t57 := Tryz.underlying371
 a57 := Tryz.isAgg371
 z57 := Tryz.sizeOf371
 v57 := Tryz.zeroValue371
 t63 := Tryz.underlying373
 a63 := Tryz.isAgg373
 z63 := Tryz.sizeOf373
 v63 := Tryz.zeroValue373
 t64 := Tryz.underlying316
 a64 := Tryz.isAgg316
 z64 := Tryz.sizeOf316
 v64 := Tryz.zeroValue316 }
open Go.Sort Go.RowKit in
theorem Tryz.slices_Sort_int (blk off cap : Nat) (zs : List Int) (w : World) (hH : Holds (Value.int .i64) w blk off zs.toArray) (hblk : blk < w.heap.size) (hsz : zs.length < 4611686018427387904) :
  Calls Tryz.prog 255 #[.slice (some ⟨blk, off, none⟩) zs.length cap] w fun e w' =>
   e = .returned (.tuple #[]) ∧ ∃ n os, w' = grow (putRow (Value.int .i64) (Sort.ahead w n) blk off (zs.mergeSort fun x y => decide (x ≤ y)).toArray) os := AnyM.slices_Sort_int Tryz.laysSlM5_f255 blk off cap zs w hH hblk hsz
open Go.RowKit Go.Sort in
theorem Tryz.slices_Sort_int_none (p : Option Addr) (cap : Nat) (w : World) :
  Calls Tryz.prog 255 #[.slice p 0 cap] w fun e w' => e = .returned (.tuple #[]) ∧ w' = w := AnyM.slices_Sort_int_none Tryz.laysSlM5_f255 p cap w
end Go.Proofs
namespace Go.Proofs.YthbhmnakmhambaaGreatDoor
open Go Go.RowKit Go.Shelf
def RegsAt (W : World) (g : Nat) (r : List Nat) : Prop := ∃ cs fz, W.heap[g]? = some (.cells cs 5 fz) ∧ (∀ (j x : Nat), r[j]? = some x → cs[j]? = some (Value.int .u8 (x : Int))) ∧ (fz = (0, 0) ∨ r.length ≤ fz.1)
theorem RegsAt.lt {W : World} {g : Nat} {r : List Nat} (h : RegsAt W g r) : g < W.heap.size := by
 obtain ⟨cs, fz, h1, -⟩ := h
 exact (Array.getElem?_eq_some_iff.1 h1).1
theorem RegsAt.cell {W : World} {g : Nat} {r : List Nat} (h : RegsAt W g r) {j x : Nat} (hx : r[j]? = some x) : W.cell? ⟨g, j, none⟩ = some (.int .u8 (x : Int)) := by
 obtain ⟨cs, fz, h1, h2, -⟩ := h
 simp [World.cell?, h1, h2 j x hx]
theorem RegsAt.frozen {W : World} {g : Nat} {r : List Nat} (h : RegsAt W g r) {j x : Nat} (hx : r[j]? = some x) : W.frozen? ⟨g, j, none⟩ = false := by
 obtain ⟨cs, fz, h1, h2, h3⟩ := h
 have hj := (List.getElem?_eq_some_iff.1 hx).1
 rcases h3 with rfl | h3
 ·simp [World.frozen?, h1]
 ·simp [World.frozen?, h1]; omega
theorem RegsAt.block {W W' : World} {g : Nat} {r : List Nat} (h : RegsAt W g r) (hb : W'.heap[g]? = W.heap[g]?) : RegsAt W' g r := by
 obtain ⟨cs, fz, h1, h2⟩ := h
 exact ⟨cs, fz, hb.trans h1, h2⟩
theorem RegsAt.grown {W W' : World} {g : Nat} {r : List Nat} {row : Option Nat} (h : RegsAt W g r) (hg : W.grownBy W' row) (hne : some g ≠ row) : RegsAt W' g r := h.block (hg.block g h.lt hne)
theorem RegsAt.go {W W' : World} {g : Nat} {r : List Nat} (h : RegsAt W g r) (hb : Below W.heap.size W W') : RegsAt W' g r := h.block (hb.block g h.lt)
theorem RegsAt.set {W : World} {g : Nat} {r : List Nat} (h : RegsAt W g r) (p k : Nat) : RegsAt (W.setCell ⟨g, p, none⟩ (.int .u8 (k : Int))) g (r.set p k) := by
 obtain ⟨cs, fz, h1, h2, h3⟩ := h
 refine ⟨_, fz, hSk h1 _, fun j x hx => ?_, by rw [List.length_set]; exact h3⟩
 rw [List.getElem?_set] at hx
 rw [Array.getElem?_setIfInBounds]
 by_cases hp : p = j
 ·subst hp
  by_cases hl : p < r.length
  ·rw [if_pos rfl, if_pos hl] at hx
   cases hx
   have := h2 p _ (List.getElem?_eq_getElem hl)
   rw [if_pos rfl, if_pos (Array.getElem?_eq_some_iff.1 this).1]
  ·rw [if_pos rfl, if_neg hl] at hx
   cases hx
 ·rw [if_neg hp] at hx
  rw [if_neg hp]
  exact h2 j x hx
theorem RegsAt.other {W : World} {g b o : Nat} {r : List Nat} (h : RegsAt W g r) (hne : b ≠ g) (v : Value) : RegsAt (W.setCell ⟨b, o, none⟩ v) g r := h.block (heap_set_other (p := ⟨b, o, none⟩) hne v)
theorem greater_any (a b : Int) (w : World) : Calls Tryz.prog 202 #[.int .u8 a, .int .u8 b] w fun e w' => e = .returned (.int .u8 (max a b)) ∧ w' = w := by
 go_enter Tryz.func202, Tryz.ntmps202
 go_wp2
 go_ret
 exact ⟨rfl, rfl⟩
theorem ahead_any (n : Int) (w : World) (h0 : 0 ≤ n) (h1 : n ≤ 18446744073709551615) : Calls Tryz.prog 209 #[.int .u64 n] w fun e w' => e = .returned (.int .i64 (64 - (Lib.bitLen n.toNat : Int))) ∧ w' = w := by
 have hcall := Tryz.bits_LeadingZeros64 n w h0 h1
 generalize Lib.bitLen n.toNat = m at hcall ⊢
 go_enter Tryz.func209, Tryz.ntmps209
 go_wp2_with (go_at_call 212; refine hcall.mono ?_; rintro e w' ⟨rfl, rfl⟩)
 go_ret
 exact ⟨rfl, rfl⟩
theorem wrap_u64_mod (m : Nat) : IntKind.u64.wrap (m : Int) = ((m % 2 ^ 64 : Nat) : Int) := by simp [IntKind.wrap, IntKind.bits, IntKind.signed]
theorem wrap64_nat (m : Nat) (h : m < 2 ^ 63) : wrap64 (m : Int) = m := by unfold wrap64; omega
set_option maxRecDepth 100000 in
set_option maxHeartbeats 1000000 in
theorem Place_any (b : Nat) (n : Int) (w : World) (h1 : 3 ≤ b) (h2 : b ≤ 8) (hn : U64 n) : Calls Tryz.prog 204 #[.int .i64 b, .int .u64 n] w fun e w' => e = .returned (.tuple #[.int .i64 (hlAt b n.toNat : Nat), .int .i64 (hlRank b n.toNat : Nat)]) ∧ w' = w := by
 obtain ⟨m, rfl⟩ := Int.eq_ofNat_of_zero_le hn.1
 have hm : m < 2 ^ 64 := by have := hn.2; omega
 rw [Int.toNat_natCast]
 have hib : ∀ w, Calls Tryz.prog 153 #[.int .i64 b] w fun e w' => e = .returned (.bool true) ∧ w' = w := fun w => (isBits_any b w).mono fun e w' ⟨h3, h4⟩ => ⟨by rw [h3]; simp [isBitsB]; omega, h4.symm⟩
 have hw : IntKind.u64.wrap ((m : Int) * 2 ^ b) = ((m * 2 ^ b % 2 ^ 64 : Nat) : Int) := by
  rw [← wrap_u64_mod]; congr 1
 have hd : wrap64 ((m : Int) / 2 ^ (64 - b)) = ((hlAt b m : Nat) : Int) := by
  have h3 := hlAt_lt b m h2 hm
  have h4 : 2 ^ b ≤ 2 ^ 8 := Nat.pow_le_pow_right (by omega) h2
  rw [← wrap64_nat (hlAt b m) (by omega)]; unfold hlAt; congr 1
 have hk : hlRank b m = if m * 2 ^ b % 2 ^ 64 = 0 then 65 - b else 65 - Lib.bitLen (m * 2 ^ b % 2 ^ 64) := rfl
 have ho64 : m * 2 ^ b % 2 ^ 64 < 2 ^ 64 := Nat.mod_lt _ (by decide)
 generalize m * 2 ^ b % 2 ^ 64 = o at hw hk ho64
 generalize hlAt b m = q at hd ⊢
 generalize hlRank b m = k at hk ⊢
 have HK := Lib.hid hk
 clear hk hn hm
 by_cases h0 : o = 0
 ·subst h0
  have HK2 : Hid (((65 : Int) - (b : Int)) = (k : Int)) := by have := HK.out; simp at this; show _ = _; omega
  go_enter Tryz.func204, Tryz.ntmps204
  go_wp2_with (go_at_call 153; refine (hib _).mono ?_; rintro e w' ⟨rfl, rfl⟩)
  go_ret2
  exact ⟨by rw [← HK2.out, ← hd]; rfl, rfl⟩
 ·have t0 : ((o : Int) != 0) = true := by rw [bne_iff_ne]; omega
  have hA := ahead_any (o : Int) w (by omega) (by omega)
  rw [Int.toNat_natCast] at hA
  have hlen := bitLen_64 o ho64 h0
  have HK2 : Hid ((64 - (Lib.bitLen o : Int)) + 1 = (k : Int)) := by have := HK.out; rw [if_neg h0] at this; show _ = _; omega
  generalize Lib.bitLen o = z at hA hlen HK2
  have hz : (z : Int) ≤ 64 := by omega
  clear HK ho64 h0
  go_enter Tryz.func204, Tryz.ntmps204
  go_wp2_with (first | (go_at_call 153; refine (hib _).mono ?_; rintro e w' ⟨rfl, rfl⟩) | (go_at_call 209; refine hA.mono ?_; rintro e w' ⟨rfl, rfl⟩))
  go_ret2
  exact ⟨by rw [← HK2.out, ← hd]; rfl, rfl⟩
end Go.Proofs.YthbhmnakmhambaaGreatDoor
namespace Go.Proofs.YthbhmnakmhambaaGreatDoor
open Go Go.RowKit
structure GW (w : World) : Prop where
 utf8 : Lib.Utf8Tabs 2 3 w
 maxLen : ∃ m, w.cell? ⟨1, 0, none⟩ = some (.int .i64 m)
 size : 4 ≤ w.heap.size
theorem GW.below {w w' : World} (h : GW w) (hb : Below w.heap.size w w') : GW w' :=
 ⟨Utf8Tabs_below h.utf8 hb, let ⟨m, hm⟩ := h.maxLen; ⟨m, (hb.cell (p := ⟨1, 0, none⟩) (by have := h.size; show 1 < w.heap.size; omega)).trans hm⟩, Nat.le_trans h.size hb.size⟩
def isNameRuneB (c : Int) : Bool := decide (97 ≤ c) && decide (c ≤ 122)
def isValueRuneB (c : Int) : Bool := decide (32 ≤ c) && (c != 127)
theorem isNameRune_any (c : Int) (w : World) : Calls Tryz.prog 124 #[.int .i32 c] w fun e w' => e = .returned (.bool (isNameRuneB c)) ∧ w = w' := by
 by_cases h1 : 97 ≤ c
 ·go_enter Tryz.func124, Tryz.ntmps124
  go_wp2
  go_ret
  exact ⟨by simp [isNameRuneB, h1], rfl⟩
 ·go_enter Tryz.func124, Tryz.ntmps124
  go_wp2
  go_ret
  exact ⟨by simp [isNameRuneB]; omega, rfl⟩
theorem isValueRune_any (c : Int) (w : World) : Calls Tryz.prog 125 #[.int .i32 c] w fun e w' => e = .returned (.bool (isValueRuneB c)) ∧ w = w' := by
 by_cases h1 : 32 ≤ c
 ·go_enter Tryz.func125, Tryz.ntmps125
  go_wp2
  go_ret
  exact ⟨by simp [isValueRuneB, h1], rfl⟩
 ·go_enter Tryz.func125, Tryz.ntmps125
  go_wp2
  go_ret
  exact ⟨by simp [isValueRuneB]; omega, rfl⟩
def isNameS (s : ByteArray) : Bool := s.size != 0 && decide (s.size ≤ 12) && (rl s 0).all fun p => isNameRuneB p.2
set_option maxHeartbeats 400000 in
theorem isName_any (s : ByteArray) (w : World) (hs : s.size ≤ maxLen) : Calls Tryz.prog 101 #[.string s] w fun e w' => e = .returned (.bool (isNameS s)) ∧ Below w.heap.size w w' := by
 unfold maxLen at hs
 have hem := toList_isEmpty s
 by_cases h0 : s.size = 0
 ·have h1 : s.toList.isEmpty = true := by rw [hem]; simp [h0]
  have h2 : s.toList = [] := by simpa using h1
  clear hem
  go_enter Tryz.func101, Tryz.ntmps101
  go_wp2_with fail
  go_ret
  exact ⟨by simp [isNameS, h0], Below.refl _ _⟩
 ·have h1 : s.toList.isEmpty = false := by rw [hem]; simp [h0]
  have h2 : ¬ s.toList = [] := by simpa using h1
  clear hem
  by_cases h12 : s.size ≤ 12
  ·have h3 : decide ((12 : Int) < s.size) = false := by simp; omega
   go_enter Tryz.func101, Tryz.ntmps101
   go_wp2_with fail
   go_loopw [] (fun wr => ∃ pos, wr.heap[w.heap.size]? = some (.stringIter s pos) ∧ Below w.heap.size w wr ∧ Hid (((rl s 0).all fun p => isNameRuneB p.2) = (rl s pos).all fun p => isNameRuneB p.2)) (fun wr => s.size - wr.iterPos w.heap.size)
   case atStart => exact ⟨0, World.iter_heap w s 0, (Below.refl _ _).alloc (Nat.le_refl _) _, rfl⟩
   case round =>
    obtain ⟨pos, hit, hbw, HS⟩ := hrel
    have hpos0 := iterPos_of hit
    by_cases hp : pos < s.size
    ·obtain ⟨W1, hnx, hit2, hbw2, -, -⟩ := next_str (P := Tryz.prog) hit hbw (Nat.le_refl _) hp
     have hstep := Lib.hid (rl_step s pos hp)
     have hd := dec_pos s pos hp
     go_wp2_with (go_at_call 124; refine (isNameRune_any _ _).mono ?_; rintro e w' ⟨rfl, rfl⟩)
     ·go_ret
      exact ⟨by have := HS.out; simp_all [isNameS, hstep.out], hbw2⟩
     ·go_roundw
      case rel => exact ⟨_, hit2, hbw2, by have := HS.out; rw [hstep.out] at this; simp_all [Hid]⟩
      case measure => rw [iterPos_of hit2, hpos0]; omega
    ·have hnx : ∀ ty, (Instr.next (.pointer (some ⟨w.heap.size, 0, none⟩)) true ty).run Tryz.prog wr = _ := fun ty => Lib.run_next_end_at wr w.heap.size s pos ty hit hp
     go_wp2_with fail
     go_ret
     exact ⟨by have := HS.out; rw [rl_end s pos hp] at this; simp [isNameS, h0, h12, this], hbw⟩
  ·have h3 : decide ((12 : Int) < s.size) = true := by simp; omega
   go_enter Tryz.func101, Tryz.ntmps101
   go_wp2_with fail
   go_ret
   exact ⟨by simp [isNameS, h12], Below.refl _ _⟩
def runeBad (s : ByteArray) (p : Nat × Int) : Bool := p.2 == 65533 && ((Lib.decodeGo (s.extract p.1 s.size)).2 : Int) == 1
def runesOk (s : ByteArray) : Bool := (rl s 0).all fun p => !runeBad s p
def runesN (s : ByteArray) : Int := if runesOk s then ((rl s 0).length : Int) else 0
set_option maxHeartbeats 400000 in
theorem Runes_any (s : ByteArray) (w : World) (hs : s.size ≤ maxLen) (hG : GW w) : Calls Tryz.prog 115 #[.string s] w fun e w' => e = .returned (.tuple #[.int .i64 (runesN s), .bool (runesOk s)]) ∧ Below w.heap.size w w' := by
 unfold maxLen at hs
 go_enter Tryz.func115, Tryz.ntmps115
 go_wp2_with fail
 go_loopw [4] (fun n wr => ∃ pos k, wr.heap[w.heap.size]? = some (.stringIter s pos) ∧ Below w.heap.size w wr ∧ n = .int .i64 (k : Nat) ∧ k ≤ pos ∧ Hid ((rl s 0).length = k + (rl s pos).length ∧ (runesOk s = (rl s pos).all fun p => !runeBad s p))) (fun _ wr => s.size - wr.iterPos w.heap.size)
 case atStart => exact ⟨0, 0, World.iter_heap w s 0, (Below.refl _ _).alloc (Nat.le_refl _) _, rfl, Nat.le_refl _, by simp [Hid, runesOk]⟩
 case round =>
  obtain ⟨pos, k, hit, hbw, rfl, hkp, HS⟩ := hrel
  have hpos0 := iterPos_of hit
  by_cases hp : pos < s.size
  ·obtain ⟨W1, hnx, hit2, hbw2, hsz, -⟩ := next_str (P := Tryz.prog) hit hbw (Nat.le_refl _) hp
   have hstep := Lib.hid (rl_step s pos hp)
   have hd := dec_pos s pos hp
   have hT := (hG.below hbw2).utf8
   have hbx : Below w.heap.size W1 W1 := Below.refl _ _
   by_cases hc : ((Utf8.decode s pos).1 : Int) = 65533
   ·have hc1 : (((Utf8.decode s pos).1 : Int) == 65533) = true := by simp [hc]
    have hpi : (pos : Int) ≤ s.size := by omega
    have HC := Lib.hid hc
    clear hc
    by_cases hz : ((Lib.decodeGo (s.extract pos s.size)).2 : Int) = 1
    ·have hz1 : (((Lib.decodeGo (s.extract pos s.size)).2 : Int) == 1) = true := by simp [hz]
     have HZ := Lib.hid hz
     clear hz
     go_wp2_with (go_at_call 134; refine (Tryz.utf8_DecodeRuneInString _ _ hT).mono ?_; rintro e w' ⟨rfl, hb'⟩)
     go_ret2
     have h2 : runesOk s = false := by rw [HS.out.2, hstep.out]; simp [runeBad, HC.out, HZ.out]
     exact ⟨by simp [runesN, h2], hbw2.trans (hb'.mono (by have := hbw2.size; omega))⟩
    ·have hz1 : (((Lib.decodeGo (s.extract pos s.size)).2 : Int) == 1) = false := by simpa using hz
     have HZ := Lib.hid hz
     clear hz
     go_wp2_with (go_at_call 134; refine (Tryz.utf8_DecodeRuneInString _ _ hT).mono ?_; rintro e w' ⟨rfl, hb'⟩)
     go_roundw
     case rel => exact ⟨_, k + 1, (hb'.block _ (by rw [hsz]; have := (Array.getElem?_eq_some_iff.1 hit).1; exact this)).trans hit2, hbw2.trans (hb'.mono (by have := hbw2.size; omega)), by go_num, by omega, by have h3 := HS.out.1; have h4 := HS.out.2; rw [hstep.out] at h3 h4; refine ⟨by simp at h3; omega, by rw [h4]; simp [runeBad, HZ.out]⟩⟩
     case measure => rw [iterPos_of ((hb'.block _ (by rw [hsz]; have := (Array.getElem?_eq_some_iff.1 hit).1; exact this)).trans hit2), hpos0]; omega
   ·have hc1 : (((Utf8.decode s pos).1 : Int) == 65533) = false := by simpa using hc
    have HC := Lib.hid hc
    clear hc
    go_wp2_with fail
    go_roundw
    case rel => exact ⟨_, k + 1, hit2, hbw2, by go_num, by omega, by have h3 := HS.out.1; have h4 := HS.out.2; rw [hstep.out] at h3 h4; refine ⟨by simp at h3; omega, by rw [h4]; simp [runeBad, HC.out]⟩⟩
    case measure => rw [iterPos_of hit2, hpos0]; omega
  ·have hnx : ∀ ty, (Instr.next (.pointer (some ⟨w.heap.size, 0, none⟩)) true ty).run Tryz.prog wr = _ := fun ty => Lib.run_next_end_at wr w.heap.size s pos ty hit hp
   go_wp2_with fail
   go_ret2
   have h2 := HS.out
   rw [rl_end s pos hp] at h2
   simp at h2
   exact ⟨by simp [runesN, h2], hbw⟩
end Go.Proofs.YthbhmnakmhambaaGreatDoor
namespace Go.Proofs.YthbhmnakmhambaaGreatDoor
open Go Go.RowKit Go.Shelf
attribute [local go_sem] Oper.semAt_some
def isValueS (s : ByteArray) : Bool := runesOk s && decide (runesN s ≤ 24) && (rl s 0).all fun p => isValueRuneB p.2
set_option maxHeartbeats 400000 in
theorem isValue_any (s : ByteArray) (w : World) (hs : s.size ≤ maxLen) (hG : GW w) : Calls Tryz.prog 102 #[.string s] w fun e w' => e = .returned (.bool (isValueS s)) ∧ Below w.heap.size w w' := by
 have hR := Runes_any s w hs hG
 unfold maxLen at hs
 by_cases h0 : runesOk s = true
 ·by_cases h1 : runesN s ≤ 24
  ·have h3 : decide ((24 : Int) < runesN s) = false := by simp; omega
   go_enter Tryz.func102, Tryz.ntmps102
   go_wp2_with (go_at_call 115; refine hR.mono ?_; rintro e w' ⟨rfl, hb'⟩)
   go_loopw [] (fun wr => ∃ pos, wr.heap[w'.heap.size]? = some (.stringIter s pos) ∧ Below w'.heap.size w' wr ∧ Hid (((rl s 0).all fun p => isValueRuneB p.2) = (rl s pos).all fun p => isValueRuneB p.2)) (fun wr => s.size - wr.iterPos w'.heap.size)
   case atStart => exact ⟨0, World.iter_heap w' s 0, (Below.refl _ _).alloc (Nat.le_refl _) _, rfl⟩
   case round =>
    obtain ⟨pos, hit, hbw, HS⟩ := hrel
    have hpos0 := iterPos_of hit
    have hsz := hb'.size
    by_cases hp : pos < s.size
    ·obtain ⟨W1, hnx, hit2, hbw2, -, -⟩ := next_str (P := Tryz.prog) hit hbw (Nat.le_refl _) hp
     have hstep := Lib.hid (rl_step s pos hp)
     have hd := dec_pos s pos hp
     go_wp2_with (go_at_call 125; refine (isValueRune_any _ _).mono ?_; rintro e w' ⟨rfl, rfl⟩)
     ·go_ret
      exact ⟨by have := HS.out; simp_all [isValueS, hstep.out], hb'.trans (hbw2.mono hsz)⟩
     ·go_roundw
      case rel => exact ⟨_, hit2, hbw2, by have := HS.out; rw [hstep.out] at this; simp_all [Hid]⟩
      case measure => rw [iterPos_of hit2, hpos0]; omega
    ·have hnx : ∀ ty, (Instr.next (.pointer (some ⟨w'.heap.size, 0, none⟩)) true ty).run Tryz.prog wr = _ := fun ty => Lib.run_next_end_at wr w'.heap.size s pos ty hit hp
     go_wp2_with fail
     go_ret
     exact ⟨by have := HS.out; rw [rl_end s pos hp] at this; simp [isValueS, h0, h1, this], hb'.trans (hbw.mono hsz)⟩
  ·have h3 : decide ((24 : Int) < runesN s) = true := by simp; omega
   go_enter Tryz.func102, Tryz.ntmps102
   go_wp2_with (go_at_call 115; refine hR.mono ?_; rintro e w' ⟨rfl, hb'⟩)
   go_ret
   exact ⟨by simp [isValueS]; intro _ h; omega, hb'⟩
 ·have h0' : runesOk s = false := by simpa using h0
  clear h0
  go_enter Tryz.func102, Tryz.ntmps102
  go_wp2_with (go_at_call 115; refine hR.mono ?_; rintro e w' ⟨rfl, hb'⟩)
  go_ret
  exact ⟨by simp [isValueS, h0'], hb'⟩
structure Lab where
 name : ByteArray
 value : ByteArray
def Lab.ok (l : Lab) : Prop := l.name.size < 4294967281 ∧ l.value.size < 4294967281
abbrev LabK := { l : Lab // l.ok }
def Lab.enc (l : Lab) : List Value := [.string l.name, .string l.value]
def Labs (n₀ : Nat) (w : World) (sv : Value) (ls : List Lab) : Prop := SlAt n₀ w sv ls.length (ls.flatMap Lab.enc)
theorem each_any (a : Option Addr) (len cap : Nat) (w : World) :
  Calls Tryz.prog 70 #[.slice a len cap] w fun e w' => e = .returned (.func (.func 126) #[] #[.pointer (some ⟨w.heap.size, 0, none⟩)]) ∧ w' = w.alloc (.cells #[.slice a len cap] 40) := by
 go_enter Tryz.func70, Tryz.ntmps70
 go_wp2
 go_ret
 exact ⟨rfl, rfl⟩
theorem labs_cell (ls : List Lab) (j : Nat) (x : Lab) (h : ls[j]? = some x) : (ls.flatMap Lab.enc)[j * 2]? = some (.string x.name) ∧ (ls.flatMap Lab.enc)[j * 2 + 1]? = some (.string x.value) := by
 induction ls generalizing j with
 | nil => simp at h
 | cons y ys ih =>
  cases j with
  | zero => simp at h; subst h; simp [Lab.enc]
  | succ j =>
   have := ih j (by simpa using h)
   rw [show (j + 1) * 2 = j * 2 + 2 by omega]
   simp only [List.flatMap_cons, Lab.enc, List.cons_append, List.nil_append, List.getElem?_cons_succ]
   exact this
theorem labs_len (ls : List Lab) : (ls.flatMap Lab.enc).length = ls.length * 2 := by
 induction ls with
 | nil => rfl
 | cons y ys ih => simp [List.flatMap_cons, Lab.enc, ih]; omega
theorem Labs.cells {n₀ : Nat} {w : World} {b off cap : Nat} {ls : List Lab} (h : Labs n₀ w (.slice (some ⟨b, off, none⟩) ls.length cap) ls) (j : Nat) (x : Lab) (hx : ls[j]? = some x) :
  b < n₀ ∧ w.cell? ⟨b, off + j * 2, none⟩ = some (.string x.name) ∧ w.cell? ⟨b, off + j * 2 + 1, none⟩ = some (.string x.value) := by
 rcases h with ⟨h, _⟩ | ⟨b', off', cap', e, hb, hc⟩
 ·simp at h
 ·simp only [Value.slice.injEq, Option.some.injEq, Addr.mk.injEq] at e
  obtain ⟨⟨rfl, rfl, _⟩, _, rfl⟩ := e
  have hj : j < ls.length := (List.getElem?_eq_some_iff.1 hx).1
  have := labs_cell ls j x hx
  rw [labs_len] at hc
  exact ⟨hb, (hc (j * 2) (by omega)).trans this.1, (hc (j * 2 + 1) (by omega)).trans this.2⟩
set_option maxRecDepth 100000 in
set_option maxHeartbeats 1000000 in
theorem values1_lab (l Bs n₀ b off cap : Nat) (ls : List LabK) (hreach : ls.length < 4294967281) (J Jx : List LabK → World → Prop)
  (hY : ∀ pre x W, J pre W → pre.length < ls.length → YieldAt Fence.wide 7 Tryz.prog l #[.agg #[.string x.1.name, .string x.1.value]] W fun e W' =>
   (e = .returned (.bool true) ∧ J (pre ++ [x]) W' ∧ Below n₀ W W') ∨ (e = .returned (.bool false) ∧ Jx (pre ++ [x]) W'))
  (W : World) (hJ : AbidesFrom W.heap.size J) (hn₀ : n₀ ≤ W.heap.size) (hBs : W.cell? ⟨Bs, 0, none⟩ = some (.slice (some ⟨b, off, none⟩) ls.length cap)) (hc : Labs n₀ W (.slice (some ⟨b, off, none⟩) (ls.map (·.1)).length cap) (ls.map (·.1))) (h0 : J [] W) :
  CallsIn Fence.wide 8 Tryz.prog 126 #[.func (.yield l) #[] #[], .pointer (some ⟨Bs, 0, none⟩)] W fun e W' => (∃ v, e = .returned v) ∧
   ((∃ ys, ys = ls ∧ J ys W') ∨ (∃ pre, pre <+: ls ∧ Jx pre W')) := by
 refine callsIn_of_wp Tryz.func126 rfl trivial ?_ rfl
 simp only [Tryz.ntmps126, List.size_toArray, List.length_cons, List.length_nil, Nat.reduceAdd, Nat.reduceSub, Array.replicate_succ, Array.replicate_zero, List.push_toArray, List.append_toArray, List.nil_append, List.cons_append]
 gi_wp2
 gi_loopw [7] (fun i wr => ∃ k : Nat, k ≤ ls.length ∧ i = .int .i64 k ∧ J (ls.take k) wr ∧ Below n₀ W wr) (fun i _ => ls.length - (intOf i).toNat)
 case atStart => exact ⟨0, Nat.zero_le _, rfl, h0, Below.refl _ _⟩
 case round =>
  obtain ⟨k, hk, rfl, hJs, hnx⟩ := hrel
  by_cases hlt : k < ls.length
  ·obtain ⟨x, hx⟩ : ∃ x, ls[k]? = some x := ⟨_, List.getElem?_eq_getElem hlt⟩
   obtain ⟨hb, hc0, hc1⟩ := Labs.cells (SlAt.below hnx hc) k x.1 (by simp [hx])
   have hJa := hJ _ _ (wr.alloc (.cells #[.string x.1.name, .string x.1.value] 70)) none hJs (World.grownBy_alloc _ _ none) (fun r e => by cases e)
   obtain ⟨fn, tmps, assign, body, hy, hR⟩ := hY _ x _ hJa (by simp; omega)
   have HX := Lib.hid hx
   clear hx
   gi_wp2
   refine hR.mono ?_
   rintro e W3 (⟨rfl, hJ3, hk3⟩ | ⟨rfl, hJx3⟩)
   ·gi_wp2
    go_roundw
    case rel => exact ⟨k + 1, by omega, by simp, by rw [List.take_add_one, HX.out]; exact hJ3, hnx.trans (((Below.refl n₀ wr).alloc (by have := hnx.size; omega) _).trans hk3)⟩
    case measure => simp [intOf]; omega
   ·gi_wp2
    refine bodyPost_ret (results_none rfl _ _ _) rfl ?_
    exact ⟨⟨_, rfl⟩, .inr ⟨_, by have h := List.take_prefix (k + 1) ls; rwa [List.take_add_one, HX.out] at h, hJx3⟩⟩
  ·obtain rfl : k = ls.length := by omega
   gi_wp2
   go_end0
   exact ⟨⟨_, rfl⟩, .inl ⟨_, List.take_length, hJs⟩⟩
set_option maxRecDepth 100000 in
set_option maxHeartbeats 1000000 in
theorem values1_lab_nil (l Bs : Nat) (J : List LabK → World → Prop) (W : World) (hBs : W.cell? ⟨Bs, 0, none⟩ = some (.slice none 0 0)) (h0 : J [] W) :
  CallsIn Fence.wide 8 Tryz.prog 126 #[.func (.yield l) #[] #[], .pointer (some ⟨Bs, 0, none⟩)] W fun e W' => (∃ v, e = .returned v) ∧ J [] W' := by
 refine callsIn_of_wp Tryz.func126 rfl trivial ?_ rfl
 simp only [Tryz.ntmps126, List.size_toArray, List.length_cons, List.length_nil, Nat.reduceAdd, Nat.reduceSub, Array.replicate_succ, Array.replicate_zero, List.push_toArray, List.append_toArray, List.nil_append, List.cons_append]
 gi_wp2
 gi_loopw [7] (fun i wr => i = .int .i64 0 ∧ J [] wr) (fun _ _ => 0)
 case atStart => exact ⟨rfl, h0⟩
 case round =>
  obtain ⟨rfl, hJs⟩ := hrel
  gi_wp2
  go_end0
  exact ⟨⟨_, rfl⟩, hJs⟩
theorem values_lab (Bs n₀ : Nat) (sv : Value) (ls : List LabK) (hreach : ls.length < 4294967281) (w : World) (hBs : Bs < w.heap.size) (hn₀ : n₀ ≤ w.heap.size)
  (hc : w.cell? ⟨Bs, 0, none⟩ = some sv) (hI : Labs n₀ w sv (ls.map (·.1))) :
  SeqStopsK Fence.wide 8 Tryz.prog 126 #[.pointer (some ⟨Bs, 0, none⟩)] (fun x : LabK => #[.agg #[.string x.1.name, .string x.1.value]]) (Below n₀) (fun ys => ys = ls) (fun pre => pre <+: ls) ls.length w := fun l J Jx W hW hJ _ hY h0 => by
 have hc' := (hW.cell (p := ⟨Bs, 0, none⟩) hBs).trans hc
 have hI' : Labs n₀ W sv (ls.map (·.1)) := SlAt.below (hW.mono hn₀) hI
 rcases id hI' with ⟨rfl, hl, _⟩ | ⟨b, off, cap, rfl, hb, hcs⟩
 ·obtain rfl : ls = [] := by simpa using hl
  exact (values1_lab_nil l Bs J W hc' h0).mono fun e W' ⟨he, hj⟩ => ⟨he, .inl ⟨_, rfl, hj⟩⟩
 ·rw [List.length_map] at hc'
  exact values1_lab l Bs n₀ b off cap ls hreach J Jx hY W hJ (Nat.le_trans hn₀ hW.size) hc' hI' h0
def strLe (a b : ByteArray) : Bool := Op.bytesLess a.toList b.toList || a.toList == b.toList
def labGo : ByteArray → List Lab → Bool
 | _, [] => true
 | before, x :: xs => (isNameS x.name && !strLe x.name before && isValueS x.value) && labGo x.name xs
def labLast : ByteArray → List Lab → ByteArray
 | before, [] => before
 | _, x :: xs => labLast x.name xs
theorem labGo_snoc (b : ByteArray) (ls : List Lab) (x : Lab) : labGo b (ls ++ [x]) = (labGo b ls && (isNameS x.name && !strLe x.name (labLast b ls) && isValueS x.value)) := by
 induction ls generalizing b with
 | nil => simp [labGo, labLast]
 | cons y ys ih => simp [labGo, labLast, ih, Bool.and_assoc]
theorem labLast_snoc (b : ByteArray) (ls : List Lab) (x : Lab) : labLast b (ls ++ [x]) = x.name := by
 induction ls generalizing b with
 | nil => rfl
 | cons y ys ih => simp [labLast, ih]
theorem labGo_prefix (b : ByteArray) (ps ls : List Lab) (h : ps <+: ls) (hf : labGo b ps = false) : labGo b ls = false := by
 obtain ⟨t, rfl⟩ := h
 induction ps generalizing b with
 | nil => simp [labGo] at hf
 | cons y ys ih =>
  simp only [labGo, List.cons_append] at hf ⊢
  rcases Bool.and_eq_false_iff.1 hf with h | h
  ·simp [h]
  ·simp [ih _ h]
def labRight (ls : List Lab) : Bool := ls.length != 0 && decide (ls.length ≤ 6) && labGo (⟨#[]⟩ : ByteArray) ls
set_option maxRecDepth 100000 in
set_option maxHeartbeats 1000000 in
theorem label_Right_mid (a0 : Option Addr) (cap : Nat) (ls : List LabK) (w : World) (hL : Labs w.heap.size w (.slice a0 ls.length cap) (ls.map (·.1))) (hG : GW w) (h1 : decide ((6 : Int) < ls.length) = false) (h2 : ((ls.length : Int) == 0) = false) (h3 : ls.length < 4294967281) :
  Calls Tryz.prog 69 #[.slice a0 ls.length cap] w fun e w' => e = .returned (.bool (labGo (⟨#[]⟩ : ByteArray) (ls.map (·.1)))) ∧ Below w.heap.size w w' := by
 refine calls_marks Tryz.func69 rfl ?_
 simp only [Tryz.ntmps69, List.size_toArray, List.length_cons, List.length_nil, Nat.reduceAdd, Nat.reduceSub, Array.replicate_succ, Array.replicate_zero, List.push_toArray, List.append_toArray, List.nil_append, List.cons_append]
 go_wp2_with fail
 go_step3
 go_wp2_with fail
 go_step3
 go_wp2_with (go_at_call 70; refine (each_any _ _ _ _).mono ?_; rintro e w' ⟨rfl, rfl⟩)
 have bR := Boxed.new w 4 (.bool true)
 have bB := Boxed.new (w.alloc (.cells #[.bool true] 4)) 9 (.string (⟨#[]⟩ : ByteArray))
 have bN := Boxed.new ((w.alloc (.cells #[.bool true] 4)).alloc (.cells #[.string (⟨#[]⟩ : ByteArray)] 9)) 40 (.slice a0 ls.length cap)
 have hB0 : Below w.heap.size w (((w.alloc (.cells #[.bool true] 4)).alloc (.cells #[.string (⟨#[]⟩ : ByteArray)] 9)).alloc (.cells #[.slice a0 ls.length cap] 40)) := (((Below.refl _ w).alloc (Nat.le_refl _) _).alloc (by simp) _).alloc (by simp; omega) _
 simp only [World.size_alloc] at bB bN
 have bR0 := (bR.alloc (.cells #[.string (⟨#[]⟩ : ByteArray)] 9)).alloc (.cells #[.slice a0 ls.length cap] 40)
 have bB0 := bB.alloc (.cells #[.slice a0 ls.length cap] 40)
 have hsz : (((w.alloc (.cells #[.bool true] 4)).alloc (.cells #[.string (⟨#[]⟩ : ByteArray)] 9)).alloc (.cells #[.slice a0 ls.length cap] 40)).heap.size = w.heap.size + 3 := by simp
 generalize (((w.alloc (.cells #[.bool true] 4)).alloc (.cells #[.string (⟨#[]⟩ : ByteArray)] 9)).alloc (.cells #[.slice a0 ls.length cap] 40)) = W0 at bR0 bB0 bN hB0 hsz ⊢
 clear bR bB
 refine wp_range_box 70 (fun x : LabK => #[.string x.1.name, .string x.1.value]) 5 (gf := 126) (lb := #[.pointer (some ⟨w.heap.size + 2, 0, none⟩)]) rfl (enters_of Tryz.func126 (by kernel_rfl) rfl)
  (values_lab (w.heap.size + 2) w.heap.size _ ls h3 W0 (by omega) (by omega) bN.cell (SlAt.below hB0 hL)) (by omega) (Below.refl _ _) (fun _ => rfl)
  (fun pre W => Boxed W w.heap.size 4 (.bool true) ∧ Boxed W (w.heap.size + 1) 9 (.string (labLast ⟨#[]⟩ (pre.map (·.1)))) ∧ labGo ⟨#[]⟩ (pre.map (·.1)) = true ∧ Below w.heap.size w W)
  (fun c pre W => Boxed W w.heap.size 4 (.bool false) ∧ (c = .exit 0 ∧ labGo ⟨#[]⟩ (pre.map (·.1)) = false) ∧ Below w.heap.size w W)
  ((ownBox _ _ _ _).and ((ownBox _ _ _ _).and ((ownFrom_pure _ _).and (ownFrom_below (Nat.le_refl _) (by omega)))))
  (fun c => (ownBox _ _ _ _).and ((ownFrom_pure _ _).and (ownFrom_below (Nat.le_refl _) (by omega))))
  ⟨bR0, bB0, rfl, hB0⟩ ?assign ?body ?done ?stop
 case assign =>
  rintro l pre x W K ⟨hb1, hb2, hg, hB⟩ hs hK
  simp only [List.zip_toArray, List.zip_cons_cons, List.zip_nil_right, List.size_toArray, List.foldl_toArray', List.foldl_cons, List.foldl_nil, List.setIfInBounds_toArray, List.set_cons_succ, List.set_cons_zero] at hK ⊢
  gi_wp2
  exact ⟨hb1.alloc _, hb2.alloc _, hg, hB.alloc hB.size _⟩
 case body =>
  rintro l pre x W Bx ⟨hb1, hb2, hg, hB⟩ hBx hBl hx hlt
  have c0 := cCc hx 0
  have c1 := cCc hx 1
  have c2 := hb2.cell
  have c3 := hb1.cell
  have c4 := hb1.frozen
  have c5 := hb2.frozen
  have hGW : GW W := hG.below hB
  have hB' := hB.size
  simp at c0 c1
  simp only [List.zip_toArray, List.zip_cons_cons, List.zip_nil_right, List.size_toArray, List.foldl_toArray', List.foldl_cons, List.foldl_nil, List.setIfInBounds_toArray, List.set_cons_succ, List.set_cons_zero]
  generalize hlast : labLast ⟨#[]⟩ (pre.map (·.1)) = last at c2 hb2
  have hsn := labGo_snoc ⟨#[]⟩ (pre.map (·.1)) x.1
  rw [hg, hlast] at hsn
  have hsl := labLast_snoc ⟨#[]⟩ (pre.map (·.1)) x.1
  have HS := Lib.hid hsn
  have HL := Lib.hid hsl
  have hnm := isName_any x.1.name W (by have := x.2.1; unfold maxLen; omega)
  clear hsn hsl hlast hsz hx
  have hlt1 := hb1.lt
  gi_wp2_with fail
  refine ⟨trivial, (CallsIn.inRound l (callsIn_wide.2 hnm)).mono ?_⟩
  rintro e w1 ⟨rfl, hb1'⟩
  have d0 := (hb1'.cell (p := ⟨Bx, 0, none⟩) hBl).trans c0
  have d1 := (hb1'.cell (p := ⟨Bx, 1, none⟩) hBl).trans c1
  have e1 := bBoxed hb1' hlt1 hb1
  have e2 := bBoxed hb1' hb2.lt hb2
  have d2 := e2.cell
  have d3 := e1.cell
  have d4 := e1.frozen
  have d5 := e2.frozen
  have hs1 := hb1'.size
  have hBw : Below w.heap.size W w1 := hb1'.mono hB'
  have hKw : KeepsFrom W0.heap.size W w1 := bKeeps hb1' (Nat.le_refl _)
  clear hnm
  by_cases hn : isNameS x.1.name = true
  ·by_cases hle : (Op.bytesLess x.1.name.toList last.toList || x.1.name.toList == last.toList) = true
   ·gi_wp2_with fail
    refine ⟨trivial, ?_⟩
    gi_wp2_with fail
    exact ⟨hKw.trans ((KeepsOthers.setCell _ _ _).from _), e1.set _, ⟨rfl, by rw [List.map_append, List.map_singleton, HS.out, strLe, hle]; simp⟩, hB.trans (hBw.setCell (p := ⟨w.heap.size, 0, none⟩) (Nat.le_refl _) _)⟩
   ·have hle' : (Op.bytesLess x.1.name.toList last.toList || x.1.name.toList == last.toList) = false := by simpa using hle
    clear hle
    have hvl := isValue_any x.1.value w1 (by have := x.2.2; unfold maxLen; omega) (hGW.below hb1')
    gi_wp2_with fail
    refine ⟨trivial, (CallsIn.inRound l (callsIn_wide.2 hvl)).mono ?_⟩
    rintro e w2 ⟨rfl, hb2'⟩
    have f0 := (hb2'.cell (p := ⟨Bx, 0, none⟩) (by show Bx < _; omega)).trans d0
    have g1 := bBoxed hb2' (by omega) e1
    have g2 := bBoxed hb2' (by have := hb2.lt; omega) e2
    have k2 := g2.cell
    have k3 := g1.cell
    have k4 := g1.frozen
    have k5 := g2.frozen
    have hBw2 : Below w.heap.size W w2 := hBw.trans (hb2'.mono (by omega))
    have hKw2 : KeepsFrom W0.heap.size W w2 := hKw.trans (bKeeps hb2' (Nat.le_refl _))
    clear hvl
    by_cases hv : isValueS x.1.value = true
    ·gi_wp2_with fail
     refine ⟨hKw2.trans ((KeepsOthers.setCell _ _ _).from _), hBw2.setCell (p := ⟨w.heap.size + 1, 0, none⟩) (Nat.le_succ _) _, g1.other (by omega) _, ?_, ?_, hB.trans (hBw2.setCell (p := ⟨w.heap.size + 1, 0, none⟩) (Nat.le_succ _) _)⟩
     ·rw [List.map_append, List.map_singleton, HL.out]; exact g2.set _
     ·rw [List.map_append, List.map_singleton, HS.out, strLe, hle', hn, hv]; rfl
    ·have hv' : isValueS x.1.value = false := by simpa using hv
     clear hv
     gi_wp2_with fail
     exact ⟨hKw2.trans ((KeepsOthers.setCell _ _ _).from _), g1.set _, ⟨rfl, by rw [List.map_append, List.map_singleton, HS.out, hv']; simp⟩, hB.trans (hBw2.setCell (p := ⟨w.heap.size, 0, none⟩) (Nat.le_refl _) _)⟩
  ·have hn' : isNameS x.1.name = false := by simpa using hn
   clear hn
   gi_wp2_with fail
   refine ⟨trivial, ?_⟩
   gi_wp2_with fail
   exact ⟨hKw.trans ((KeepsOthers.setCell _ _ _).from _), e1.set _, ⟨rfl, by rw [List.map_append, List.map_singleton, HS.out, hn']; simp⟩, hB.trans (hBw.setCell (p := ⟨w.heap.size, 0, none⟩) (Nat.le_refl _) _)⟩
 case done =>
  rintro D W hD ⟨hb1, hb2, hg, hB⟩ hK
  have c3 := hb1.cell
  have hDs : w.heap.size ≤ D := by omega
  clear hsz
  go_wp2_with fail
  refine marks_ret1 hK (results_tmp rfl _ _ _) ⟨by rw [hg]; rfl, bPutD hB hDs hK⟩
 case stop =>
  rintro D c pre W hD hp ⟨hb1, ⟨rfl, hg⟩, hB⟩ hK
  have c3 := hb1.cell
  have hDs : w.heap.size ≤ D := by omega
  clear hsz
  go_wp2_with fail
  refine marks_ret1 hK (results_tmp rfl _ _ _) ⟨by rw [labGo_prefix _ _ _ (hp.map _) hg]; rfl, bPutD hB hDs hK⟩
set_option maxHeartbeats 400000 in
theorem label_Right_any (a0 : Option Addr) (cap : Nat) (ls : List LabK) (w : World) (hL : Labs w.heap.size w (.slice a0 ls.length cap) (ls.map (·.1))) (hG : GW w) (h3 : ls.length < 4294967281) :
  Calls Tryz.prog 69 #[.slice a0 ls.length cap] w fun e w' => e = .returned (.bool (labRight (ls.map (·.1)))) ∧ Below w.heap.size w w' := by
 by_cases h0 : ls.length = 0
 ·have h2 : ((ls.length : Int) == 0) = true := by simp [h0]
  have H0 := Lib.hid h0
  clear h0
  refine calls_marks Tryz.func69 rfl ?_
  simp only [Tryz.ntmps69, List.size_toArray, List.length_cons, List.length_nil, Nat.reduceAdd, Nat.reduceSub, Array.replicate_succ, Array.replicate_zero, List.push_toArray, List.append_toArray, List.nil_append, List.cons_append]
  go_wp2_with fail
  go_step3
  go_wp2_with fail
  exact marks_ret0 (results_tmp rfl _ _ _) rfl ⟨by simp [labRight, H0.out], Below.refl _ _⟩
 ·have h2 : ((ls.length : Int) == 0) = false := by rw [beq_eq_false_iff_ne]; omega
  by_cases h6 : ls.length ≤ 6
  ·have h1 : decide ((6 : Int) < ls.length) = false := by simp; omega
   refine (label_Right_mid a0 cap ls w hL hG h1 h2 h3).mono ?_
   rintro e w' ⟨rfl, hb⟩
   exact ⟨by simp [labRight, h6, h0], hb⟩
  ·have h1 : decide ((6 : Int) < ls.length) = true := by simp; omega
   have H6 := Lib.hid h6
   refine calls_marks Tryz.func69 rfl ?_
   simp only [Tryz.ntmps69, List.size_toArray, List.length_cons, List.length_nil, Nat.reduceAdd, Nat.reduceSub, Array.replicate_succ, Array.replicate_zero, List.push_toArray, List.append_toArray, List.nil_append, List.cons_append]
   go_wp2_with fail
   go_step3
   go_wp2_with fail
   exact marks_ret0 (results_tmp rfl _ _ _) rfl ⟨by simp [labRight, H6.out], Below.refl _ _⟩
end Go.Proofs.YthbhmnakmhambaaGreatDoor
namespace Go.Proofs.YthbhmnakmhambaaGreatDoor
open Go Go.RowKit Go.Shelf
def quotedB (l : List (Nat × Int)) : List UInt8 := l.flatMap fun p => (if p.2 == 44 || p.2 == 92 then [92] else []) ++ Lib.encodeRune p.2
end Go.Proofs.YthbhmnakmhambaaGreatDoor
namespace Go.Proofs.YthbhmnakmhambaaGreatDoor
open Go Go.RowKit Go.Shelf
deriving instance DecidableEq for Lab
def labLess : List Lab → List Lab → Bool
 | [], bs => decide (0 < bs.length)
 | _ :: _, [] => false
 | x :: xs, y :: ys => if x.name = y.name ∧ x.value = y.value then labLess xs ys else if x.name ≠ y.name then Op.bytesLess x.name.toList y.name.toList else Op.bytesLess x.value.toList y.value.toList
theorem lab_cells {n₀ : Nat} {w : World} {a : Option Addr} {len : Nat} {l : List Lab} (h : SlE Lab.enc 2 n₀ w a len l) {j : Nat} (hj : j < len) :
  ∃ x b off, l[j]? = some x ∧ a = some ⟨b, off, none⟩ ∧ b < n₀ ∧ w.cell? ⟨b, off + j * 2, none⟩ = some (.string x.name) ∧ w.cell? ⟨b, off + j * 2 + 1, none⟩ = some (.string x.value) := by
 obtain ⟨x, b, off, hx, e, hb, hc⟩ := h.at hj
 exact ⟨x, b, off, hx, e, hb, hc 0 (by omega), hc 1 (by omega)⟩
theorem beq_str (a b : ByteArray) : (a.toList == b.toList) = decide (a = b) := by
 by_cases h : a = b
 ·subst h; simp
 ·rw [decide_eq_false h, beq_eq_false_iff_ne]
  intro e
  apply h
  rw [Lib.toList_data, Lib.toList_data] at e
  exact ByteArray.ext (Array.ext' e)
theorem drop_cons' {α : Type} {l : List α} {k : Nat} {x : α} (h : l[k]? = some x) : l.drop k = x :: l.drop (k + 1) := by
 obtain ⟨hk, rfl⟩ := List.getElem?_eq_some_iff.1 h
 exact List.drop_eq_getElem_cons hk
theorem eg_lab : Tryz.prog.eqGuardType Tryz.prog.depth 70 = false := by kernel_rfl
theorem eq_lab (x1 x2 y1 y2 : ByteArray) (w : World) : (binOp .eql 70 (.agg #[.string x1, .string x2]) (.agg #[.string y1, .string y2])).run Tryz.prog w = .ok (.bool (x1.toList == y1.toList && x2.toList == y2.toList)) w := by
 have h1 : Tryz.prog.underlying 70 = some (.struct (Tryz.prog.fieldsOf 70)) := by kernel_rfl
 have h2 : Tryz.prog.stoodInHeld 70 = false := by kernel_rfl
 have h3 : (Tryz.prog.fieldsOf 70).toList = [{ name := "Name", type := 9, offset := 0, embedded := false, tag := "", pkgPath := "", byteOffset := 0 }, { name := "Value", type := 9, offset := 1, embedded := false, tag := "", pkgPath := "", byteOffset := 16 }] := by kernel_rfl
 rw [run_eql_struct, run_equalIn_agg w 9999 _ _ _ h1 h2, h3]
 cases ha : (x1.toList == y1.toList) <;> cases hb : (x2.toList == y2.toList) <;> simp [go_sem, ha, hb, Tryz.underlying9]
set_option maxRecDepth 100000 in
set_option maxHeartbeats 1000000 in
theorem label_Less_any (a1 : Option Addr) (len1 cap1 : Nat) (l1 : List Lab) (a2 : Option Addr) (len2 cap2 : Nat) (l2 : List Lab) (w : World) (h1 : SlE Lab.enc 2 w.heap.size w a1 len1 l1) (h2 : SlE Lab.enc 2 w.heap.size w a2 len2 l2) (hm : len1 ≤ maxLen) (hm2 : len2 ≤ maxLen) :
  Calls Tryz.prog 34 #[.slice a1 len1 cap1, .slice a2 len2 cap2] w fun e w' => e = .returned (.bool (labLess l1 l2)) ∧ Below w.heap.size w w' := by
 unfold maxLen at hm hm2
 have E1 := Lib.hid h1.1
 have E2 := Lib.hid h2.1
 go_enter Tryz.func34, Tryz.ntmps34
 go_wp2_with fail
 go_loopw [4, 10] (fun _ i wr => ∃ (k : Nat), i = .int .i64 k ∧ k ≤ len1 ∧ k ≤ len2 ∧ Below w.heap.size w wr ∧ Hid (labLess l1 l2 = labLess (l1.drop k) (l2.drop k))) (fun _ i _ => len1 - (intOf i).toNat)
 case atStart => exact ⟨0, rfl, Nat.zero_le _, Nat.zero_le _, Below.refl _ _, rfl⟩
 case round =>
  obtain ⟨k, rfl, hk, hk2, hB, HF⟩ := hrel
  have hsz := hB.size
  by_cases hlt : k < len1
  ·obtain ⟨x, b1, o1, hx, ea1, hb1, p0, p1⟩ := lab_cells (h1.below hB) hlt
   subst ea1
   by_cases hlt2 : k < len2
   ·obtain ⟨y, b2, o2, hy, ea2, hb2, q0, q1⟩ := lab_cells (h2.below hB) hlt2
    subst ea2
    obtain ⟨x1, x2⟩ := x
    obtain ⟨y1, y2⟩ := y
    dsimp only at p0 p1 q0 q1
    have t0 : ((k : Int) == (len2 : Int)) = false := by rw [beq_eq_false_iff_ne]; omega
    have HX : Hid (labLess l1 l2 = if x1 = y1 ∧ x2 = y2 then labLess (l1.drop (k + 1)) (l2.drop (k + 1)) else if x1 ≠ y1 then Op.bytesLess x1.toList y1.toList else Op.bytesLess x2.toList y2.toList) := by
     rw [Hid, HF.out, drop_cons' hx, drop_cons' hy]; rfl
    clear hx hy h1 h2 HF
    have i0 : (0 : Int) ≤ (k : Int) := by omega
    have i1 : (k : Int) < (len1 : Int) := by omega
    have i2 : (k : Int) < (len2 : Int) := by omega
    obtain ⟨W1, hW1, hX1, hB1, hs1⟩ := boxes1 wr #[.string x1, .string x2] 70
    have u0 : W1.cell? ⟨b2, o2 + k * 2, none⟩ = some (.string y1) := (hB1.cell (p := ⟨b2, o2 + k * 2, none⟩) (by show b2 < _; omega)).trans q0
    have u1 : W1.cell? ⟨b2, o2 + k * 2 + 1, none⟩ = some (.string y2) := (hB1.cell (p := ⟨b2, o2 + k * 2 + 1, none⟩) (by show b2 < _; omega)).trans q1
    obtain ⟨W2, hW2, hX3, hB3, hs2⟩ := boxes1 W1 #[.string y1, .string y2] 70
    have hX2 := (hB3.block wr.heap.size (by omega)).trans hX1
    have hB2 : Below wr.heap.size wr W2 := hB1.trans (hB3.mono (by omega))
    obtain ⟨r0, r1⟩ := cl2 hX2
    have r2 : W2.cell? ⟨W1.heap.size, 0, none⟩ = some (.string y1) := cCc hX3 0
    have r3 : W2.cell? ⟨W1.heap.size, 1, none⟩ = some (.string y2) := cCc hX3 1
    clear hX1 hX2 hX3 q0 q1 hs1 hs2
    have hBB : Below w.heap.size w W2 := hB.trans (hB2.mono hsz)
    have n2 := eg_lab
    have hn := beq_str x1 y1
    have hv := beq_str x2 y2
    by_cases hx1 : x1 = y1
    ·by_cases hx2 : x2 = y2
     ·have n1 : ∀ w, (binOp .eql 70 (.agg #[.string x1, .string x2]) (.agg #[.string y1, .string y2])).run Tryz.prog w = .ok (.bool true) w := fun w => by rw [eq_lab, hn, hv]; simp [hx1, hx2]
      have HXY := Lib.hid (And.intro hx1 hx2)
      clear hx1 hx2 hn hv
      go_wp2_with fail
      all_goals go_roundw
      case rel => exact ⟨k + 1, by go_num, by omega, by omega, hBB, by rw [Hid, HX.out, if_pos HXY.out]⟩
      case measure => simp [intOf]; omega
     ·have n1 : ∀ w, (binOp .eql 70 (.agg #[.string x1, .string x2]) (.agg #[.string y1, .string y2])).run Tryz.prog w = .ok (.bool false) w := fun w => by rw [eq_lab, hn, hv]; simp [hx2]
      have n3 : (x1.toList == y1.toList) = true := by rw [hn]; simp [hx1]
      have HXY : Hid (¬ (x1 = y1 ∧ x2 = y2) ∧ ¬ (x1 ≠ y1)) := ⟨fun h => hx2 h.2, fun h => h hx1⟩
      clear hx1 hx2 hn hv
      go_wp2_with fail
      go_ret
      exact ⟨by rw [HX.out, if_neg HXY.out.1, if_neg HXY.out.2]; rfl, hBB⟩
    ·have n1 : ∀ w, (binOp .eql 70 (.agg #[.string x1, .string x2]) (.agg #[.string y1, .string y2])).run Tryz.prog w = .ok (.bool false) w := fun w => by rw [eq_lab, hn, hv]; simp [hx1]
     have n3 : (x1.toList == y1.toList) = false := by rw [hn]; simp [hx1]
     have HXY : Hid (¬ (x1 = y1 ∧ x2 = y2) ∧ (x1 ≠ y1)) := ⟨fun h => hx1 h.1, hx1⟩
     clear hx1 hn hv
     go_wp2_with fail
     go_ret
     exact ⟨by rw [HX.out, if_neg HXY.out.1, if_pos HXY.out.2]; rfl, hBB⟩
   ·have t0 : ((k : Int) == (len2 : Int)) = true := by rw [beq_iff_eq]; omega
    have i0 : (0 : Int) ≤ (k : Int) := by omega
    have i1 : (k : Int) < (len1 : Int) := by omega
    have HX : Hid (labLess l1 l2 = false) := by
     rw [Hid, HF.out, drop_cons' hx, (List.drop_eq_nil_of_le (by rw [← E2.out]; omega) : l2.drop k = [])]; rfl
    have hBa : Below w.heap.size w (wr.alloc (.cells #[.string x.name, .string x.value] 70)) := hB.alloc hsz _
    clear hx h1 h2 HF
    go_wp2_with fail
    go_ret
    exact ⟨by rw [HX.out]; rfl, hBa⟩
  ·have HX : Hid (labLess l1 l2 = decide ((len1 : Int) < len2)) := by
    rw [Hid, HF.out, List.drop_eq_nil_of_le (by rw [← E1.out]; omega), labLess, List.length_drop, ← E2.out]
    simp; omega
   clear h1 h2 HF
   go_wp2_with fail
   go_ret
   exact ⟨by rw [HX.out]; simp, hB⟩
end Go.Proofs.YthbhmnakmhambaaGreatDoor

/- DERIVED: THE SHELF's CONTRACTS AT THIS DUMP, IN PLAIN WORDS (tools/lay-plain.mjs out of 'TryzShelf.lean', which tools/lay-shelf.mjs wrote): THE SAME DECLARATIONS UNDER THE SAME NAMES: 'import', 'namespace', 'open', 'def', 'theorem' AND NOTHING ELSE: no command of the shelf's: FOR A HAND-IN. Each laying: the table of numbers ('.._ren') and one theorem, a field a fact of the dump's own or the kernel's comparison; each contract: ONE APPLICATION. Package hll: done, blank, begin. Package hll: begin, add. Histograms as plain data: bins put into rising bins, buckets half as fine. No program in sight. Sketches at work as plain data: a number added, one level lower. No program in sight. Package hist: blank, begin. Package cms: New, begin, Add, Lower. Package exact: errno; what Add and Merge hand back. Package ladder: the four bodies' add and lower; told. errors.As at a target of type **ladder.fault: lines of the worked example ToyasAs turned to this program; ladder.errno, isFull. What rows have in common: the program's closed facts, sketches and numbers opened, errors.errorType. Printed by gen_rz.py. Package ladder: a sketch as a value and its body at work. Package ladder: stores into a box, kept bodies and sketches; lowered at the bottom; told. Package ladder: to. -/
import Derived.Test.YthbhmnakmhambaaGreatDoorZLE
import Derived.Test.YthbhmnakmhambaaGreatDoorZLI
namespace Go.Proofs
open Go.Shelf
def Tryz.lays143_ren : Go.Shelf.Ren := ⟨fun | 143 => 150 | 219 => 151 | 217 => 161 | 225 => 162 | 224 => 163 | 267 => 164 | 266 => 166 | 314 => 167 | n => n, fun | 9 => 9 | 3 => 3 | 4 => 4 | 5 => 5 | 46 => 273 | 146 => 280 | 51 => 252 | n => n, fun | 1 => 1 | n => n⟩
theorem Tryz.lays143 : Go.Proofs.Lays.n143 Tryz.prog Tryz.lays143_ren := {
 mixed := by kernel_rfl
 f143 := Tryz.func150.trans (congrArg some (by kernel_rfl))
 f217 := Tryz.func161.trans (congrArg some (by kernel_rfl))
 f219 := Tryz.func151.trans (congrArg some (by kernel_rfl))
 f224 := Tryz.func163.trans (congrArg some (by kernel_rfl))
 f225 := Tryz.func162.trans (congrArg some (by kernel_rfl))
 f266 := Tryz.func166.trans (congrArg some (by kernel_rfl))
 f267 := Tryz.func164.trans (congrArg some (by kernel_rfl))
 f314 := Tryz.func167.trans (congrArg some (by kernel_rfl))
 t3 := Tryz.underlying3
 a3 := Tryz.isAgg3
 z3 := Tryz.sizeOf3
 v3 := Tryz.zeroValue3
 t4 := Tryz.underlying4
 a4 := Tryz.isAgg4
 z4 := Tryz.sizeOf4
 v4 := Tryz.zeroValue4
 t5 := Tryz.underlying5
 a5 := Tryz.isAgg5
 z5 := Tryz.sizeOf5
 v5 := Tryz.zeroValue5
 t9 := Tryz.underlying9
 a9 := Tryz.isAgg9
 z9 := Tryz.sizeOf9
 v9 := Tryz.zeroValue9
 t46 := Tryz.underlying273
 a46 := Tryz.isAgg273
 z46 := Tryz.sizeOf273
 v46 := Tryz.zeroValue273
 t51 := Tryz.underlying252
 a51 := Tryz.isAgg252
 z51 := Tryz.sizeOf252
 v51 := Tryz.zeroValue252
 t146 := Tryz.underlying280
 a146 := Tryz.isAgg280
 z146 := Tryz.sizeOf280
 v146 := Tryz.zeroValue280
 g1 := by kernel_rfl }
open Go.RowKit Go.Lib in
theorem Tryz.strings_Index_one (s : ByteArray) (c : UInt8) (w : World) :
  Calls Tryz.prog 150 #[.string s, .string ⟨#[c]⟩] w fun e w' => e = .returned (.int .i64 (Lib.indexByte s.data.toList c)) ∧ w' = w := Any.strings_Index_one Tryz.lays143 s c w
def Tryz.lays145_ren : Go.Shelf.Ren := ⟨fun | 145 => 111 | 220 => 132 | 219 => 151 | 217 => 161 | 225 => 162 | 224 => 163 | 267 => 164 | 266 => 166 | 314 => 167 | n => n, fun | 9 => 9 | 4 => 4 | 59 => 193 | 3 => 3 | 5 => 5 | 46 => 273 | 146 => 280 | 51 => 252 | n => n, fun | 1 => 1 | n => n⟩
theorem Tryz.lays145 : Go.Proofs.Lays.n145 Tryz.prog Tryz.lays145_ren := {
 mixed := by kernel_rfl
 f145 := Tryz.func111.trans (congrArg some (by kernel_rfl))
 f217 := Tryz.func161.trans (congrArg some (by kernel_rfl))
 f219 := Tryz.func151.trans (congrArg some (by kernel_rfl))
 f220 := Tryz.func132.trans (congrArg some (by kernel_rfl))
 f224 := Tryz.func163.trans (congrArg some (by kernel_rfl))
 f225 := Tryz.func162.trans (congrArg some (by kernel_rfl))
 f266 := Tryz.func166.trans (congrArg some (by kernel_rfl))
 f267 := Tryz.func164.trans (congrArg some (by kernel_rfl))
 f314 := Tryz.func167.trans (congrArg some (by kernel_rfl))
 t3 := Tryz.underlying3
 a3 := Tryz.isAgg3
 z3 := Tryz.sizeOf3
 v3 := Tryz.zeroValue3
 t4 := Tryz.underlying4
 a4 := Tryz.isAgg4
 z4 := Tryz.sizeOf4
 v4 := Tryz.zeroValue4
 t5 := Tryz.underlying5
 a5 := Tryz.isAgg5
 z5 := Tryz.sizeOf5
 v5 := Tryz.zeroValue5
 t9 := Tryz.underlying9
 a9 := Tryz.isAgg9
 z9 := Tryz.sizeOf9
 v9 := Tryz.zeroValue9
 t46 := Tryz.underlying273
 a46 := Tryz.isAgg273
 z46 := Tryz.sizeOf273
 v46 := Tryz.zeroValue273
 t51 := Tryz.underlying252
 a51 := Tryz.isAgg252
 z51 := Tryz.sizeOf252
 v51 := Tryz.zeroValue252
 t59 := Tryz.underlying193
 a59 := Tryz.isAgg193
 z59 := Tryz.sizeOf193
 v59 := Tryz.zeroValue193
 t146 := Tryz.underlying280
 a146 := Tryz.isAgg280
 z146 := Tryz.sizeOf280
 v146 := Tryz.zeroValue280
 g1 := by kernel_rfl }
open Go.RowKit Go.Lib in
theorem Tryz.strings_Cut (s sep : ByteArray) (m : Int) (w : World) (hs : s.size < 4294967281) (hm : w.cell? ⟨1, 0, none⟩ = some (.int .i64 m)) :
  Calls Tryz.prog 111 #[.string s, .string sep] w fun e w' => e = .returned (.tuple #[.string ⟨(Lib.cut s.data.toList sep.data.toList).1.toArray⟩, .string ⟨(Lib.cut s.data.toList sep.data.toList).2.1.toArray⟩, .bool (Lib.cut s.data.toList sep.data.toList).2.2]) ∧ ∃ n, w' = w.drewN n := Any.strings_Cut Tryz.lays145 s sep m w hs hm
end Go.Proofs
namespace Go.Proofs.YthbhmnakmhambaaGreatDoor
open Go Go.RowKit Go.Shelf
theorem run_bytes_of (W : World) (s : ByteArray) : ∃ W1 cap, (convert 9 181 (.string s)).run Tryz.prog W = .ok (.slice (some ⟨W.heap.size, 0, none⟩) s.size cap) W1 ∧ RegsAt W1 W.heap.size (s.data.toList.map (·.toNat)) ∧ Below W.heap.size W W1 ∧ W1.heap.size = W.heap.size + 1 := by
 refine ⟨_, _, Lib.run_convert_string_bytes W 9 181 5 s Tryz.underlying9 und_bytes8 Tryz.underlying5, ⟨_, _, Lib.bytesWorld_at_new W 5 s, fun j x hx => ?_, .inr ?_⟩, ?_, Lib.bytesWorld_size W _ s⟩
 ·rw [List.getElem?_map] at hx
  cases hb : s.data.toList[j]? with
  | none => rw [hb] at hx; cases hx
  | some y =>
   rw [hb] at hx
   cases hx
   have hj := (List.getElem?_eq_some_iff.1 hb).1
   rw [Array.length_toList] at hj
   unfold Lib.bytesCells
   rw [Array.getElem?_append_left (by simpa using hj), Array.getElem?_map, ← Array.getElem?_toList, hb]
   rfl
 ·simp [Lib.bytesCells]
 ·exact (Below.refl _ W).grown (row := none) ⟨rfl, rfl, rfl, by rw [Lib.bytesWorld_size]; omega, fun k hk _ => Lib.bytesWorld_at_old W _ s k hk⟩ (Nat.le_refl _) (fun k e => by cases e)
end Go.Proofs.YthbhmnakmhambaaGreatDoor
namespace Go.Proofs.YthbhmnakmhambaaGreatDoor
open Go Go.RowKit Go.Shelf
attribute [local go_sem] Oper.semAt_some
set_option maxRecDepth 100000 in
set_option maxHeartbeats 1000000 in
theorem hbegin_any (b : Nat) (r : List Nat) (w : World) (h1 : 3 ≤ b) (h2 : b ≤ 8) (hl : r.length = 2 ^ b) (hr : ∀ i, r.getD i 0 ≤ 65 - b) :
  Calls Tryz.prog 223 #[.agg #[.int .i64 b, .string (hlStr r)]] w fun e w' => ∃ g cap, e = .returned (.tuple #[.agg #[.int .i64 b, .string (hlStr r), .slice (some ⟨g, 0, none⟩) (2 ^ b) cap, .func (.func 202) #[] #[]], .nilIface]) ∧ RegsAt w' g r ∧ w.heap.size ≤ g ∧ Below w.heap.size w w' := by
 have hR : Hid (∀ w1, Below w.heap.size w w1 → Calls Tryz.prog 138 #[.agg #[.int .i64 b, .string (hlStr r)]] w1 fun e w' => e = .returned (.bool true) ∧ Below w1.heap.size w1 w') := fun w1 hb => (hll_Right_any b (hlStr r) w1).mono fun e w' h => ⟨by rw [h.1, hlRight_str b r h1 h2 hl hr], h.2⟩
 have hn := hlStr_nums r (fun x hx => by have := le_getD hr x hx; omega)
 have hz := hlStr_size r
 rw [hl] at hz
 generalize hlStr r = s at hn hz hR ⊢
 obtain ⟨W0, hW0, hX0, hX1, hB0, hs0⟩ := boxes2 w #[.int .i64 b, .string s] 32 #[.int .i64 0, .string ⟨#[]⟩, .slice none 0 0, .nilFunc] 303
 have HX0 := Lib.hid hX0
 have HX1 := Lib.hid hX1
 have HZ := Lib.hid hz
 have HN := Lib.hid hn
 obtain ⟨c0, c1⟩ := cl2 hX0
 clear hz hl hr hn hX0 hX1 h1 h2
 go_enter Tryz.func223, Tryz.ntmps223
 go_wp2_with fail
 refine (hR.out _ hB0).mono ?_
 rintro e w1 ⟨rfl, hb1⟩
 have hX0 := known hb1 (Nat.le_refl _) HX0.out
 have hX1 := known hb1 (Nat.le_refl _) HX1.out
 obtain ⟨k0, k1⟩ := cl2 hX0
 obtain ⟨W2, cap, hcv, hr2, hB2, hs2⟩ := run_bytes_of w1 s
 rw [HN.out] at hr2
 rw [HZ.out] at hcv
 generalize hg : w1.heap.size = g at hcv hr2 hB2 hs2
 have hwg : w.heap.size + 1 < g := by rw [← hg]; have := hb1.size; omega
 have hX2 := (hB2.block _ hwg).trans hX1
 have hBw : Below w.heap.size w W2 := (hB0.trans (hb1.mono hB0.size)).trans (hB2.mono (by omega))
 obtain ⟨d0, d1, d2, d3⟩ := cl4 hX2
 obtain ⟨f0, f1, f2, f3⟩ := cz4 hX2
 obtain ⟨W4, hW4⟩ : ∃ W4, ((W2.setCell ⟨w.heap.size + 1, 0, none⟩ (.int .i64 b)).setCell ⟨w.heap.size + 1, 1, none⟩ (.string s)).setCell ⟨w.heap.size + 1, 2, none⟩ (.slice (some ⟨g, 0, none⟩) (2 ^ b) cap) = W4 := ⟨_, rfl⟩
 have hX4 : W4.heap[w.heap.size + 1]? = some (.cells #[.int .i64 b, .string s, .slice (some ⟨g, 0, none⟩) (2 ^ b) cap, .nilFunc] 303 (0, 0)) := by rw [← hW4]; exact hSk (hSk (hSk hX2 _) _) _
 have hB4 : Below w.heap.size w W4 := by rw [← hW4]; exact ((hBw.setCell (p := ⟨w.heap.size + 1, 0, none⟩) (Nat.le_succ _) _).setCell (p := ⟨w.heap.size + 1, 1, none⟩) (Nat.le_succ _) _).setCell (p := ⟨w.heap.size + 1, 2, none⟩) (Nat.le_succ _) _
 have hr4 : RegsAt W4 g r := by rw [← hW4]; exact ((hr2.other (by omega) _).other (by omega) _).other (by omega) _
 have hst := st_fn (off := 3) hX4 rfl (.func 202)
 clear hg hX0 hX1 hX2 hr2 hB2 hBw hs2 hb1
 go_wp2_with fail
 have hX5 : (W4.setCell ⟨w.heap.size + 1, 3, none⟩ (.func (.func 202) #[] #[])).heap[w.heap.size + 1]? = some (.cells #[.int .i64 b, .string s, .slice (some ⟨g, 0, none⟩) (2 ^ b) cap, .func (.func 202) #[] #[]] 303 (0, 0)) := hSk hX4 _
 have hB5 := hB4.setCell (p := ⟨w.heap.size + 1, 3, none⟩) (Nat.le_succ _) (.func (.func 202) #[] #[])
 have hr5 := hr4.other (b := w.heap.size + 1) (o := 3) (by omega) (.func (.func 202) #[] #[])
 generalize W4.setCell ⟨w.heap.size + 1, 3, none⟩ (.func (.func 202) #[] #[]) = V at hX5 hB5 hr5 ⊢
 obtain ⟨q0, q1, q2, q3⟩ := cl4 hX5
 exact bodyPost_ret (v := .tuple #[.agg #[.int .i64 b, .string s, .slice (some ⟨g, 0, none⟩) (2 ^ b) cap, .func (.func 202) #[] #[]], .nilIface]) (by simp [results, Tryz.f223, go_sem, q0, q1, q2, q3]) rfl ⟨g, cap, rfl, hr5, by omega, hB5⟩
end Go.Proofs.YthbhmnakmhambaaGreatDoor
namespace Go.Proofs.YthbhmnakmhambaaGreatDoor
open Go Go.RowKit
theorem hiPuts_self : ∀ (l a : List (Int × Int)), BinUp (a ++ l) → hiPuts a l = a ++ l
 | [], a, _ => by simp [hiPuts]
 | b :: l, a, h => by
  have key : ∀ (a : List (Int × Int)), (∀ c ∈ a, c.1 < b.1) → binPut a b.1 b.2 = a ++ [b] := by
   intro a
   induction a with
   | nil => intro _; rfl
   | cons c a ih =>
    intro hc
    unfold binPut
    rw [if_pos (hc c List.mem_cons_self), ih (fun d hd => hc d (List.mem_cons_of_mem _ hd))]
    rfl
  have h1 : binPut a b.1 b.2 = a ++ [b] := key a (fun c hc => (List.pairwise_append.1 h).2.2 c hc b List.mem_cons_self)
  show hiPuts (binPut a b.1 b.2) l = _
  rw [h1, hiPuts_self l (a ++ [b]) (by rw [List.append_assoc]; exact h), List.append_assoc]
  rfl
end Go.Proofs.YthbhmnakmhambaaGreatDoor
namespace Go.Proofs.YthbhmnakmhambaaGreatDoor
open Go Go.RowKit
def wkLow (s : Nat × Bd) : Nat × Bd := (s.1 + 1, s.2.low)
def wkDown : Nat → Nat × Bd → Nat × Bd
 | 0, s => s
 | n + 1, s => wkDown n (wkLow s)
def wkTo (s : Nat × Bd) (t : Nat) : Nat × Bd := wkDown (t - s.1) s
theorem ok_bot {k L : Nat} {b : Bd} (hb : b.Ok k L) : L ≤ botN k := by
 cases b with
 | num l => obtain ⟨h1, h2, -⟩ := hb; subst h1; subst h2; decide
 | reg b r => obtain ⟨h1, h2, h3, -⟩ := hb; subst h1; exact h3
 | cnt c l => obtain ⟨h1, h2, -⟩ := hb; subst h1; exact h2
 | bkt f l => obtain ⟨h1, h2, -⟩ := hb; subst h1; exact h2
theorem wkTo_self {s : Nat × Bd} {t : Nat} (h : t ≤ s.1) : wkTo s t = s := by
 unfold wkTo
 rw [show t - s.1 = 0 by omega]
 rfl
theorem wkTo_low {s : Nat × Bd} {t : Nat} (h : s.1 < t) : wkTo s t = wkTo (wkLow s) t := by
 unfold wkTo
 rw [show t - s.1 = (t - (s.1 + 1)) + 1 by omega]
 rfl
theorem wkTo_ok {k : Nat} (t : Nat) (ht : t ≤ botN k) : ∀ (m : Nat) (s : Nat × Bd), t - s.1 = m → s.2.Ok k s.1 → (wkTo s t).2.Ok k (wkTo s t).1 ∧ (wkTo s t).1 = max s.1 t := by
 intro m
 induction m with
 | zero => intro s hm hs; rw [wkTo_self (by omega)]; exact ⟨hs, by omega⟩
 | succ m ih =>
  intro s hm hs
  rw [wkTo_low (by omega)]
  have h := ih (wkLow s) (by show t - (s.1 + 1) = m; omega) (bd_low_ok hs (by omega))
  exact ⟨h.1, by rw [h.2]; show max (s.1 + 1) t = _; omega⟩
end Go.Proofs.YthbhmnakmhambaaGreatDoor
namespace Go.Proofs.YthbhmnakmhambaaGreatDoor
open Go Go.RowKit Go.Shelf Go.Maps
theorem binPut_last (a : List (Int × Int)) (b : Int × Int) (h : BinUp (a ++ [b])) : binPut a b.1 b.2 = a ++ [b] := hiPuts_self [b] a h
set_option maxRecDepth 100000 in
set_option maxHeartbeats 1000000 in
theorem hbegin9_any (f : Nat) (l : List (Int × Int)) (a : Option Addr) (len cap : Nat) (w : World) (hf : f ≤ 3) (hL : SlE encB 2 w.heap.size w a len l) (hr : hiRight f l = true) (hu : BinUp l) (hbu : BinsU l) (hlen : len ≤ 1000) (hp : ∀ b ∈ l, I64 b.1) (hm : len ≤ maxLen) :
  Calls Tryz.prog 250 #[.agg #[.int .i64 f, .slice a len cap]] w fun e w' => ∃ b, e = .returned (.tuple #[.agg #[.map (some b), .int .i64 f], .nilIface]) ∧ MapIs w' b l.length l ∧ w.heap.size ≤ b ∧ Below w.heap.size w w' := by
 have hR : Hid (∀ w1, Below w.heap.size w w1 → Calls Tryz.prog 140 #[.agg #[.int .i64 f, .slice a len cap]] w1 fun e w' => e = .returned (.bool true) ∧ Below w1.heap.size w1 w') := fun w1 hb => (hist_Right_any f l a len cap w1 ((hL.below hb).mono hb.size) hm (fun b hb => (hp b hb).2)).mono fun e w' h => ⟨by rw [h.1, hr], h.2⟩
 have hB := fun w => hblank_any f w hf
 obtain ⟨W0, hW0, hXp, hX0, hB0, hs0⟩ := boxes2 w #[.int .i64 f, .slice a len cap] 37 #[.map none, .int .i64 0] 344
 have HX0 := Lib.hid hX0
 have HXP := Lib.hid hXp
 obtain ⟨z0, z1⟩ := cl2 hXp
 clear hX0 hXp
 go_enter Tryz.func250, Tryz.ntmps250
 go_wp2_with fail
 refine (hR.out _ hB0).mono ?_
 rintro e w1 ⟨rfl, hb1⟩
 have hXp1 := known hb1 (Nat.le_refl _) HXP.out
 obtain ⟨y0, y1⟩ := cl2 hXp1
 go_wp2_with fail
 refine (hB _).mono ?_
 rintro e w2 ⟨b, rfl, hm2, hb2, hB2⟩
 obtain ⟨W3, hW3, hX3, hB3, hs3⟩ := boxes1 w2 #[.map (some b), .int .i64 f] 344
 have hbl := hm2.lt
 have hb1s := hb1.size
 have hB2s := hB2.size
 have hXp3 := known (hB2.trans (hB3.mono hB2s)) (Nat.le_refl _) hXp1
 have hXr3 := known (hB2.trans (hB3.mono hB2s)) (Nat.le_refl _) (known hb1 (Nat.le_refl _) HX0.out)
 have hM3 : MapIs W3 b 0 [] := hm2.kept (below_gb hB3 none) (by simp)
 have hB03 : Below w.heap.size w W3 := (hB0.trans (hb1.mono (by omega))).trans ((hB2.mono (by omega)).trans (hB3.mono (by omega)))
 have HX3 := Lib.hid hX3
 have HXR := Lib.hid hXr3
 obtain ⟨q0, q1⟩ := cl2 hXp3
 have HL := Lib.hid hL
 have HU : Hid (BinUp l ∧ BinsU l ∧ (∀ b ∈ l, I64 b.1) ∧ len ≤ 1000 ∧ len = l.length) := ⟨hu, hbu, hp, hlen, hL.1⟩
 have HB03 := Lib.hid hB03
 clear hXp1 hXp3 hXr3 hX3 hB3 hB2 hb1 hm2 hL hu hbu hp hr hm hB03
 have hlen9 := hlen
 go_wp2_with fail
 go_loopw [7, 23] (fun _ i wr => ∃ k : Nat, k ≤ len ∧ i = .int .i64 k ∧ MapIs wr b k (l.take k) ∧ W3.grownBy wr (some b)) (fun _ i _ => len - (intOf i).toNat)
 case atStart => exact ⟨0, Nat.zero_le _, rfl, hM3, World.grownBy.refl _ _⟩
 case round =>
  obtain ⟨k, hk, rfl, hM, hG⟩ := hrel
  have hXw := (hG.block _ (Array.getElem?_eq_some_iff.1 HX3.out).1 (fun e => by cases e; omega)).trans HX3.out
  have hXr := (hG.block _ (Array.getElem?_eq_some_iff.1 HXR.out).1 (fun e => by cases e; omega)).trans HXR.out
  have hBw : Below w.heap.size w wr := HB03.out.grown hG HB03.out.size (fun j e => by cases e; omega)
  by_cases hlt : k < len
  ·obtain ⟨x, b1, o1, hx, ea, hb1, p0, p1⟩ := bin_cells (HL.out.below hBw) hlt
   subst ea
   have HX := Lib.hid hx
   have hxi : I64 x.1 := HU.out.2.2.1 x (List.mem_of_getElem? hx)
   have hxu : U64 x.2 := HU.out.2.1 x (List.mem_of_getElem? hx)
   obtain ⟨x1, x2⟩ := x
   dsimp only at p0 p1 hxi hxu
   obtain ⟨W4, hW4, hX4, hB4, hs4⟩ := boxes1 wr #[.int .i64 x1, .int .u64 x2] 137
   have hM4 : MapIs W4 b k (l.take k) := hM.kept (below_gb hB4 none) (by simp)
   have hXw4 := known hB4 (Nat.le_refl _) hXw
   have hP := put_any b k f x1 x2 (l.take k) W4 hM4 hxi hxu (by omega) (HU.out.1.sublist (List.take_sublist _ _)) (fun c hc => HU.out.2.1 c (List.mem_of_mem_take hc))
   obtain ⟨u0, u1⟩ := cl2 hX4
   obtain ⟨v0, v1⟩ := cl2 hXw4
   have HG := Lib.hid (hG.trans (below_gb hB4 (some b)))
   clear hx hXw hXr hX4 hXw4 hM4 hM hB4 hG
   go_wp2_with fail
   refine hP.mono ?_
   rintro e w6 ⟨rfl, hM6, hG6⟩
   go_wp2_with fail
   go_roundw
   case rel => exact ⟨k + 1, by omega, by simp, by rw [take_snoc' HX.out, ← binPut_last _ _ (by rw [← take_snoc' HX.out]; exact HU.out.1.sublist (List.take_sublist _ _))]; exact hM6, HG.out.trans hG6⟩
   case measure => simp [intOf]; omega
  ·obtain rfl : k = len := by omega
   have hMl : MapIs wr b l.length l := by have := hM; rwa [List.take_of_length_le (by rw [HU.out.2.2.2.2]; exact Nat.le_refl _), HU.out.2.2.2.2] at this
   obtain ⟨u0, u1⟩ := cl2 hXw
   obtain ⟨o0, o1⟩ := cl2 hXr
   obtain ⟨g0, g1⟩ := cz2 hXr
   have hX6 := set_cells2 (u := .map (some b)) (v := .int .i64 f) hXr
   have hB6 := (hBw.setCell (p := ⟨w.heap.size + 1, 0, none⟩) (Nat.le_succ _) (.map (some b))).setCell (p := ⟨w.heap.size + 1, 1, none⟩) (Nat.le_succ _) (.int .i64 f)
   have hM7 := (hMl.kept (gb_set wr (w.heap.size + 1) 0 (.map (some b))) (by simp; omega)).kept (gb_set _ (w.heap.size + 1) 1 (.int .i64 f)) (by simp; omega)
   clear hXw hXr hM hMl hG hBw
   go_wp2_with fail
   generalize (wr.setCell ⟨w.heap.size + 1, 0, none⟩ (.map (some b))).setCell ⟨w.heap.size + 1, 1, none⟩ (.int .i64 f) = V at hX6 hB6 hM7 ⊢
   obtain ⟨j0, j1⟩ := cl2 hX6
   exact bodyPost_ret (v := .tuple #[.agg #[.map (some b), .int .i64 f], .nilIface]) (by simp [results, Tryz.f250, go_sem, j0, j1]) rfl ⟨b, rfl, hM7, by omega, hB6⟩
end Go.Proofs.YthbhmnakmhambaaGreatDoor
namespace Go.Proofs.YthbhmnakmhambaaGreatDoor
open Go Go.RowKit Go.Shelf
theorem flat_map (l : List Int) : l.flatMap encU = l.map (Value.int .u64) := by
 induction l with
 | nil => rfl
 | cons x l ih => rw [List.flatMap_cons, ih]; rfl
set_option maxRecDepth 100000 in
set_option maxHeartbeats 1000000 in
theorem cbegin_any (c : Nat) (l : List Int) (a : Option Addr) (len cap : Nat) (w : World) (hs : isShapeB 2 c = true) (h2 : c ≤ 32) (hL : SlE encU 1 w.heap.size w a len l) (hl : l.length = 2 * c) (hn : a = none → len = 0) :
  Calls Tryz.prog 235 #[.agg #[.int .i64 2, .int .i64 c, .slice a len cap]] w fun e w' => ∃ g, e = .returned (.tuple #[.agg #[.int .i64 2, .int .i64 c, .slice (some ⟨g, 0, none⟩) (2 * c) (2 * c)], .nilIface]) ∧ NumsAt w' g l ∧ w.heap.size ≤ g ∧ Below w.heap.size w w' := by
 have hR : Hid (∀ w1, Calls Tryz.prog 139 #[.agg #[.int .i64 2, .int .i64 c, .slice a len cap]] w1 fun e w' => e = .returned (.bool true) ∧ Below w1.heap.size w1 w') := fun w1 => (cms_Right_any 2 c l a len cap w1 hL.1).mono fun e w' h => ⟨by rw [h.1]; simp [cmRight, hs, hl], h.2⟩
 have hB := fun w => cblank_any c w hs h2
 obtain ⟨W0, hW0, hXp, hX0, hB0, hs0⟩ := boxes2 w #[.int .i64 2, .int .i64 c, .slice a len cap] 34 #[.int .i64 0, .int .i64 0, .slice none 0 0] 173
 have HX0 := Lib.hid hX0
 have HXP := Lib.hid hXp
 obtain ⟨z0, z1, z2⟩ := cl3 hXp
 have HL := Lib.hid hL
 have HLN := Lib.hid hl
 have HNN := Lib.hid hn
 clear hX0 hXp hL hl hs hn
 go_enter Tryz.func235, Tryz.ntmps235
 go_wp2_with fail
 refine (hR.out _).mono ?_
 rintro e w1 ⟨rfl, hb1⟩
 have hXp1 := known hb1 (Nat.le_refl _) HXP.out
 obtain ⟨y0, y1, y2⟩ := cl3 hXp1
 go_wp2_with fail
 refine (hB _).mono ?_
 rintro e w2 ⟨g, rfl, hr2, hg2, hb2⟩
 obtain ⟨W2, hW2, hX2, hB2, hs2⟩ := boxes1 w2 #[.int .i64 2, .int .i64 c, .slice (some ⟨g, 0, none⟩) (2 * c) (2 * c)] 173
 have hgl := hr2.lt
 have hB02 : Below w.heap.size w w2 := (hB0.trans (hb1.mono hB0.size)).trans (hb2.mono (by have := hb1.size; omega))
 have hB12 : Below w.heap.size w W2 := hB02.trans (hB2.mono hB02.size)
 have hXp2 := known (hb2.trans (hB2.mono hb2.size)) (Nat.le_refl _) hXp1
 have hXr2 := known (hb2.trans (hB2.mono hb2.size)) (Nat.le_refl _) (known hb1 (Nat.le_refl _) HX0.out)
 have hr3 : NumsAt W2 g (List.replicate (2 * c) 0) := hr2.block (hB2.block _ hgl)
 have hlen : len = 2 * c := by rw [HL.out.1, HLN.out]
 subst hlen
 obtain ⟨W3, hcp, hX3, hB3, hs3, hk3⟩ := copy_u64 (cap := cap) hr3 (by simp) (HL.out.below hB12) HNN.out
 rw [flat_map] at hX3
 have hXw := (hk3 w2.heap.size (by omega)).trans hX2
 have hXr3 := (hk3 (w.heap.size + 1) (by have := hb1.size; omega)).trans hXr2
 obtain ⟨q0, q1, q2⟩ := cl3 hXp2
 obtain ⟨s0, s1, s2⟩ := cl3 hX2
 obtain ⟨t0, t1, t2⟩ := cl3 hXw
 obtain ⟨o0, o1, o2⟩ := cl3 hXr3
 obtain ⟨f0, f1, f2⟩ := cz3 hXr3
 have hB13 : Below w.heap.size w W3 := hB12.trans (hB3.mono (by have := hb1.size; omega))
 have hX6 := set_cells3 (u := .int .i64 2) (v := .int .i64 c) (q := .slice (some ⟨g, 0, none⟩) (2 * c) (2 * c)) hXr3
 have hgw : w.heap.size + 1 ≠ g := by have := hb1.size; omega
 have hN3 : NumsAt (((W3.setCell ⟨w.heap.size + 1, 0, none⟩ (.int .i64 2)).setCell ⟨w.heap.size + 1, 1, none⟩ (.int .i64 c)).setCell ⟨w.heap.size + 1, 2, none⟩ (.slice (some ⟨g, 0, none⟩) (2 * c) (2 * c))) g l :=
  ((NumsAt.block (W := W3) hX3 (heap_set_other (p := ⟨w.heap.size + 1, 0, none⟩) hgw _)).block (heap_set_other (p := ⟨w.heap.size + 1, 1, none⟩) hgw _)).block (heap_set_other (p := ⟨w.heap.size + 1, 2, none⟩) hgw _)
 have hB6 := ((hB13.setCell (p := ⟨w.heap.size + 1, 0, none⟩) (Nat.le_succ _) (.int .i64 2)).setCell (p := ⟨w.heap.size + 1, 1, none⟩) (Nat.le_succ _) (.int .i64 c)).setCell (p := ⟨w.heap.size + 1, 2, none⟩) (Nat.le_succ _) (.slice (some ⟨g, 0, none⟩) (2 * c) (2 * c))
 have hg9 : w.heap.size ≤ g := by have := hb1.size; omega
 clear hX2 hX3 hXp2 hXr2 hr2 hr3 hB2 hb1 hb2 hB3 hB12 hB02 hB13 hk3 hXw hXr3
 go_wp2_with fail
 generalize ((W3.setCell ⟨w.heap.size + 1, 0, none⟩ (.int .i64 2)).setCell ⟨w.heap.size + 1, 1, none⟩ (.int .i64 c)).setCell ⟨w.heap.size + 1, 2, none⟩ (.slice (some ⟨g, 0, none⟩) (2 * c) (2 * c)) = V at hX6 hN3 hB6 ⊢
 obtain ⟨k0, k1, k2⟩ := cl3 hX6
 exact bodyPost_ret (v := .tuple #[.agg #[.int .i64 2, .int .i64 c, .slice (some ⟨g, 0, none⟩) (2 * c) (2 * c)], .nilIface]) (by simp [results, Tryz.f235, go_sem, k0, k1, k2]) rfl ⟨g, rfl, hN3, hg9, hB6⟩
end Go.Proofs.YthbhmnakmhambaaGreatDoor
namespace Go.Proofs.YthbhmnakmhambaaGreatDoor
open Go Go.RowKit Go.Shelf
theorem asFault (w : World) : (Instr.typeAssert (.iface 322 (.agg #[.string tooMany])) 110 322 true).run Tryz.prog w = .ok (.tuple #[.agg #[.string tooMany], .bool true]) w := by kernel_rfl
theorem asNilFault (w : World) : (Instr.typeAssert .nilIface 110 322 true).run Tryz.prog w = .ok (.tuple #[.agg #[.string ⟨#[]⟩], .bool false]) w := by kernel_rfl
theorem exErrno_fault (w : World) : Calls Tryz.prog 201 #[.iface 322 (.agg #[.string tooMany])] w fun e w' => e = .returned (.int .i64 60) ∧ Below w.heap.size w w' := by
 have h := asFault w
 go_enter Tryz.func201, Tryz.ntmps201
 go_wp2
 go_ret
 exact ⟨rfl, (Below.refl _ w).alloc (Nat.le_refl _) _⟩
theorem exErrno_nil (w : World) : Calls Tryz.prog 201 #[.nilIface] w fun e w' => e = .returned (.int .i64 0) ∧ Below w.heap.size w w' := by
 have h := asNilFault w
 go_enter Tryz.func201, Tryz.ntmps201
 go_wp2
 go_ret
 exact ⟨rfl, (Below.refl _ w).alloc (Nat.le_refl _) _⟩
def ExPost (o : Option (List Int)) (w : World) (e : Ending) (w' : World) : Prop := Below w.heap.size w w' ∧ match o with
 | some m => ∃ a cap, e = .returned (.tuple #[.agg #[.slice a m.length cap], .int .i64 0]) ∧ SlC encU 1 w'.heap.size w' a m.length cap m ∧ (∀ x, a = some x → w.heap.size ≤ x.block)
 | none => e = .returned (.tuple #[.agg #[.slice none 0 0], .int .i64 60])
end Go.Proofs.YthbhmnakmhambaaGreatDoor
namespace Go.Proofs.YthbhmnakmhambaaGreatDoor
open Go Go.RowKit Go.Shelf
theorem told_no (v : Value) (w : World) : Calls Tryz.prog 194 #[v, .int .i64 60] w fun e w' => e = .returned (.tuple #[.nilIface, .iface 155 (.pointer (some ⟨w.heap.size, 0, none⟩))]) ∧ w' = w.alloc (.cells #[.int .i64 60] 157) := by
 go_enter Tryz.func194, Tryz.ntmps194
 go_wp2
 exact bodyPost_ret (v := .tuple #[.nilIface, .iface 155 (.pointer (some ⟨w.heap.size, 0, none⟩))]) (by simp [results, Tryz.f194, go_sem]) rfl ⟨rfl, rfl⟩
-- METHODS
end Go.Proofs.YthbhmnakmhambaaGreatDoor
namespace Go.Proofs.YthbhmnakmhambaaGreatDoor
open Go Go.RowKit Go.Extern.Stop Go.Stop Go.Extern
theorem as_nil (t : Value) (w : World) :
  Calls Tryz.prog 121 #[.nilIface, t] w fun e w' => e = .returned (.bool false) ∧ w' = w := by
 go_enter Tryz.func121, Tryz.ntmps121
 go_wp2
 go_ret
 exact ⟨rfl, rfl⟩
theorem as_valueOf27 (t : Addr) (w : World) : (ReflectliteValue.unpack (.iface 214 (.pointer (some t)))).run Tryz.prog w
  = .ok (.agg #[.pointer (some ⟨4, 214, none⟩), .pointer (some ⟨w.heap.size, 0, none⟩), .int .u64 150]) (w.alloc (.cells #[.pointer (some t)] 214)) := by kernel_rfl
theorem as_type27 (a : Addr) (w : World) : (ReflectliteValue.methodAny (ReflectliteValue.valueError "reflectlite.Value.Type" 0) (fun t _ _ _ => ReflectliteType.toType t) #[.agg #[.pointer (some ⟨4, 214, none⟩), .pointer (some a), .int .u64 150]]).run Tryz.prog w
  = .ok (.iface 260 (.agg #[.pointer (some ⟨4, 214, none⟩)])) w := by kernel_rfl
theorem as_methodKind (h : Value) (w : World) : (Go.method 491 260 (.agg #[h]) "Kind").run Tryz.prog w = .ok (182, h) w := by kernel_rfl
theorem as_kind27 (w : World) : ((ReflectliteType.abiMethod fun t => (fun a : Nat => Value.int IntKind.u8 (a : Int)) <$> Rtype.kind t) #[.pointer (some ⟨4, 214, none⟩)]).run Tryz.prog w = .ok (.int .u8 22) w := by kernel_rfl
theorem as_kind25 (w : World) : ((ReflectliteType.abiMethod fun t => (fun a : Nat => Value.int IntKind.u8 (a : Int)) <$> Rtype.kind t) #[.pointer (some ⟨4, 155, none⟩)]).run Tryz.prog w = .ok (.int .u8 22) w := by kernel_rfl
theorem rlm (z : Sem Value) (f : TypeId → Addr → Nat → Nat → Sem Value) (v : Value) :
  ReflectliteValue.method z f #[v] = (do match ← ReflectliteValue.parts v with | none => z | some (t, a, fl) => f t a fl (fl % 32)) := rfl
theorem as_parts27 (a : Addr) (w : World) : (ReflectliteValue.parts (.agg #[.pointer (some ⟨4, 214, none⟩), .pointer (some a), .int .u64 150])).run Tryz.prog w = .ok (some (214, a, 150)) w := by kernel_rfl
theorem as_isNil27 (a p : Addr) (W : World) (ha : W.cell? a = some (.pointer (some p))) :
  (ReflectliteValue.method (ReflectliteValue.valueError "reflectlite.Value.IsNil" 0) ReflectliteValue.isNil #[.agg #[.pointer (some ⟨4, 214, none⟩), .pointer (some a), .int .u64 150]]).run Tryz.prog W = .ok (.bool false) W := by
 rw [rlm]
 simp only [Sem.run_bind, as_parts27, Result.andThen]
 simp [ReflectliteValue.isNil, loadVar, isAgg, underlying, Tryz.underlying214, ha, Result.andThen]
theorem as_methodElem (h : Value) (w : World) : (Go.method 491 260 (.agg #[h]) "Elem").run Tryz.prog w = .ok (287, .agg #[h]) w := by kernel_rfl
theorem as_methodImplements (h : Value) (w : World) : (Go.method 491 260 (.agg #[h]) "Implements").run Tryz.prog w = .ok (288, .agg #[h]) w := by kernel_rfl
theorem as_methodAssignableTo (h : Value) (w : World) : (Go.method 491 260 (.agg #[h]) "AssignableTo").run Tryz.prog w = .ok (285, .agg #[h]) w := by kernel_rfl
theorem as_elem27 (w : World) : (ReflectliteType.method ReflectliteType.elem #[.agg #[.pointer (some ⟨4, 214, none⟩)]]).run Tryz.prog w = .ok (.iface 260 (.agg #[.pointer (some ⟨4, 155, none⟩)])) w := by kernel_rfl
theorem as_implements25 (w : World) : (ReflectliteType.relation "Implements" ReflectliteType.implements_ #[.agg #[.pointer (some ⟨4, 155, none⟩)], .iface 260 (.agg #[.pointer (some ⟨4, 110, none⟩)])]).run Tryz.prog w = .ok (.bool true) w := by kernel_rfl
theorem as_typeOf25 (v : Value) (w : World) : (ReflectliteType.typeOf #[.iface 155 v]).run Tryz.prog w = .ok (.iface 260 (.agg #[.pointer (some ⟨4, 155, none⟩)])) w := by kernel_rfl
theorem as_assignable25 (w : World) : (ReflectliteType.relation "AssignableTo" ReflectliteType.assignableTo #[.agg #[.pointer (some ⟨4, 155, none⟩)], .iface 260 (.agg #[.pointer (some ⟨4, 155, none⟩)])]).run Tryz.prog w = .ok (.bool true) w := by kernel_rfl
theorem as_valueOf25 (e : Addr) (w : World) : (ReflectliteValue.unpack (.iface 155 (.pointer (some e)))).run Tryz.prog w
  = .ok (.agg #[.pointer (some ⟨4, 155, none⟩), .pointer (some ⟨w.heap.size, 0, none⟩), .int .u64 150]) (w.alloc (.cells #[.pointer (some e)] 155)) := by kernel_rfl
theorem as_elemOf27 (w : World) : (Rtype.elem? 214).run Tryz.prog w = .ok (some 155) w := by kernel_rfl
theorem as_mk25 (p : Addr) (w : World) : (ReflectliteValue.mk 155 p ReflectliteValue.flagAddr).run Tryz.prog w = .ok (.agg #[.pointer (some ⟨4, 155, none⟩), .pointer (some p), .int .u64 406]) w := by kernel_rfl
theorem as_elemV27 (a p : Addr) (W : World) (ha : W.cell? a = some (.pointer (some p))) :
  (ReflectliteValue.method (ReflectliteValue.valueError "reflectlite.Value.Elem" 0) ReflectliteValue.elem #[.agg #[.pointer (some ⟨4, 214, none⟩), .pointer (some a), .int .u64 150]]).run Tryz.prog W
   = .ok (.agg #[.pointer (some ⟨4, 155, none⟩), .pointer (some p), .int .u64 406]) W := by
 rw [rlm]
 simp only [Sem.run_bind, as_parts27, Result.andThen]
 simp [ReflectliteValue.elem, loadVar, isAgg, underlying, Tryz.underlying214, ha, Result.andThen, as_elemOf27, as_mk25]
theorem rls (v x : Value) : ReflectliteValue.set #[v, x] = (do
  let (some (dst, a, fl), some (src, b, _)) := (← ReflectliteValue.parts v, ← ReflectliteValue.parts x)
   | unsupported (.noEntry "extern/(internal/reflectlite.Value).Set.zeroValue")
  if fl / ReflectliteValue.flagAddr % 2 == 0 then unsupported (.noEntry "extern/(internal/reflectlite.Value).Set.unaddressable")
  let val ← loadVar src b
  if ← Rtype.directlyAssignable dst src then storeVar dst a val
  else if ← Rtype.implements dst src then
   if (← Rtype.kind src) == 20 then
    match val with
    | .nilIface => unsupported (.noEntry "extern/reflectlite: a nil value of one interface type handed on as a value of another")
    | _ => storeVar dst a val
   else storeVar dst a (.iface src val)
  else panicString ("reflectlite.Set: value of type " ++ (← Rtype.spelt src) ++ " is not assignable to type " ++ (← Rtype.spelt dst))
  pure (.tuple #[])) := rfl
theorem as_parts25a (a : Addr) (w : World) : (ReflectliteValue.parts (.agg #[.pointer (some ⟨4, 155, none⟩), .pointer (some a), .int .u64 406])).run Tryz.prog w = .ok (some (155, a, 406)) w := by kernel_rfl
theorem as_parts25 (a : Addr) (w : World) : (ReflectliteValue.parts (.agg #[.pointer (some ⟨4, 155, none⟩), .pointer (some a), .int .u64 150])).run Tryz.prog w = .ok (some (155, a, 150)) w := by kernel_rfl
theorem as_direct25 (w : World) : (Rtype.directlyAssignable 155 155).run Tryz.prog w = .ok true w := by kernel_rfl
theorem as_set25 (ta b e : Addr) (old : Value) (W : World) (hb : W.cell? b = some (.pointer (some e))) (ht : W.cell? ta = some old) (hf : W.frozen? ta = false) :
  (ReflectliteValue.set #[.agg #[.pointer (some ⟨4, 155, none⟩), .pointer (some ta), .int .u64 406], .agg #[.pointer (some ⟨4, 155, none⟩), .pointer (some b), .int .u64 150]]).run Tryz.prog W
   = .ok (.tuple #[]) (W.setCell ta (.pointer (some e))) := by
 rw [rls]
 simp only [Sem.run_bind, as_parts25a, as_parts25, Result.andThen]
 simp [ReflectliteValue.flagAddr, loadVar, isAgg, underlying, Tryz.underlying155, hb, Result.andThen, as_direct25, storeVar, Value.cells, storeCells, Addr.add]
 rw [run_store Tryz.prog W ta _ _ (by rfl)]
 simp [ht, hf]
set_option maxHeartbeats 4000000 in
theorem as_hit (e t : Addr) (old : Value) (w : World) (hg : w.cell? ⟨0, 0, none⟩ = some (.iface 260 (.agg #[.pointer (some ⟨4, 110, none⟩)]))) (ht0 : w.cell? t = some old) (hf0 : w.frozen? t = false) :
  Calls Tryz.prog 121 #[.iface 155 (.pointer (some e)), .iface 214 (.pointer (some t))] w fun ev w' => ev = .returned (.bool true) ∧ w' = ((((w.alloc (.cells #[.pointer (some t)] 214)).alloc (.cells #[.pointer (some ⟨4, 214, none⟩), .pointer (some ⟨w.heap.size, 0, none⟩), .int .u64 150] 239)).alloc (.cells #[.pointer (some ⟨4, 214, none⟩), .pointer (some ⟨w.heap.size, 0, none⟩), .int .u64 150] 239)).alloc (.cells #[.pointer (some e)] 155)).setCell t (.pointer (some e)) := by
 have h6 := @run_callFunc_extern Tryz.prog 141 _ (fun args => ReflectliteValue.unpack (args.getD 0 (.tuple #[]))) Tryz.func141 (by kernel_rfl) (by kernel_rfl) (by kernel_rfl) (by kernel_rfl)
 have h7 := @run_callFunc_extern Tryz.prog 142 _ (ReflectliteValue.methodAny (ReflectliteValue.valueError "reflectlite.Value.Type" 0) (fun t _ _ _ => ReflectliteType.toType t)) Tryz.func142 (by kernel_rfl) (by kernel_rfl) (by kernel_rfl) (by kernel_rfl)
 have h8 := @run_callFunc_extern Tryz.prog 143 _ (ReflectliteValue.method (ReflectliteValue.valueError "reflectlite.Value.IsNil" 0) ReflectliteValue.isNil) Tryz.func143 (by kernel_rfl) (by kernel_rfl) (by kernel_rfl) (by kernel_rfl)
 have h27 := @run_callFunc_extern Tryz.prog 182 _ (ReflectliteType.abiMethod fun t => do pure (.int .u8 (← Rtype.kind t))) Tryz.func182 (by kernel_rfl) (by kernel_rfl) (by kernel_rfl) (by kernel_rfl)
 have h37 := @run_callFunc_extern Tryz.prog 287 _ (ReflectliteType.method ReflectliteType.elem) Tryz.func287 (by kernel_rfl) (by kernel_rfl) (by kernel_rfl) (by kernel_rfl)
 have h38 := @run_callFunc_extern Tryz.prog 288 _ (ReflectliteType.relation "Implements" ReflectliteType.implements_) Tryz.func288 (by kernel_rfl) (by kernel_rfl) (by kernel_rfl) (by kernel_rfl)
 have h10 := @run_callFunc_extern Tryz.prog 157 _ ReflectliteType.typeOf Tryz.func157 (by kernel_rfl) (by kernel_rfl) (by kernel_rfl) (by kernel_rfl)
 have h35 := @run_callFunc_extern Tryz.prog 285 _ (ReflectliteType.relation "AssignableTo" ReflectliteType.assignableTo) Tryz.func285 (by kernel_rfl) (by kernel_rfl) (by kernel_rfl) (by kernel_rfl)
 have h11 := @run_callFunc_extern Tryz.prog 158 _ (ReflectliteValue.method (ReflectliteValue.valueError "reflectlite.Value.Elem" 0) ReflectliteValue.elem) Tryz.func158 (by kernel_rfl) (by kernel_rfl) (by kernel_rfl) (by kernel_rfl)
 have h12 := @run_callFunc_extern Tryz.prog 159 _ ReflectliteValue.set Tryz.func159 (by kernel_rfl) (by kernel_rfl) (by kernel_rfl) (by kernel_rfl)
 have tO := as_typeOf25
 have mA := as_methodAssignableTo
 have a25 := as_assignable25
 have v25 := as_valueOf25
 have f6 := as_valueOf27
 have f7 := as_type27
 have mK := as_methodKind
 have mE := as_methodElem
 have mI := as_methodImplements
 have k27 := as_kind27
 have k25 := as_kind25
 have e27 := as_elem27
 have i25 := as_implements25
 have n8 := as_isNil27 ⟨w.heap.size, 0, none⟩ t ((w.alloc (.cells #[.pointer (some t)] 214)).alloc (.cells #[.pointer (some ⟨4, 214, none⟩), .pointer (some ⟨w.heap.size, 0, none⟩), .int .u64 150] 239)) (by simp)
 have hlt : 0 < w.heap.size := World.block_lt_of_cell? w _ hg
 have hg2 : ((w.alloc (.cells #[.pointer (some t)] 214)).alloc (.cells #[.pointer (some ⟨4, 214, none⟩), .pointer (some ⟨w.heap.size, 0, none⟩), .int .u64 150] 239)).cell? ⟨0, 0, none⟩ = some (.iface 260 (.agg #[.pointer (some ⟨4, 110, none⟩)])) := by
  rw [World.cell?_alloc_lt _ _ ⟨0, 0, none⟩ (by simp <;> omega), World.cell?_alloc_lt _ _ ⟨0, 0, none⟩ hlt]; exact hg
 have htl : t.block < w.heap.size := by
  rcases Nat.lt_or_ge t.block w.heap.size with h | h
  ·exact h
  ·simp [World.cell?, Array.getElem?_eq_none h] at ht0
 have el := as_elemV27 ⟨w.heap.size, 0, none⟩ t (((w.alloc (.cells #[.pointer (some t)] 214)).alloc (.cells #[.pointer (some ⟨4, 214, none⟩), .pointer (some ⟨w.heap.size, 0, none⟩), .int .u64 150] 239)).alloc (.cells #[.pointer (some ⟨4, 214, none⟩), .pointer (some ⟨w.heap.size, 0, none⟩), .int .u64 150] 239)) (by rw [World.cell?_alloc_lt _ _ ⟨w.heap.size, 0, none⟩ (by simp; omega)]; simp)
 have st := as_set25 t ⟨w.heap.size + 1 + 1 + 1, 0, none⟩ e old ((((w.alloc (.cells #[.pointer (some t)] 214)).alloc (.cells #[.pointer (some ⟨4, 214, none⟩), .pointer (some ⟨w.heap.size, 0, none⟩), .int .u64 150] 239)).alloc (.cells #[.pointer (some ⟨4, 214, none⟩), .pointer (some ⟨w.heap.size, 0, none⟩), .int .u64 150] 239)).alloc (.cells #[.pointer (some e)] 155))
  (by rw [World.cell?_alloc_at _ _ _ _ (by simp)]; rfl)
  (by rw [World.cell?_alloc_lt _ _ t (by simp; omega), World.cell?_alloc_lt _ _ t (by simp; omega), World.cell?_alloc_lt _ _ t (by simp; omega), World.cell?_alloc_lt _ _ t htl]; exact ht0)
  (by rw [World.frozen?_alloc_old _ _ t (by simp; omega), World.frozen?_alloc_old _ _ t (by simp; omega), World.frozen?_alloc_old _ _ t (by simp; omega), World.frozen?_alloc_old _ _ t (Nat.ne_of_lt htl)]; exact hf0)
 go_enter Tryz.func121, Tryz.ntmps121
 go_wp2
 refine wp_loop_rounds 1 ?_
 rw [rounds_succ]
 go_wp2
 go_ret
 exact ⟨rfl, rfl⟩
theorem errno_nil (w : World) : Calls Tryz.prog 93 #[.nilIface] w fun e w' => e = .returned (.int .i64 0) ∧ Below w.heap.size w w' := by
 have hA := fun t => as_nil t (w.alloc (.cells #[.pointer none] 155))
 go_enter Tryz.func93, Tryz.ntmps93
 go_wp2_with fail
 refine (hA _).mono ?_
 rintro e w1 ⟨rfl, rfl⟩
 go_wp2_with fail
 go_ret
 exact ⟨rfl, (Below.refl _ w).alloc (Nat.le_refl _) _⟩
theorem errno_fault (v : Value) (no : Int) (w : World) (hg : GT w) (hf : FaultAt w v no) : Calls Tryz.prog 93 #[v] w fun e w' => e = .returned (.int .i64 no) ∧ Below w.heap.size w w' := by
 obtain ⟨b, rfl, hb⟩ := hf
 obtain ⟨W1, hW1, hX1, hB1, hs1⟩ := boxes1 w #[.pointer none] 155
 have hA := as_hit ⟨b, 0, none⟩ ⟨w.heap.size, 0, none⟩ (.pointer none) W1 (hg.go hB1) (cCc hX1 0) (cFz hX1 0)
 obtain ⟨W2, hW2⟩ : ∃ W2, (((W1.alloc (.cells #[.pointer (some ⟨w.heap.size, 0, none⟩)] 214)).alloc (.cells #[.pointer (some ⟨4, 214, none⟩), .pointer (some ⟨W1.heap.size, 0, none⟩), .int .u64 150] 239)).alloc (.cells #[.pointer (some ⟨4, 214, none⟩), .pointer (some ⟨W1.heap.size, 0, none⟩), .int .u64 150] 239)).alloc (.cells #[.pointer (some ⟨b, 0, none⟩)] 155) = W2 := ⟨_, rfl⟩
 have hB2 : Below W1.heap.size W1 W2 := by
  rw [← hW2]
  exact ((((Below.refl _ W1).alloc (Nat.le_refl _) _).alloc (by simp <;> omega) _).alloc (by simp <;> omega) _).alloc (by simp <;> omega) _
 rw [hW2] at hA
 have hX2 := known hB2 (Nat.le_refl _) hX1
 have hbw := (Array.getElem?_eq_some_iff.1 hb).1
 have hb2 := known (hB1.trans (hB2.mono hB1.size)) (Nat.le_refl _) hb
 have hX3 : (W2.setCell ⟨w.heap.size, 0, none⟩ (.pointer (some ⟨b, 0, none⟩))).heap[w.heap.size]? = some (.cells #[.pointer (some ⟨b, 0, none⟩)] 155 (0, 0)) := hSk hX2 _
 have hb3 := (heap_set_other (W := W2) (p := ⟨w.heap.size, 0, none⟩) (b := b) (by show w.heap.size ≠ b; omega) (.pointer (some ⟨b, 0, none⟩))).trans hb2
 have hB3 : Below w.heap.size w (W2.setCell ⟨w.heap.size, 0, none⟩ (.pointer (some ⟨b, 0, none⟩))) := (hB1.trans (hB2.mono hB1.size)).setCell (p := ⟨w.heap.size, 0, none⟩) (Nat.le_refl _) _
 obtain ⟨W3, hW3⟩ : ∃ W3, W2.setCell ⟨w.heap.size, 0, none⟩ (.pointer (some ⟨b, 0, none⟩)) = W3 := ⟨_, rfl⟩
 rw [hW3] at hA hX3 hb3 hB3
 have c0 : W3.cell? ⟨w.heap.size, 0, none⟩ = some (.pointer (some ⟨b, 0, none⟩)) := cCc hX3 0
 have d0 : W3.cell? ⟨b, 0, none⟩ = some (.int .i64 no) := cCc hb3 0
 have HB3 := Lib.hid hB3
 clear hg hb hX1 hB1 hW2 hB2 hX2 hb2 hX3 hb3 hB3 hW3
 go_enter Tryz.func93, Tryz.ntmps93
 go_wp2_with fail
 refine hA.mono ?_
 rintro e w1 ⟨rfl, rfl⟩
 go_wp2_with fail
 go_ret
 exact ⟨rfl, HB3.out⟩
theorem isFull_nil (w : World) : Calls Tryz.prog 95 #[.nilIface] w fun e w' => e = .returned (.bool false) ∧ Below w.heap.size w w' := by
 have hA := errno_nil w
 go_enter Tryz.func95, Tryz.ntmps95
 go_wp2_with fail
 refine hA.mono ?_
 rintro e w1 ⟨rfl, hb⟩
 go_wp2_with fail
 go_ret
 exact ⟨rfl, hb⟩
theorem isFull_fault (v : Value) (no : Int) (w : World) (hg : GT w) (hf : FaultAt w v no) : Calls Tryz.prog 95 #[v] w fun e w' => e = .returned (.bool (no == 60)) ∧ Below w.heap.size w w' := by
 have hA := errno_fault v no w hg hf
 go_enter Tryz.func95, Tryz.ntmps95
 go_wp2_with fail
 refine hA.mono ?_
 rintro e w1 ⟨rfl, hb⟩
 go_wp2_with fail
 go_ret
 exact ⟨rfl, hb⟩
end Go.Proofs.YthbhmnakmhambaaGreatDoor
namespace Go.Proofs.YthbhmnakmhambaaGreatDoor
open Go Go.ChangeShapes Go.WideShapes Go.ChangeAt Go.RowKit Go.Lib Go.Deep Go.Shelf
section
variable {H : Type} {enc : TypeId × Value → H} {w : World} {base : Nat} {held : Bool}
set_option maxRecDepth 100000 in
theorem open_str {t : TypeId} {r : Reach} {b0 : Nat} {v : Value} {d : DataW H} {p : List MemPlace} (ht : Tryz.prog.underlying t = some .string) (hv : Value.okWide Tryz.prog w r b0 t v) (_h : DataW.Trod enc Tryz.prog w base (fun _ => true) held t v d p) : ∃ s : ByteArray, v = .string s ∧ True := by
 obtain ⟨s, rfl⟩ := okWide_string ht hv
 exact ⟨s, rfl, trivial⟩
end
end Go.Proofs.YthbhmnakmhambaaGreatDoor
namespace Go.Proofs.YthbhmnakmhambaaGreatDoor
open Go Go.RowKit Go.Shelf
theorem sketch_sk {k L : Nat} {B : Bd} {v : Value} {w : World} (h : B.Ok k L) (hv : BdAt w v B) :
  Calls Tryz.prog 92 #[.agg #[v, .int .i64 k, .int .i64 L]] w fun e w' => ∃ x, e = .returned x ∧ SkB w' x k L B ∧ Below w.heap.size w w' := by
 cases B with
 | num l =>
  obtain ⟨a, len, cap, rfl, hS⟩ := hv
  refine (sketch_num k L l a len cap w hS.1 (by have := h.2.2.2.1; have := hS.1.1; omega)).mono ?_
  rintro e w' ⟨s, rfl, hs, -, -, -, hb⟩
  exact ⟨_, rfl, ⟨_, s, rfl, rfl, hs⟩, hb⟩
 | reg b r =>
  obtain rfl : v = _ := hv
  refine (sketch_reg k L b (hlStr r) w).mono ?_
  rintro e w' ⟨s, rfl, hs, -, -, -, hb⟩
  exact ⟨_, rfl, ⟨_, s, rfl, rfl, hs⟩, hb⟩
 | cnt c l =>
  obtain ⟨a, len, cap, rfl, hS⟩ := hv
  refine (sketch_cnt k L 2 c l a len cap w hS.1 (by have := cols_of h.2.2.1 h.2.1; have := h.2.2.2.1; have := hS.1.1; omega)).mono ?_
  rintro e w' ⟨s, rfl, hs, -, -, -, hb⟩
  exact ⟨_, rfl, ⟨_, s, rfl, rfl, hs⟩, hb⟩
 | bkt f l =>
  obtain ⟨a, len, cap, rfl, hS⟩ := hv
  refine (sketch_bkt k L f l a len cap w hS.1 (by have := bins_len f l (by have := h.2.2.1; omega) h.2.2.2.1 h.2.2.2.2.2.2; have := hS.1.1; omega)).mono ?_
  rintro e w' ⟨s, rfl, hs, -, -, -, hb⟩
  exact ⟨_, rfl, ⟨_, s, rfl, rfl, hs⟩, hb⟩
end Go.Proofs.YthbhmnakmhambaaGreatDoor
namespace Go.Proofs.YthbhmnakmhambaaGreatDoor
open Go Go.RowKit Go.Shelf
theorem noU_sk (x : Sk) (s : SS) {i : Nat} (u : Int) : (#[.int .i64 x.kind, .int .i64 x.level, .slice s.ea s.el s.ec, .int .i64 x.hb, .string x.hr, .int .i64 x.cr, .int .i64 x.cc, .slice s.ca s.cl s.cc, .int .i64 x.gf, .slice s.ga s.gl s.gc] : Array Value)[i]? ≠ some (.int .u64 u) := by
 intro h
 rcases i with _ | _ | _ | _ | _ | _ | _ | _ | _ | _ | i <;> simp at h
set_option maxRecDepth 100000 in
set_option maxHeartbeats 1000000 in
theorem told_nil (v : Value) (B : Bd) (kind level : Nat) (w : World) (hb : BdAt w v B) (hok : B.Ok kind level) :
  Calls Tryz.prog 59 #[.agg #[v, .int .i64 kind, .int .i64 level], .nilIface] w fun e w' => ∃ x, e = .returned (.tuple #[x, .int .i64 0]) ∧ SkB w' x kind level B ∧ Below w.heap.size w w' := by
 obtain ⟨T, rv, rfl⟩ := bd_iface hb
 obtain ⟨W0, hW0, hXp, hXr, hB0, hs0⟩ := boxes2 w #[.iface T rv, .int .i64 kind, .int .i64 level] 108 #[.int .i64 0, .int .i64 0, .slice none 0 0, .int .i64 0, .string ⟨#[]⟩, .int .i64 0, .int .i64 0, .slice none 0 0, .int .i64 0, .slice none 0 0] 39
 obtain ⟨c0, c1, c2⟩ := cl3 hXp
 have HS := Lib.hid (sketch_sk (w := W0) hok (hb.go hB0))
 have HXR := Lib.hid hXr
 have HB0 := Lib.hid hB0
 clear hXp hXr hB0 hb hok
 go_enter Tryz.func59, Tryz.ntmps59
 go_wp2_with fail
 refine HS.out.mono ?_
 rintro e w1 ⟨x, rfl, ⟨y, s, hy, rfl, hA⟩, hb1⟩
 have hR1 := known hb1 (Nat.le_refl _) HXR.out
 have HY := Lib.hid hy
 clear hy
 obtain ⟨r0, r1, r2, r3, r4, r5, r6, r7, r8, r9⟩ := cl10 hR1
 obtain ⟨g0, g1, g2, g3, g4, g5, g6, g7, g8, g9⟩ := cz10 hR1
 obtain ⟨V, hV, hVX, hVO, hVB⟩ := store10 (.int .i64 y.kind) (.int .i64 y.level) (.slice s.ea s.el s.ec) (.int .i64 y.hb) (.string y.hr) (.int .i64 y.cr) (.int .i64 y.cc) (.slice s.ca s.cl s.cc) (.int .i64 y.gf) (.slice s.ga s.gl s.gc) hR1
 have HR1 := Lib.hid hR1
 have HV := Lib.hid (And.intro hVO hVB)
 have HA := Lib.hid hA
 have Hb1 := Lib.hid hb1
 obtain ⟨k0, k1, k2, k3, k4, k5, k6, k7, k8, k9⟩ := cl10 hVX
 clear hR1 hVO hVB hA hb1 hVX
 go_wp2_with fail
 obtain ⟨hVO, hVB⟩ := HV.out
 have hS2 : SkB w1 (.agg #[.int .i64 y.kind, .int .i64 y.level, .slice s.ea s.el s.ec, .int .i64 y.hb, .string y.hr, .int .i64 y.cr, .int .i64 y.cc, .slice s.ca s.cl s.cc, .int .i64 y.gf, .slice s.ga s.gl s.gc]) kind level B := ⟨y, s, HY.out, rfl, HA.out⟩
 exact bodyPost_ret (v := .tuple #[.agg #[.int .i64 y.kind, .int .i64 y.level, .slice s.ea s.el s.ec, .int .i64 y.hb, .string y.hr, .int .i64 y.cr, .int .i64 y.cc, .slice s.ca s.cl s.cc, .int .i64 y.gf, .slice s.ga s.gl s.gc], .int .i64 0]) (by simp [results, Tryz.f59, go_sem, k0, k1, k2, k3, k4, k5, k6, k7, k8, k9]) rfl ⟨_, rfl, hS2.apart HR1.out (fun i u => noU_zero u) hVO, hVB _ _ (HB0.out.trans (Hb1.out.mono HB0.out.size)) (Nat.le_succ _)⟩
end Go.Proofs.YthbhmnakmhambaaGreatDoor
namespace Go.Proofs.YthbhmnakmhambaaGreatDoor
open Go Go.RowKit Go.Shelf
attribute [local go_sem] Oper.semAt_some
theorem wp_range_count1 {P : Program} {g : Operand} {ps : Array Tmp} {assign body : Code} {Q : Exit → Act → World → Prop} {a : Act} {w : World} {id : Nat} (L : List Nat) (s1 : Nat)
  {gf : Nat} {lb : Array Value} (hg : a.eval g = .func (.func gf) #[] lb) (eg : ∀ args w, (callFunc gf args).run P w = .ok (.enter gf args) w)
  {enc : Nat → Value} {M : Nat} (hseq : Counts P gf lb enc L M w) (hL : ∀ b ∈ L, b < w.heap.size) (hps : ps.size = 1)
  (I : Nat → World → Prop) (Ib : World → Prop) (hI : OwnFrom w.heap.size I) (hIb : OwnFrom w.heap.size (fun (_ : Unit) W => Ib W)) (hM : ∀ k W, I k W → k < M) (h0 : I 0 w)
  (hassign : ∀ (l k : Nat) (W : World) (K : Act → World → Prop), I k W → K { tmps := ((ps.zip #[enc k]).foldl (fun t (p, v) => t.setIfInBounds p v) a.tmps).setIfInBounds s1 (enc k), defers := [] } W →
   assign.wpIn (Fence.wide.inRound l) 7 P (Exit.then K (fun _ _ _ => False)) { tmps := (ps.zip #[enc k]).foldl (fun t (p, v) => t.setIfInBounds p v) a.tmps, defers := [] } W)
  (hbody : ∀ (l k : Nat) (W : World), I k W → body.wpIn (Fence.wide.inRound l) 7 P (ownPostG w.heap.size (KL L) (fun (_ : List Unit) => I (k + 1)) (fun c (_ : List Unit) W => c = .exit id ∧ Ib W) [] W) { tmps := ((ps.zip #[enc k]).foldl (fun t (p, v) => t.setIfInBounds p v) a.tmps).setIfInBounds s1 (enc k), defers := [] } W)
  (hfin : ∀ (D : Nat) (W : World), w.heap.size ≤ D → Ib W → W.heap[D]? = some (.deferred (some [])) → Q .normal { a with defers := { target := .collected D, args := #[] } :: a.defers } W) :
  (Code.rangeFunc g ps assign body).wp P (Exit.inBlock id Q) a w :=
 wp_range_count L (fun k => ((ps.zip #[enc k]).foldl (fun t (p, v) => t.setIfInBounds p v) a.tmps).setIfInBounds s1 (enc k)) hg eg hseq hL hps I Ib hI hIb hM h0 hassign hbody hfin
theorem ownSlC2 {α : Type} {enc : α → List Value} {k C : Nat} (henc : ∀ x, (enc x).length = k) {X Y : World} {row : Option Nat} {a : Option Addr} {len cap : Nat} {l : List α} (hs : SlC enc k X.heap.size X a len cap l) (hg : X.grownBy Y row) (hr : ∀ r, row = some r → C ≤ r ∧ ∃ o : Obj, X.heap[r]? = some o ∧ o.isCells = false) : SlC enc k Y.heap.size Y a len cap l := by
 have h1 : SlC enc k X.heap.size Y a len cap l := ⟨⟨hs.1.1, fun j x hx => by
  obtain ⟨b, off, e, hb, hc⟩ := hs.1.2 j x hx
  refine ⟨b, off, e, hb, fun i hi => ?_⟩
  have h2 := hc i hi
  have h3 : (enc x)[i]? = some ((enc x)[i]'(by rw [henc]; exact hi)) := List.getElem?_eq_getElem _
  rw [h3] at h2 ⊢
  exact cell_own h2 hg (fun r h => (hr r h).2)⟩, hs.2⟩
 exact h1.mono hg.size
theorem ownBd {C : Nat} {X Y : World} {row : Option Nat} {v : Value} {B : Bd} (h : BdAt X v B) (hg : X.grownBy Y row) (hr : ∀ r, row = some r → C ≤ r ∧ ∃ o : Obj, X.heap[r]? = some o ∧ o.isCells = false) : BdAt Y v B := by
 cases B with
 | num l => obtain ⟨a, len, cap, h1, h2⟩ := h; exact ⟨a, len, cap, h1, ownSlC2 (enc := encU) (fun _ => rfl) h2 hg hr⟩
 | reg b r => exact h
 | cnt c l => obtain ⟨a, len, cap, h1, h2⟩ := h; exact ⟨a, len, cap, h1, ownSlC2 (enc := encU) (fun _ => rfl) h2 hg hr⟩
 | bkt f l => obtain ⟨a, len, cap, h1, h2⟩ := h; exact ⟨a, len, cap, h1, ownSlC2 (enc := encB) (fun _ => rfl) h2 hg hr⟩
theorem down_succ : ∀ (k : Nat) (s : Nat × Bd), wkDown (k + 1) s = wkLow (wkDown k s)
 | 0, _ => rfl
 | k + 1, s => down_succ k (wkLow s)
theorem down_lev : ∀ (k : Nat) (s : Nat × Bd), (wkDown k s).1 = s.1 + k
 | 0, _ => rfl
 | k + 1, s => by rw [down_succ]; show (wkDown k s).1 + 1 = _; rw [down_lev k s]; omega
theorem down_ok {k L n : Nat} {B : Bd} (h : B.Ok k L) (hn : L + n ≤ botN k) : (wkDown n (L, B)).2.Ok k (L + n) := by
 have h1 := (wkTo_ok (L + n) hn _ (L, B) rfl h).1
 have e : wkTo (L, B) (L + n) = wkDown n (L, B) := by unfold wkTo; rw [show L + n - (L, B).1 = n by show L + n - L = n; omega]
 rw [e, down_lev] at h1
 exact h1
def Work (W : World) (b : Nat) (v : Value) (kind : Nat) (level : Int) : Prop := W.heap[b]? = some (.cells #[v, .int .i64 kind, .int .i64 level] 108 (0, 0))
def TI (B : Bd) (kind level t : Nat) (w : World) (k : Nat) (W : World) : Prop :=
 k ≤ t - level ∧ (∃ T rv, Work W w.heap.size (.iface T rv) kind ((level : Int) + (k : Int)) ∧ BdAt W (.iface T rv) (wkDown k (level, B)).2) ∧ Boxed W (w.heap.size + 1) 3 (.int .i64 t) ∧
 W.heap[w.heap.size + 2]? = some (.cells #[.nilIface, .int .i64 0, .int .i64 0] 108 (0, 0)) ∧ Boxed W (w.heap.size + 3) 110 .nilIface ∧ Below w.heap.size w W
theorem ownBlk {X Y : World} {row : Option Nat} {b : Nat} {cs : Array Value} {t : TypeId} {f : Nat × Nat} (h : X.heap[b]? = some (.cells cs t f)) (hg : X.grownBy Y row) (hr : ∀ r, row = some r → ∃ o : Obj, X.heap[r]? = some o ∧ o.isCells = false) : Y.heap[b]? = some (.cells cs t f) := by
 refine (hg.block b (Array.getElem?_eq_some_iff.1 h).1 (fun e => ?_)).trans h
 obtain ⟨o, ho, h2⟩ := hr b e.symm
 rw [h] at ho
 cases ho
 cases h2
theorem ti_own (B : Bd) (kind level t : Nat) (w : World) (C : Nat) (hC : w.heap.size ≤ C) : OwnFrom C (TI B kind level t w) := fun k X Y row hs hg hr => by
 obtain ⟨h1, ⟨T, rv, h2, h3⟩, h4, h5, h6, h7⟩ := hs
 have hr' : ∀ r, row = some r → ∃ o : Obj, X.heap[r]? = some o ∧ o.isCells = false := fun r e => (hr r e).2
 exact ⟨h1, ⟨T, rv, ownBlk h2 hg hr', ownBd h3 hg hr⟩, ownBlk h4 hg hr', ownBlk h5 hg hr', ownBlk h6 hg hr', ownFrom_below (β := Unit) (B := C) (Nat.le_refl _) hC () X Y row h7 hg hr⟩
set_option maxRecDepth 100000 in
set_option maxHeartbeats 2000000 in
theorem to_any (v : Value) (B : Bd) (kind level t : Nat) (w : World) (hb : BdAt w v B) (hok : B.Ok kind level) (ht : t ≤ botN kind) :
  Calls Tryz.prog 122 #[.agg #[v, .int .i64 kind, .int .i64 level], .int .i64 t] w fun e w' => ∃ v', e = .returned (.tuple #[.agg #[v', .int .i64 kind, .int .i64 ((wkTo (level, B) t).1 : Int)], .nilIface]) ∧ BdAt w' v' (wkTo (level, B) t).2 ∧ Below w.heap.size w w' := by
 obtain ⟨T, rv, rfl⟩ := bd_iface hb
 obtain ⟨W0, hW0, hXp, hXl, hXr, hB0, hs0⟩ := boxes3 w #[.iface T rv, .int .i64 kind, .int .i64 level] 108 #[.int .i64 t] 3 #[.nilIface, .int .i64 0, .int .i64 0] 108
 have HBT : Hid (∀ w, Calls Tryz.prog 11 #[.int .i64 kind] w fun e w' => e = .returned (.int .i64 (botN kind : Nat)) ∧ w' = w) := fun w => (Bottom_any kind w).mono fun e w' ⟨h1, h2⟩ => ⟨by rw [h1, (bot_eq hok).1], h2.symm⟩
 obtain ⟨c0, c1, c2⟩ := cl3 hXp
 have d0 : W0.cell? ⟨w.heap.size + 1, 0, none⟩ = some (.int .i64 t) := cCc hXl 0
 have hb4 : botN kind ≤ 4 := by unfold botN; split <;> omega
 have t1 : decide ((botN kind : Int) < (t : Int)) = false := by simp; omega
 have HXP := Lib.hid hXp
 have HXL := Lib.hid hXl
 have HXR := Lib.hid hXr
 have HB0 := Lib.hid hB0
 have HB := Lib.hid (hb.go hB0)
 have hlv := ok_bot hok
 clear hXp hXl hXr hB0 hb
 refine calls_marks Tryz.func122 rfl ?_
 simp only [Tryz.ntmps122, List.size_toArray, List.length_cons, List.length_nil, Nat.reduceAdd, Nat.reduceSub, Array.replicate_succ, Array.replicate_zero, List.push_toArray, List.append_toArray, List.nil_append, List.cons_append]
 go_wp2_with fail
 go_step3
 go_wp2_with fail
 go_quiet ((go_at_call 11; exact Calls.quiet_of_same (HBT.out _)))
 go_wp2_with fail
 obtain ⟨W3, hW3, hX3, hB3, hs3⟩ := boxes1 (W0.drewN nq) #[.nilIface] 110
 rw [hW3]
 have hz : (W0.drewN nq).heap.size = w.heap.size + 3 := hs0
 rw [hz] at hX3 hs3
 have hB03 : Below W0.heap.size W0 W3 := (drewN_below nq).trans hB3
 have hXP3 := known hB03 (Nat.le_refl _) HXP.out
 have hXL3 := known hB03 (Nat.le_refl _) HXL.out
 have hXR3 := known hB03 (Nat.le_refl _) HXR.out
 obtain ⟨p0, p1, p2⟩ := cl3 hXP3
 obtain ⟨W4, hW4, hX4, hB4, hs4⟩ := boxes1 W3 #[.int .i64 level] 3
 rw [hs3] at hX4 hs4
 have HW4 := Lib.hid hW4
 have HB3 := Lib.hid (hB03.trans (hB4.mono hB03.size))
 have h0 : TI B kind level t w 0 W4 := by
  refine ⟨Nat.zero_le _, ⟨T, rv, ?_, HB.out.go HB3.out⟩, known hB4 (Nat.le_refl _) hXL3, known hB4 (Nat.le_refl _) hXR3, known hB4 (Nat.le_refl _) hX3, HB0.out.trans (HB3.out.mono HB0.out.size)⟩
  have h := known hB4 (Nat.le_refl _) hXP3
  show W4.heap[w.heap.size]? = some (.cells #[.iface T rv, .int .i64 kind, .int .i64 ((level : Int) + ((0 : Nat) : Int))] 108 (0, 0))
  rw [show (level : Int) + ((0 : Nat) : Int) = level by omega]
  exact h
 have H0 := Lib.hid h0
 have HX4 := Lib.hid hX4
 have hz4 : w.heap.size + 5 ≤ W4.heap.size := by omega
 have HOK := Lib.hid hok
 clear hW4 hX3 hB3 hB03 hXP3 hXL3 hXR3 hX4 hB4 h0 hok c0 c1 c2 d0
 apply wp_label
 go_wp2_with (go_at_call 145; refine (levels_any _ _).mono ?_; rintro e w' ⟨rfl, rfl⟩; rw [HW4.out])
 refine wp_range_count1 [] 7 (gf := 160) (lb := #[.pointer (some ⟨w.heap.size + 3 + 1, 0, none⟩)]) rfl (enters_of Tryz.func160 (by kernel_rfl) rfl)
  (levels_counts (w.heap.size + 3 + 1) level (t - level + 1) W4 HX4.out (by omega)) (by intro k hk; cases hk) rfl (TI B kind level t w) (TI B kind level t w (t - level)) (ti_own B kind level t w _ (by omega)) (fun _ X Y row h hg hr => ti_own B kind level t w _ (by omega) _ X Y row h hg hr) (fun k W h => Nat.lt_succ_of_le h.1) H0.out ?assign ?body ?fin
 case assign =>
  rintro l k W K hI hK
  simp only [List.zip_toArray, List.zip_cons_cons, List.zip_nil_right, List.size_toArray, List.foldl_toArray', List.foldl_cons, List.foldl_nil, List.setIfInBounds_toArray, List.set_cons_succ, List.set_cons_zero] at hK ⊢
  gi_wp2
  exact hK
 case body =>
  rintro lo k W ⟨hk, ⟨T1, rv1, hW1, hb1⟩, hL1, hR1, hE1, hB1⟩
  simp only [List.zip_toArray, List.zip_cons_cons, List.zip_nil_right, List.size_toArray, List.foldl_toArray', List.foldl_cons, List.foldl_nil, List.setIfInBounds_toArray, List.set_cons_succ, List.set_cons_zero]
  have c0 := hL1.cell
  have e0 := hE1.cell
  by_cases hlt : level + k < t
  ·have g1 : decide ((t : Int) ≤ (level : Int) + (k : Int)) = false := by simp; omega
   have hok1 := down_ok HOK.out (show level + k ≤ botN kind by omega)
   have HLow := lowered_any _ _ kind (level + k) W hb1 hok1 (by omega)
   rw [Int.natCast_add] at HLow
   have hW1' : W.heap[w.heap.size]? = some (.cells #[.iface T1 rv1, .int .i64 kind, .int .i64 ((level : Int) + (k : Int))] 108 (0, 0)) := hW1
   obtain ⟨d0, d1, d2⟩ := cl3 hW1'
   gi_wp2_with fail
   refine ⟨trivial, (CallsIn.inRound lo (callsIn_wide.2 HLow)).mono ?_⟩
   rintro e W5 ⟨v5, rfl, hb5, hB5⟩
   obtain ⟨T5, rv5, rfl⟩ := bd_iface hb5
   have hW5 := known hB5 (Nat.le_refl _) hW1'
   have hE5 : W5.heap[w.heap.size + 3]? = some (.cells #[.nilIface] 110 (0, 0)) := known hB5 (Nat.le_refl _) hE1
   obtain ⟨q0, q1, q2⟩ := cl3 hW5
   obtain ⟨f0, f1, f2⟩ := cz3 hW5
   obtain ⟨V, hV, hVX, hVO, hVB⟩ := store3 (.iface T5 rv5) (.int .i64 kind) (.int .i64 ((level : Int) + (k : Int) + 1)) hW5
   have hEV := (hVO.2 (w.heap.size + 3) (by omega)).trans hE5
   have u0 : V.cell? ⟨w.heap.size + 3, 0, none⟩ = some (.nilIface) := cCc hEV 0
   have v0 : V.frozen? ⟨w.heap.size + 3, 0, none⟩ = false := cFz hEV 0
   have hse : V.setCell ⟨w.heap.size + 3, 0, none⟩ .nilIface = V := set_same hEV rfl
   have hbV : BdAt V (.iface T5 rv5) (wkDown (k + 1) (level, B)).2 := by rw [down_succ]; exact BdAt.set_work hb5 hW5 (by simp) (by simp) (by simp) hVO
   have hKV : KeepsFrom W4.heap.size W V := by
    rw [← hV]
    exact (bKeeps hB5 (Nat.le_refl _)).trans ((((KeepsOthers.setCell _ _ _).from _).trans ((KeepsOthers.setCell _ _ _).from _)).trans ((KeepsOthers.setCell _ _ _).from _))
   have hXV : Work V w.heap.size (.iface T5 rv5) kind ((level : Int) + ((k + 1 : Nat) : Int)) := by
    rw [show (level : Int) + ((k + 1 : Nat) : Int) = (level : Int) + (k : Int) + 1 by omega]
    exact hVX
   have HT : Hid (TI B kind level t w (k + 1) V) := ⟨by omega, ⟨T5, rv5, hXV, hbV⟩, (hVO.2 _ (by omega)).trans (known hB5 (Nat.le_refl _) hL1), (hVO.2 _ (by omega)).trans (known hB5 (Nat.le_refl _) hR1), hEV, hVB _ _ (hB1.trans (hB5.mono hB1.size)) (Nat.le_refl _)⟩
   clear hVX hVO hVB hEV hbV hXV hE5 hW5 hb5 hB5
   gi_wp2_with fail
   exact ⟨hKV, (fun b hb => by cases hb), HT.out⟩
  ·have g1 : decide ((t : Int) ≤ (level : Int) + (k : Int)) = true := by simp; omega
   obtain rfl : k = t - level := by omega
   have HT : Hid (TI B kind level t w (t - level) W) := ⟨hk, ⟨T1, rv1, hW1, hb1⟩, hL1, hR1, hE1, hB1⟩
   clear hW1 hb1 hL1 hR1 hE1 hB1
   gi_wp2_with fail
   exact ⟨KeepsFrom.refl _ _, rfl, HT.out⟩
 case fin =>
  rintro D W hD ⟨hk, ⟨T1, rv1, hW1, hb1⟩, hL1, hR1, hE1, hB1⟩ hK
  have hW1' : W.heap[w.heap.size]? = some (.cells #[.iface T1 rv1, .int .i64 kind, .int .i64 ((level : Int) + ((t - level : Nat) : Int))] 108 (0, 0)) := hW1
  have hlev : (level : Int) + ((t - level : Nat) : Int) = ((wkTo (level, B) t).1 : Int) := by
   unfold wkTo
   rw [down_lev]
   show _ = ((level + (t - level) : Nat) : Int)
   omega
  rw [hlev] at hW1'
  have hbd : BdAt W (.iface T1 rv1) (wkTo (level, B) t).2 := hb1
  obtain ⟨L2, hL2⟩ : ∃ L2, (wkTo (level, B) t).1 = L2 := ⟨_, rfl⟩
  obtain ⟨B2, hB2⟩ : ∃ B2, (wkTo (level, B) t).2 = B2 := ⟨_, rfl⟩
  rw [hL2] at hW1'
  rw [hB2] at hbd
  have HL2 := Lib.hid hL2
  have HB2 := Lib.hid hB2
  clear hL2 hB2 hlev
  have e0 := hE1.cell
  obtain ⟨d0, d1, d2⟩ := cl3 hW1'
  obtain ⟨r0, r1, r2⟩ := cl3 hR1
  obtain ⟨f0, f1, f2⟩ := cz3 hR1
  obtain ⟨V, hV, hVX, hVO, hVB⟩ := store3 (b := w.heap.size + 1 + 1) (.iface T1 rv1) (.int .i64 kind) (.int .i64 L2) hR1
  have hbV : BdAt V.drew (.iface T1 rv1) B2 := (BdAt.set_work hbd hR1 (by simp) (by simp) (by simp) hVO).go (Below.refl _ _).drew
  have hKV : V.drew.heap[D]? = some (.deferred (some [])) := (hVO.2 D (by omega)).trans hK
  have hBV : Below w.heap.size w V.drew := (hVB _ _ hB1 (by omega)).drew
  have hXP : (V.drew.putObj D (.deferred none)).heap[w.heap.size + 1 + 1]? = some (.cells #[.iface T1 rv1, .int .i64 kind, .int .i64 L2] 108 (0, 0)) := (World.putObj_heap_other (by omega)).trans hVX
  have HbV := Lib.hid hbV
  have HBV := Lib.hid hBV
  have HKV := Lib.hid hKV
  have HV := Lib.hid hV
  clear hbV hBV hKV hV hVX hVO hVB
  go_wp2_with fail
  go_region
  rw [HV.out]
  go_wp2_with fail
  rw [Exit.noGoto_ret]
  have x0 : (V.drew.putObj D (.deferred none)).cell? ⟨w.heap.size + 1 + 1, 0, none⟩ = some (.iface T1 rv1) := cCc hXP 0
  have x1 : (V.drew.putObj D (.deferred none)).cell? ⟨w.heap.size + 1 + 1, 1, none⟩ = some (.int .i64 kind) := cCc hXP 1
  have x2 : (V.drew.putObj D (.deferred none)).cell? ⟨w.heap.size + 1 + 1, 2, none⟩ = some (.int .i64 L2) := cCc hXP 2
  refine marks_ret1 (v := .tuple #[.agg #[.iface T1 rv1, .int .i64 kind, .int .i64 L2], .nilIface]) HKV.out ?_ ?_
  ·simp [results, Tryz.f122, go_sem, x0, x1, x2]
  ·rw [HL2.out, HB2.out]
   exact ⟨_, rfl, ownBd (C := 0) HbV.out (grownBy_putObj' _ D _) (fun r e => by cases e; exact ⟨Nat.zero_le _, _, HKV.out, rfl⟩), bPutD HBV.out (by omega) HKV.out⟩
end Go.Proofs.YthbhmnakmhambaaGreatDoor

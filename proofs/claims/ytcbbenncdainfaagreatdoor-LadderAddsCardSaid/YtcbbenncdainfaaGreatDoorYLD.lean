/- Package ladder: the four bodies' add and lower; told. errors.As at a target of type **ladder.fault: lines of the worked example ToyasAs turned to this program; ladder.errno, isFull. What rows have in common: the program's closed facts, sketches and numbers opened, errors.errorType. Printed by gen_rz.py. Package ladder: a body's add and lower through the interface. Package ladder: lowered. -/
import Derived.LaidEql
import Derived.Stop.Asserts
import Derived.RowKitTokens
import Derived.Test.YtcbbenncdainfaaGreatDoorCards
import Derived.Test.YtcbbenncdainfaaGreatDoorTie
import Derived.LaidHandle
import Derived.Shelf.Vars
import Derived.ChangeMaps5
import Derived.Test.YtcbbenncdainfaaGreatDoorYDP
namespace Go.Proofs.YtcbbenncdainfaaGreatDoor
open Go Go.RowKit Go.Shelf
def BdAt (W : World) (v : Value) : Bd → Prop
 | .num l => ∃ a len cap, v = .iface 144 (.agg #[.slice a len cap]) ∧ SlC encU 1 W.heap.size W a len cap l
 | .reg b r => v = .iface 147 (.agg #[.int .i64 b, .string (hlStr r)])
 | .cnt c l => ∃ a len cap, v = .iface 148 (.agg #[.int .i64 2, .int .i64 c, .slice a len cap]) ∧ SlC encU 1 W.heap.size W a len cap l
 | .bkt f l => ∃ a len cap, v = .iface 150 (.agg #[.int .i64 f, .slice a len cap]) ∧ SlC encB 2 W.heap.size W a len cap l
theorem BdAt.go {W W' : World} {v : Value} {B : Bd} (h : BdAt W v B) (hb : Below W.heap.size W W') : BdAt W' v B := by
 cases B with
 | num l => obtain ⟨a, len, cap, h1, h2⟩ := h; exact ⟨a, len, cap, h1, h2.go hb⟩
 | reg b r => exact h
 | cnt c l => obtain ⟨a, len, cap, h1, h2⟩ := h; exact ⟨a, len, cap, h1, h2.go hb⟩
 | bkt f l => obtain ⟨a, len, cap, h1, h2⟩ := h; exact ⟨a, len, cap, h1, h2.go hb⟩
def FaultAt (W : World) (v : Value) (no : Int) : Prop := ∃ b, v = .iface 97 (.pointer (some ⟨b, 0, none⟩)) ∧ W.heap[b]? = some (.cells #[.int .i64 no] 99 (0, 0))
def BodyPost (o : Option Bd) (w : World) (e : Ending) (w' : World) : Prop := Below w.heap.size w w' ∧ match o with
 | some B => ∃ v, e = .returned (.tuple #[v, .nilIface]) ∧ BdAt w' v B
 | none => ∃ v, e = .returned (.tuple #[.nilIface, v]) ∧ FaultAt w' v 60
theorem told_ok (v : Value) (w : World) : Calls Tryz.prog 136 #[v, .int .i64 0] w fun e w' => e = .returned (.tuple #[v, .nilIface]) ∧ w' = w := by
 go_enter Tryz.func136, Tryz.ntmps136
 go_wp2
 exact bodyPost_ret (v := .tuple #[v, .nilIface]) (by simp [results, Tryz.f136, go_sem]) rfl ⟨rfl, rfl⟩
theorem told_no (v : Value) (w : World) : Calls Tryz.prog 136 #[v, .int .i64 60] w fun e w' => e = .returned (.tuple #[.nilIface, .iface 97 (.pointer (some ⟨w.heap.size, 0, none⟩))]) ∧ w' = w.alloc (.cells #[.int .i64 60] 99) := by
 go_enter Tryz.func136, Tryz.ntmps136
 go_wp2
 exact bodyPost_ret (v := .tuple #[.nilIface, .iface 97 (.pointer (some ⟨w.heap.size, 0, none⟩))]) (by simp [results, Tryz.f136, go_sem]) rfl ⟨rfl, rfl⟩
theorem nat_u64 {h : Nat} (hh : h < 2 ^ 64) : U64 (h : Int) := by unfold U64; omega
theorem shape_any (c : Nat) (hc : c = 4 ∨ c = 8 ∨ c = 16 ∨ c = 32) : isShapeB 2 (c : Int) = true := by rcases hc with rfl | rfl | rfl | rfl <;> decide +kernel
theorem nums_slC {W : World} {g n : Nat} {l : List Int} (h : NumsAt W g l) (hn : l.length = n) (hm : n ≤ maxLen) : SlC encU 1 W.heap.size W (some ⟨g, 0, none⟩) n n l := by
 refine ⟨⟨hn.symm, fun j x hx => ⟨g, 0, rfl, h.lt, fun i hi => ?_⟩⟩, Nat.le_refl _, hm, (fun e => by cases e), fun x hx _ => by cases hx; exact ⟨rfl, h.lt⟩⟩
 obtain rfl : i = 0 := by omega
 have hj : j < l.length := (List.getElem?_eq_some_iff.1 hx).1
 rw [show (0 + j * 1 + 0) = j by omega, h.cell hj]
 have : l.getD j 0 = x := by rw [List.getD_eq_getElem?_getD, hx]; rfl
 rw [this]
 rfl
set_option maxRecDepth 100000 in
set_option maxHeartbeats 1000000 in
theorem add_num (l : List Int) (a : Option Addr) (len cap h : Nat) (n : Int) (w : World) (hS : SlC encU 1 w.heap.size w a len cap l) (hr : exRight l = true) :
  Calls Tryz.prog 130 #[.agg #[.slice a len cap], .agg #[.int .u64 h, .int .u64 n]] w (BodyPost ((Bd.num l).add h n) w) := by
 obtain ⟨W0, hW0, hXb, hXi, hB0, hs0⟩ := boxes2 w #[.slice a len cap] 144 #[.int .u64 h, .int .u64 n] 45
 obtain ⟨d0, d1⟩ := cl2 hXi
 have c0 : W0.cell? ⟨w.heap.size, 0, none⟩ = some (.slice a len cap) := cCc hXb 0
 have HA := exAdd_any l a len cap (h : Int) W0 ((hS.1.below hB0).mono hB0.size) (fun e => by have := hS.2.2.2.1 e; have := hS.2.1; omega)
 have hex : exAdd l (h : Int) = exGather l [(h : Int)] := by unfold exAdd; rw [if_pos hr]
 rw [hex] at HA
 have HB0 := Lib.hid hB0
 clear hXb hB0 hXi hS hr hex
 show Calls _ _ _ _ (BodyPost ((exGather l [(h : Int)]).map .num) w)
 generalize exGather l [(h : Int)] = o at HA ⊢
 cases o with
 | some m =>
  obtain ⟨P, hP⟩ : ∃ P, BodyPost ((some m).map .num) w = P := ⟨_, rfl⟩
  have HP := Lib.hid hP
  rw [hP]
  clear hP
  go_enter Tryz.func130, Tryz.ntmps130
  go_wp2_with fail
  refine HA.mono ?_
  rintro e w1 ⟨hb1, a', cap', rfl, hS1, -⟩
  obtain ⟨W2, hW2, hX2, hB2, hs2⟩ := boxes1 w1 #[.slice a' m.length cap'] 24
  have q0 : W2.cell? ⟨w1.heap.size, 0, none⟩ = some (.slice a' m.length cap') := cCc hX2 0
  have HT := Lib.hid (told_ok (.iface 144 (.agg #[.slice a' m.length cap'])) W2)
  have HS1 := Lib.hid hS1
  have HB2 := Lib.hid hB2
  have HB1 := Lib.hid hb1
  clear hX2 hB2 hb1 hS1
  go_wp2_with fail
  refine HT.out.mono ?_
  rintro e w3 ⟨rfl, rfl⟩
  go_wp2_with fail
  have hB12 := HB1.out.trans (HB2.out.mono HB1.out.size)
  rw [← HP.out]
  exact ⟨HB0.out.trans (hB12.mono HB0.out.size), _, rfl, _, _, _, rfl, HS1.out.go HB2.out⟩
 | none =>
  obtain ⟨P, hP⟩ : ∃ P, BodyPost ((none : Option (List Int)).map .num) w = P := ⟨_, rfl⟩
  have HP := Lib.hid hP
  rw [hP]
  clear hP
  go_enter Tryz.func130, Tryz.ntmps130
  go_wp2_with fail
  refine HA.mono ?_
  rintro e w1 ⟨hb1, rfl⟩
  obtain ⟨W2, hW2, hX2, hB2, hs2⟩ := boxes1 w1 #[.slice none 0 0] 24
  have q0 : W2.cell? ⟨w1.heap.size, 0, none⟩ = some (.slice none 0 0) := cCc hX2 0
  have z0 : W2.frozen? ⟨w1.heap.size, 0, none⟩ = false := cFz hX2 0
  obtain ⟨W3, hW3⟩ : ∃ W3, W2.setCell ⟨w1.heap.size, 0, none⟩ (.slice none 0 0) = W3 := ⟨_, rfl⟩
  have hX3 : W3.heap[w1.heap.size]? = some (.cells #[.slice none 0 0] 24 (0, 0)) := by rw [← hW3]; exact hSk hX2 (.slice none 0 0)
  have HB2 : Hid (Below w1.heap.size w1 W3) := by rw [Hid, ← hW3]; exact hB2.setCell (p := ⟨w1.heap.size, 0, none⟩) (Nat.le_refl _) _
  have y0 : W3.cell? ⟨w1.heap.size, 0, none⟩ = some (.slice none 0 0) := cCc hX3 0
  have HT := Lib.hid (told_no (.iface 144 (.agg #[.slice none 0 0])) W3)
  have HB1 := Lib.hid hb1
  clear hX2 hX3 hB2 hb1
  go_wp2_with fail
  refine HT.out.mono ?_
  rintro e w3 ⟨rfl, rfl⟩
  go_wp2_with fail
  have hB12 := HB1.out.trans (HB2.out.mono HB1.out.size)
  rw [← HP.out]
  exact ⟨(HB0.out.trans (hB12.mono HB0.out.size)).alloc (HB0.out.trans (hB12.mono HB0.out.size)).size _, _, rfl, _, rfl, World.alloc_heap_new _ _⟩
-- METHODS
set_option maxRecDepth 100000 in
set_option maxHeartbeats 1000000 in
theorem add_reg (b : Nat) (r : List Nat) (h : Nat) (n : Int) (w : World) (h1 : 3 ≤ b) (h2 : b ≤ 8) (hl : r.length = 2 ^ b) (hr : ∀ i, r.getD i 0 ≤ 65 - b) (hh : h < 2 ^ 64) :
  Calls Tryz.prog 160 #[.agg #[.int .i64 b, .string (hlStr r)], .agg #[.int .u64 h, .int .u64 n]] w (BodyPost ((Bd.reg b r).add h n) w) := by
 obtain ⟨W0, hW0, hXb, hXi, hB0, hs0⟩ := boxes2 w #[.int .i64 b, .string (hlStr r)] 147 #[.int .u64 h, .int .u64 n] 45
 obtain ⟨d0, d1⟩ := cl2 hXi
 obtain ⟨c0, c1⟩ := cl2 hXb
 have HA := Lib.hid (hAdd_any b r (h : Int) W0 h1 h2 hl hr (nat_u64 hh))
 have HB0 := Lib.hid hB0
 clear hXb hB0 hXi
 rw [Int.toNat_natCast] at HA
 obtain ⟨s, hst⟩ : ∃ s, hlStr (hlAdd b r h) = s := ⟨_, rfl⟩
 rw [hst] at HA
 have HSt := Lib.hid hst
 clear hst hl hr h1 h2 hh
 go_enter Tryz.func160, Tryz.ntmps160
 go_wp2_with fail
 refine HA.out.mono ?_
 rintro e w1 ⟨rfl, hb1⟩
 obtain ⟨W2, hW2, hX2, hB2, hs2⟩ := boxes1 w1 #[.int .i64 b, .string s] 26
 obtain ⟨q0, q1⟩ := cl2 hX2
 have HT := Lib.hid (told_ok (.iface 147 (.agg #[.int .i64 b, .string s])) W2)
 have HB2 := Lib.hid hB2
 have HB1 := Lib.hid hb1
 clear hX2 hB2 hb1
 go_wp2_with fail
 refine HT.out.mono ?_
 rintro e w3 ⟨rfl, rfl⟩
 go_wp2_with fail
 have hB12 := HB1.out.trans (HB2.out.mono HB1.out.size)
 refine bodyPost_ret (v := .tuple #[.iface 147 (.agg #[.int .i64 b, .string s]), .nilIface]) (by simp [results, Tryz.f160, go_sem]) rfl ⟨HB0.out.trans (hB12.mono HB0.out.size), ?_⟩
 exact ⟨_, rfl, by rw [← HSt.out]; rfl⟩
set_option maxRecDepth 100000 in
set_option maxHeartbeats 1000000 in
theorem add_cnt (c : Nat) (l : List Int) (a : Option Addr) (len cap h : Nat) (n : Int) (w : World) (hc : c = 4 ∨ c = 8 ∨ c = 16 ∨ c = 32) (hS : SlC encU 1 w.heap.size w a len cap l) (hl : l.length = c + c) (hlu : U64s l) (hh : h < 2 ^ 64) (hn : U64 n) :
  Calls Tryz.prog 170 #[.agg #[.int .i64 2, .int .i64 c, .slice a len cap], .agg #[.int .u64 h, .int .u64 n]] w (BodyPost ((Bd.cnt c l).add h n) w) := by
 obtain ⟨W0, hW0, hXb, hXi, hB0, hs0⟩ := boxes2 w #[.int .i64 2, .int .i64 c, .slice a len cap] 148 #[.int .u64 h, .int .u64 n] 45
 obtain ⟨d0, d1⟩ := cl2 hXi
 obtain ⟨c0, c1, c2⟩ := cl3 hXb
 have HA := Lib.hid (cAdd_any c h n l a len cap W0 (shape_any c hc) (by omega) (by omega) hh hn ((hS.1.below hB0).mono hB0.size) (by omega) hlu (fun e => by have := hS.2.2.2.1 e; have := hS.2.1; omega))
 have HB0 := Lib.hid hB0
 clear hXb hB0 hXi
 have HLen := Lib.hid (cmAdd_len c l h n)
 have HL : Hid (l.length = c + c) := hl
 clear hS hl hlu hh hn
 go_enter Tryz.func170, Tryz.ntmps170
 go_wp2_with fail
 refine HA.out.mono ?_
 rintro e w1 ⟨g, rfl, hN1, hg1, hb1⟩
 have HN : Hid (NumsAt w1 g (cmAdd c l h n) ∧ (cmAdd c l h n).length = c + c) := ⟨hN1, by rw [HLen.out]; exact HL.out⟩
 clear hN1
 obtain ⟨W2, hW2, hX2, hB2, hs2⟩ := boxes1 w1 #[.int .i64 2, .int .i64 c, .slice (some ⟨g, 0, none⟩) (2 * c) (2 * c)] 28
 obtain ⟨q0, q1, q2⟩ := cl3 hX2
 have HT := Lib.hid (told_ok (.iface 148 (.agg #[.int .i64 2, .int .i64 c, .slice (some ⟨g, 0, none⟩) (2 * c) (2 * c)])) W2)
 have HB2 := Lib.hid hB2
 have HB1 := Lib.hid hb1
 clear hX2 hB2 hb1
 go_wp2_with fail
 refine HT.out.mono ?_
 rintro e w3 ⟨rfl, rfl⟩
 go_wp2_with fail
 have hB12 := HB1.out.trans (HB2.out.mono HB1.out.size)
 refine bodyPost_ret (v := .tuple #[.iface 148 (.agg #[.int .i64 2, .int .i64 c, .slice (some ⟨g, 0, none⟩) (2 * c) (2 * c)]), .nilIface]) (by simp [results, Tryz.f170, go_sem]) rfl ⟨HB0.out.trans (hB12.mono HB0.out.size), ?_⟩
 exact ⟨_, rfl, _, _, _, rfl, (nums_slC HN.out.1 (by rw [HN.out.2]; omega) (by unfold maxLen; omega)).go HB2.out⟩
set_option maxRecDepth 100000 in
set_option maxHeartbeats 1000000 in
theorem add_bkt (f : Nat) (l : List (Int × Int)) (a : Option Addr) (len cap h : Nat) (n : Int) (w : World) (hf : f ≤ 3) (hS : SlC encB 2 w.heap.size w a len cap l) (hr : hiRight f l = true) (hu : BinUp l) (hbu : BinsU l) (hlen : l.length ≤ 1000) (hp : ∀ b ∈ l, I64 b.1) (hh : h < 2 ^ 64) (hn : U64 n) :
  Calls Tryz.prog 189 #[.agg #[.int .i64 f, .slice a len cap], .agg #[.int .u64 h, .int .u64 n]] w (BodyPost ((Bd.bkt f l).add h n) w) := by
 obtain ⟨W0, hW0, hXb, hXi, hB0, hs0⟩ := boxes2 w #[.int .i64 f, .slice a len cap] 150 #[.int .u64 h, .int .u64 n] 45
 obtain ⟨d0, d1⟩ := cl2 hXi
 obtain ⟨c0, c1⟩ := cl2 hXb
 have HA := Lib.hid (hiAdd_any f l h n a len cap W0 hf ((hS.1.below hB0).mono hB0.size) hr hu hbu (by have := hS.1.1; omega) hp hh hn)
 have HB0 := Lib.hid hB0
 clear hXb hB0 hXi
 clear hS hr hu hbu hlen hp hh hn hf
 go_enter Tryz.func189, Tryz.ntmps189
 go_wp2_with fail
 refine HA.out.mono ?_
 rintro e w1 ⟨a', len', cap', rfl, hS1, hb1⟩
 have HN := Lib.hid hS1
 clear hS1
 obtain ⟨W2, hW2, hX2, hB2, hs2⟩ := boxes1 w1 #[.int .i64 f, .slice a' len' cap'] 31
 obtain ⟨q0, q1⟩ := cl2 hX2
 have HT := Lib.hid (told_ok (.iface 150 (.agg #[.int .i64 f, .slice a' len' cap'])) W2)
 have HB2 := Lib.hid hB2
 have HB1 := Lib.hid hb1
 clear hX2 hB2 hb1
 go_wp2_with fail
 refine HT.out.mono ?_
 rintro e w3 ⟨rfl, rfl⟩
 go_wp2_with fail
 have hB12 := HB1.out.trans (HB2.out.mono HB1.out.size)
 refine bodyPost_ret (v := .tuple #[.iface 150 (.agg #[.int .i64 f, .slice a' len' cap']), .nilIface]) (by simp [results, Tryz.f189, go_sem]) rfl ⟨HB0.out.trans (hB12.mono HB0.out.size), ?_⟩
 exact ⟨_, rfl, _, _, _, rfl, HN.out.go HB2.out⟩
set_option maxRecDepth 100000 in
set_option maxHeartbeats 1000000 in
theorem low_num (l : List Int) (a : Option Addr) (len cap : Nat) (w : World) (hS : SlC encU 1 w.heap.size w a len cap l) (hu : U64s l) (hlen : l.length ≤ 1000) :
  Calls Tryz.prog 133 #[.agg #[.slice a len cap]] w (BodyPost (some (Bd.num l).low) w) := by
 obtain ⟨W0, hW0, hXb, hB0, hs0⟩ := boxes1 w #[.slice a len cap] 144
 have c0 : W0.cell? ⟨w.heap.size, 0, none⟩ = some (.slice a len cap) := cCc hXb 0
 have HA := Lib.hid (hOf_any 7 l a len cap W0 (by decide) (by decide) ((hS.1.below hB0).mono hB0.size) hu (by have := hS.1.1; omega))
 have HB0 := Lib.hid hB0
 clear hXb hB0
 obtain ⟨s, hst⟩ : ∃ s, hlStr (hlSum 7 (hlNone 7) (l.map Int.toNat)) = s := ⟨_, rfl⟩
 rw [hst] at HA
 have HSt := Lib.hid hst
 clear hst hS hu hlen
 go_enter Tryz.func133, Tryz.ntmps133
 go_wp2_with fail
 refine HA.out.mono ?_
 rintro e w1 ⟨rfl, hb1⟩
 obtain ⟨W2, hW2, hX2, hB2, hs2⟩ := boxes1 w1 #[.int .i64 7, .string s] 26
 obtain ⟨q0, q1⟩ := cl2 hX2
 have HT := Lib.hid (told_ok (.iface 147 (.agg #[.int .i64 7, .string s])) W2)
 have HB2 := Lib.hid hB2
 have HB1 := Lib.hid hb1
 clear hX2 hB2 hb1
 go_wp2_with fail
 refine HT.out.mono ?_
 rintro e w3 ⟨rfl, rfl⟩
 go_wp2_with fail
 have hB12 := HB1.out.trans (HB2.out.mono HB1.out.size)
 refine bodyPost_ret (v := .tuple #[.iface 147 (.agg #[.int .i64 7, .string s]), .nilIface]) (by simp [results, Tryz.f133, go_sem]) rfl ⟨HB0.out.trans (hB12.mono HB0.out.size), ?_⟩
 exact ⟨_, rfl, by rw [← HSt.out]; rfl⟩
set_option maxRecDepth 100000 in
set_option maxHeartbeats 1000000 in
theorem low_reg (b : Nat) (r : List Nat) (w : World) (h1 : 4 ≤ b) (h2 : b ≤ 8) (hl : r.length = 2 ^ b) (hr : ∀ i, r.getD i 0 ≤ 65 - b) :
  Calls Tryz.prog 163 #[.agg #[.int .i64 b, .string (hlStr r)]] w (BodyPost (some (Bd.reg b r).low) w) := by
 obtain ⟨W0, hW0, hXb, hB0, hs0⟩ := boxes1 w #[.int .i64 b, .string (hlStr r)] 147
 obtain ⟨c0, c1⟩ := cl2 hXb
 have HA := Lib.hid (hLower_any b r W0 h1 h2 hl hr)
 have HB0 := Lib.hid hB0
 clear hXb hB0
 obtain ⟨s, hst⟩ : ∃ s, hlStr (hlLow b r) = s := ⟨_, rfl⟩
 rw [hst] at HA
 have HSt := Lib.hid hst
 clear hst hl hr h1 h2
 go_enter Tryz.func163, Tryz.ntmps163
 go_wp2_with fail
 refine HA.out.mono ?_
 rintro e w1 ⟨rfl, hb1⟩
 obtain ⟨W2, hW2, hX2, hB2, hs2⟩ := boxes1 w1 #[.int .i64 ((b - 1 : Nat) : Int), .string s] 26
 obtain ⟨q0, q1⟩ := cl2 hX2
 have HT := Lib.hid (told_ok (.iface 147 (.agg #[.int .i64 ((b - 1 : Nat) : Int), .string s])) W2)
 have HB2 := Lib.hid hB2
 have HB1 := Lib.hid hb1
 clear hX2 hB2 hb1
 go_wp2_with fail
 refine HT.out.mono ?_
 rintro e w3 ⟨rfl, rfl⟩
 go_wp2_with fail
 have hB12 := HB1.out.trans (HB2.out.mono HB1.out.size)
 refine bodyPost_ret (v := .tuple #[.iface 147 (.agg #[.int .i64 ((b - 1 : Nat) : Int), .string s]), .nilIface]) (by simp [results, Tryz.f163, go_sem]) rfl ⟨HB0.out.trans (hB12.mono HB0.out.size), ?_⟩
 exact ⟨_, rfl, by rw [← HSt.out]; rfl⟩
set_option maxRecDepth 100000 in
set_option maxHeartbeats 1000000 in
theorem low_cnt (c : Nat) (l : List Int) (a : Option Addr) (len cap : Nat) (w : World) (hc : c = 8 ∨ c = 16 ∨ c = 32) (hS : SlC encU 1 w.heap.size w a len cap l) (hl : l.length = c + c) (hlu : U64s l) :
  Calls Tryz.prog 173 #[.agg #[.int .i64 2, .int .i64 c, .slice a len cap]] w (BodyPost (some (Bd.cnt c l).low) w) := by
 obtain ⟨W0, hW0, hXb, hB0, hs0⟩ := boxes1 w #[.int .i64 2, .int .i64 c, .slice a len cap] 148
 obtain ⟨c0, c1, c2⟩ := cl3 hXb
 have HA := Lib.hid (cLower_any c l a len cap W0 (shape_any c (by omega)) (shape_any (c / 2) (by omega)) hc ((hS.1.below hB0).mono hB0.size) (by omega) hlu)
 have HB0 := Lib.hid hB0
 clear hXb hB0
 obtain ⟨d, hd⟩ : ∃ d, c / 2 = d := ⟨_, rfl⟩
 rw [hd] at HA
 have HD := Lib.hid hd
 have HC : Hid (2 * d ≤ 64) := (by omega : 2 * d ≤ 64)
 have HLen : Hid ((cmLow c l).length = 2 * d) := by rw [Hid, cmLow_len]; omega
 clear hS hl hlu hc hd
 go_enter Tryz.func173, Tryz.ntmps173
 go_wp2_with fail
 refine HA.out.mono ?_
 rintro e w1 ⟨g, rfl, hN1, hg1, hb1⟩
 have HN := Lib.hid (nums_slC hN1 HLen.out (by have := HC.out; unfold maxLen; omega))
 clear hN1
 obtain ⟨W2, hW2, hX2, hB2, hs2⟩ := boxes1 w1 #[.int .i64 2, .int .i64 d, .slice (some ⟨g, 0, none⟩) (2 * d) (2 * d)] 28
 obtain ⟨q0, q1, q2⟩ := cl3 hX2
 have HT := Lib.hid (told_ok (.iface 148 (.agg #[.int .i64 2, .int .i64 d, .slice (some ⟨g, 0, none⟩) (2 * d) (2 * d)])) W2)
 have HB2 := Lib.hid hB2
 have HB1 := Lib.hid hb1
 clear hX2 hB2 hb1
 go_wp2_with fail
 refine HT.out.mono ?_
 rintro e w3 ⟨rfl, rfl⟩
 go_wp2_with fail
 have hB12 := HB1.out.trans (HB2.out.mono HB1.out.size)
 refine bodyPost_ret (v := .tuple #[.iface 148 (.agg #[.int .i64 2, .int .i64 d, .slice (some ⟨g, 0, none⟩) (2 * d) (2 * d)]), .nilIface]) (by simp [results, Tryz.f173, go_sem]) rfl ⟨HB0.out.trans (hB12.mono HB0.out.size), ?_⟩
 exact ⟨_, rfl, by show BdAt _ _ (.cnt (c / 2) (cmLow c l)); rw [HD.out]; exact ⟨_, _, _, rfl, HN.out.go HB2.out⟩⟩
set_option maxRecDepth 100000 in
set_option maxHeartbeats 1000000 in
theorem low_bkt (f : Nat) (l : List (Int × Int)) (a : Option Addr) (len cap : Nat) (w : World) (h1 : 1 ≤ f) (hf : f ≤ 3) (hS : SlC encB 2 w.heap.size w a len cap l) (hr : hiRight f l = true) (hbd : ∀ b ∈ l, boundsB f b.1 = true) (hbu : BinsU l) (hlen : l.length ≤ 1000) :
  Calls Tryz.prog 192 #[.agg #[.int .i64 f, .slice a len cap]] w (BodyPost (some (Bd.bkt f l).low) w) := by
 obtain ⟨W0, hW0, hXb, hB0, hs0⟩ := boxes1 w #[.int .i64 f, .slice a len cap] 150
 obtain ⟨c0, c1⟩ := cl2 hXb
 have HA := Lib.hid (hiLower_any f l a len cap W0 h1 hf ((hS.1.below hB0).mono hB0.size) hr hbd hbu (by have := hS.1.1; omega))
 have HB0 := Lib.hid hB0
 clear hXb hB0
 have HF : Hid (1 ≤ f) := h1
 clear hS hr hbd hbu hlen hf h1
 go_enter Tryz.func192, Tryz.ntmps192
 go_wp2_with fail
 refine HA.out.mono ?_
 rintro e w1 ⟨a', len', cap', rfl, hS1, hb1⟩
 have HN := Lib.hid hS1
 clear hS1
 obtain ⟨W2, hW2, hX2, hB2, hs2⟩ := boxes1 w1 #[.int .i64 ((f : Int) - 1), .slice a' len' cap'] 31
 obtain ⟨q0, q1⟩ := cl2 hX2
 have HT := Lib.hid (told_ok (.iface 150 (.agg #[.int .i64 ((f : Int) - 1), .slice a' len' cap'])) W2)
 have HB2 := Lib.hid hB2
 have HB1 := Lib.hid hb1
 clear hX2 hB2 hb1
 go_wp2_with fail
 refine HT.out.mono ?_
 rintro e w3 ⟨rfl, rfl⟩
 go_wp2_with fail
 have hB12 := HB1.out.trans (HB2.out.mono HB1.out.size)
 refine bodyPost_ret (v := .tuple #[.iface 150 (.agg #[.int .i64 ((f : Int) - 1), .slice a' len' cap']), .nilIface]) (by simp [results, Tryz.f192, go_sem]) rfl ⟨HB0.out.trans (hB12.mono HB0.out.size), ?_⟩
 exact ⟨_, rfl, _, _, _, by rw [show ((f - 1 : Nat) : Int) = (f : Int) - 1 by have := HF.out; omega], HN.out.go HB2.out⟩
end Go.Proofs.YtcbbenncdainfaaGreatDoor
namespace Go.Proofs.YtcbbenncdainfaaGreatDoor
open Go Go.RowKit Go.Extern.Stop Go.Stop Go.Extern
theorem as_nil (t : Value) (w : World) :
  Calls Tryz.prog 89 #[.nilIface, t] w fun e w' => e = .returned (.bool false) ∧ w' = w := by
 go_enter Tryz.func89, Tryz.ntmps89
 go_wp2
 go_ret
 exact ⟨rfl, rfl⟩
theorem as_valueOf27 (t : Addr) (w : World) : (ReflectliteValue.unpack (.iface 153 (.pointer (some t)))).run Tryz.prog w
  = .ok (.agg #[.pointer (some ⟨1, 153, none⟩), .pointer (some ⟨w.heap.size, 0, none⟩), .int .u64 150]) (w.alloc (.cells #[.pointer (some t)] 153)) := by kernel_rfl
theorem as_type27 (a : Addr) (w : World) : (ReflectliteValue.methodAny (ReflectliteValue.valueError "reflectlite.Value.Type" 0) (fun t _ _ _ => ReflectliteType.toType t) #[.agg #[.pointer (some ⟨1, 153, none⟩), .pointer (some a), .int .u64 150]]).run Tryz.prog w
  = .ok (.iface 176 (.agg #[.pointer (some ⟨1, 153, none⟩)])) w := by kernel_rfl
theorem as_methodKind (h : Value) (w : World) : (Go.method 392 176 (.agg #[h]) "Kind").run Tryz.prog w = .ok (125, h) w := by kernel_rfl
theorem as_kind27 (w : World) : ((ReflectliteType.abiMethod fun t => (fun a : Nat => Value.int IntKind.u8 (a : Int)) <$> Rtype.kind t) #[.pointer (some ⟨1, 153, none⟩)]).run Tryz.prog w = .ok (.int .u8 22) w := by kernel_rfl
theorem as_kind25 (w : World) : ((ReflectliteType.abiMethod fun t => (fun a : Nat => Value.int IntKind.u8 (a : Int)) <$> Rtype.kind t) #[.pointer (some ⟨1, 97, none⟩)]).run Tryz.prog w = .ok (.int .u8 22) w := by kernel_rfl
theorem rlm (z : Sem Value) (f : TypeId → Addr → Nat → Nat → Sem Value) (v : Value) :
  ReflectliteValue.method z f #[v] = (do match ← ReflectliteValue.parts v with | none => z | some (t, a, fl) => f t a fl (fl % 32)) := rfl
theorem as_parts27 (a : Addr) (w : World) : (ReflectliteValue.parts (.agg #[.pointer (some ⟨1, 153, none⟩), .pointer (some a), .int .u64 150])).run Tryz.prog w = .ok (some (153, a, 150)) w := by kernel_rfl
theorem as_isNil27 (a p : Addr) (W : World) (ha : W.cell? a = some (.pointer (some p))) :
  (ReflectliteValue.method (ReflectliteValue.valueError "reflectlite.Value.IsNil" 0) ReflectliteValue.isNil #[.agg #[.pointer (some ⟨1, 153, none⟩), .pointer (some a), .int .u64 150]]).run Tryz.prog W = .ok (.bool false) W := by
 rw [rlm]
 simp only [Sem.run_bind, as_parts27, Result.andThen]
 simp [ReflectliteValue.isNil, loadVar, isAgg, underlying, Tryz.underlying153, ha, Result.andThen]
theorem as_methodElem (h : Value) (w : World) : (Go.method 392 176 (.agg #[h]) "Elem").run Tryz.prog w = .ok (239, .agg #[h]) w := by kernel_rfl
theorem as_methodImplements (h : Value) (w : World) : (Go.method 392 176 (.agg #[h]) "Implements").run Tryz.prog w = .ok (240, .agg #[h]) w := by kernel_rfl
theorem as_methodAssignableTo (h : Value) (w : World) : (Go.method 392 176 (.agg #[h]) "AssignableTo").run Tryz.prog w = .ok (237, .agg #[h]) w := by kernel_rfl
theorem as_elem27 (w : World) : (ReflectliteType.method ReflectliteType.elem #[.agg #[.pointer (some ⟨1, 153, none⟩)]]).run Tryz.prog w = .ok (.iface 176 (.agg #[.pointer (some ⟨1, 97, none⟩)])) w := by kernel_rfl
theorem as_implements25 (w : World) : (ReflectliteType.relation "Implements" ReflectliteType.implements_ #[.agg #[.pointer (some ⟨1, 97, none⟩)], .iface 176 (.agg #[.pointer (some ⟨1, 62, none⟩)])]).run Tryz.prog w = .ok (.bool true) w := by kernel_rfl
theorem as_typeOf25 (v : Value) (w : World) : (ReflectliteType.typeOf #[.iface 97 v]).run Tryz.prog w = .ok (.iface 176 (.agg #[.pointer (some ⟨1, 97, none⟩)])) w := by kernel_rfl
theorem as_assignable25 (w : World) : (ReflectliteType.relation "AssignableTo" ReflectliteType.assignableTo #[.agg #[.pointer (some ⟨1, 97, none⟩)], .iface 176 (.agg #[.pointer (some ⟨1, 97, none⟩)])]).run Tryz.prog w = .ok (.bool true) w := by kernel_rfl
theorem as_valueOf25 (e : Addr) (w : World) : (ReflectliteValue.unpack (.iface 97 (.pointer (some e)))).run Tryz.prog w
  = .ok (.agg #[.pointer (some ⟨1, 97, none⟩), .pointer (some ⟨w.heap.size, 0, none⟩), .int .u64 150]) (w.alloc (.cells #[.pointer (some e)] 97)) := by kernel_rfl
theorem as_elemOf27 (w : World) : (Rtype.elem? 153).run Tryz.prog w = .ok (some 97) w := by kernel_rfl
theorem as_mk25 (p : Addr) (w : World) : (ReflectliteValue.mk 97 p ReflectliteValue.flagAddr).run Tryz.prog w = .ok (.agg #[.pointer (some ⟨1, 97, none⟩), .pointer (some p), .int .u64 406]) w := by kernel_rfl
theorem as_elemV27 (a p : Addr) (W : World) (ha : W.cell? a = some (.pointer (some p))) :
  (ReflectliteValue.method (ReflectliteValue.valueError "reflectlite.Value.Elem" 0) ReflectliteValue.elem #[.agg #[.pointer (some ⟨1, 153, none⟩), .pointer (some a), .int .u64 150]]).run Tryz.prog W
   = .ok (.agg #[.pointer (some ⟨1, 97, none⟩), .pointer (some p), .int .u64 406]) W := by
 rw [rlm]
 simp only [Sem.run_bind, as_parts27, Result.andThen]
 simp [ReflectliteValue.elem, loadVar, isAgg, underlying, Tryz.underlying153, ha, Result.andThen, as_elemOf27, as_mk25]
theorem rls (v x : Value) : ReflectliteValue.set #[v, x] = (do
  let (some (dst, a, fl), some (src, b, _)) := (← ReflectliteValue.parts v, ← ReflectliteValue.parts x)
   | unsupported (.noEntry "extern/(internal/reflectlite.Value).Set.zeroValue")
  if fl / ReflectliteValue.flagAddr % 2 == 0 then unsupported (.noEntry "extern/(internal/reflectlite.Value).Set.unaddressable")
  let val ← loadVar src b
  if ← Rtype.directlyAssignable dst src then storeVar dst a val
  else if ← Rtype.implements dst src then
   if (← Rtype.kind src) == 20 then
    match val with
    | .nilIface => unsupported (.noEntry "extern/reflectlite: a nil value of one interface type handed on as a value of another")
    | _ => storeVar dst a val
   else storeVar dst a (.iface src val)
  else panicString ("reflectlite.Set: value of type " ++ (← Rtype.spelt src) ++ " is not assignable to type " ++ (← Rtype.spelt dst))
  pure (.tuple #[])) := rfl
theorem as_parts25a (a : Addr) (w : World) : (ReflectliteValue.parts (.agg #[.pointer (some ⟨1, 97, none⟩), .pointer (some a), .int .u64 406])).run Tryz.prog w = .ok (some (97, a, 406)) w := by kernel_rfl
theorem as_parts25 (a : Addr) (w : World) : (ReflectliteValue.parts (.agg #[.pointer (some ⟨1, 97, none⟩), .pointer (some a), .int .u64 150])).run Tryz.prog w = .ok (some (97, a, 150)) w := by kernel_rfl
theorem as_direct25 (w : World) : (Rtype.directlyAssignable 97 97).run Tryz.prog w = .ok true w := by kernel_rfl
theorem as_set25 (ta b e : Addr) (old : Value) (W : World) (hb : W.cell? b = some (.pointer (some e))) (ht : W.cell? ta = some old) (hf : W.frozen? ta = false) :
  (ReflectliteValue.set #[.agg #[.pointer (some ⟨1, 97, none⟩), .pointer (some ta), .int .u64 406], .agg #[.pointer (some ⟨1, 97, none⟩), .pointer (some b), .int .u64 150]]).run Tryz.prog W
   = .ok (.tuple #[]) (W.setCell ta (.pointer (some e))) := by
 rw [rls]
 simp only [Sem.run_bind, as_parts25a, as_parts25, Result.andThen]
 simp [ReflectliteValue.flagAddr, loadVar, isAgg, underlying, Tryz.underlying97, hb, Result.andThen, as_direct25, storeVar, Value.cells, storeCells, Addr.add]
 rw [run_store Tryz.prog W ta _ _ (by rfl)]
 simp [ht, hf]
set_option maxHeartbeats 4000000 in
theorem as_hit (e t : Addr) (old : Value) (w : World) (hg : w.cell? ⟨0, 0, none⟩ = some (.iface 176 (.agg #[.pointer (some ⟨1, 62, none⟩)]))) (ht0 : w.cell? t = some old) (hf0 : w.frozen? t = false) :
  Calls Tryz.prog 89 #[.iface 97 (.pointer (some e)), .iface 153 (.pointer (some t))] w fun ev w' => ev = .returned (.bool true) ∧ w' = ((((w.alloc (.cells #[.pointer (some t)] 153)).alloc (.cells #[.pointer (some ⟨1, 153, none⟩), .pointer (some ⟨w.heap.size, 0, none⟩), .int .u64 150] 163)).alloc (.cells #[.pointer (some ⟨1, 153, none⟩), .pointer (some ⟨w.heap.size, 0, none⟩), .int .u64 150] 163)).alloc (.cells #[.pointer (some e)] 97)).setCell t (.pointer (some e)) := by
 have h6 := @run_callFunc_extern Tryz.prog 99 _ (fun args => ReflectliteValue.unpack (args.getD 0 (.tuple #[]))) Tryz.func99 (by kernel_rfl) (by kernel_rfl) (by kernel_rfl) (by kernel_rfl)
 have h7 := @run_callFunc_extern Tryz.prog 100 _ (ReflectliteValue.methodAny (ReflectliteValue.valueError "reflectlite.Value.Type" 0) (fun t _ _ _ => ReflectliteType.toType t)) Tryz.func100 (by kernel_rfl) (by kernel_rfl) (by kernel_rfl) (by kernel_rfl)
 have h8 := @run_callFunc_extern Tryz.prog 101 _ (ReflectliteValue.method (ReflectliteValue.valueError "reflectlite.Value.IsNil" 0) ReflectliteValue.isNil) Tryz.func101 (by kernel_rfl) (by kernel_rfl) (by kernel_rfl) (by kernel_rfl)
 have h27 := @run_callFunc_extern Tryz.prog 125 _ (ReflectliteType.abiMethod fun t => do pure (.int .u8 (← Rtype.kind t))) Tryz.func125 (by kernel_rfl) (by kernel_rfl) (by kernel_rfl) (by kernel_rfl)
 have h37 := @run_callFunc_extern Tryz.prog 239 _ (ReflectliteType.method ReflectliteType.elem) Tryz.func239 (by kernel_rfl) (by kernel_rfl) (by kernel_rfl) (by kernel_rfl)
 have h38 := @run_callFunc_extern Tryz.prog 240 _ (ReflectliteType.relation "Implements" ReflectliteType.implements_) Tryz.func240 (by kernel_rfl) (by kernel_rfl) (by kernel_rfl) (by kernel_rfl)
 have h10 := @run_callFunc_extern Tryz.prog 107 _ ReflectliteType.typeOf Tryz.func107 (by kernel_rfl) (by kernel_rfl) (by kernel_rfl) (by kernel_rfl)
 have h35 := @run_callFunc_extern Tryz.prog 237 _ (ReflectliteType.relation "AssignableTo" ReflectliteType.assignableTo) Tryz.func237 (by kernel_rfl) (by kernel_rfl) (by kernel_rfl) (by kernel_rfl)
 have h11 := @run_callFunc_extern Tryz.prog 108 _ (ReflectliteValue.method (ReflectliteValue.valueError "reflectlite.Value.Elem" 0) ReflectliteValue.elem) Tryz.func108 (by kernel_rfl) (by kernel_rfl) (by kernel_rfl) (by kernel_rfl)
 have h12 := @run_callFunc_extern Tryz.prog 109 _ ReflectliteValue.set Tryz.func109 (by kernel_rfl) (by kernel_rfl) (by kernel_rfl) (by kernel_rfl)
 have tO := as_typeOf25
 have mA := as_methodAssignableTo
 have a25 := as_assignable25
 have v25 := as_valueOf25
 have f6 := as_valueOf27
 have f7 := as_type27
 have mK := as_methodKind
 have mE := as_methodElem
 have mI := as_methodImplements
 have k27 := as_kind27
 have k25 := as_kind25
 have e27 := as_elem27
 have i25 := as_implements25
 have n8 := as_isNil27 ⟨w.heap.size, 0, none⟩ t ((w.alloc (.cells #[.pointer (some t)] 153)).alloc (.cells #[.pointer (some ⟨1, 153, none⟩), .pointer (some ⟨w.heap.size, 0, none⟩), .int .u64 150] 163)) (by simp)
 have hlt : 0 < w.heap.size := World.block_lt_of_cell? w _ hg
 have hg2 : ((w.alloc (.cells #[.pointer (some t)] 153)).alloc (.cells #[.pointer (some ⟨1, 153, none⟩), .pointer (some ⟨w.heap.size, 0, none⟩), .int .u64 150] 163)).cell? ⟨0, 0, none⟩ = some (.iface 176 (.agg #[.pointer (some ⟨1, 62, none⟩)])) := by
  rw [World.cell?_alloc_lt _ _ ⟨0, 0, none⟩ (by simp <;> omega), World.cell?_alloc_lt _ _ ⟨0, 0, none⟩ hlt]; exact hg
 have htl : t.block < w.heap.size := by
  rcases Nat.lt_or_ge t.block w.heap.size with h | h
  ·exact h
  ·simp [World.cell?, Array.getElem?_eq_none h] at ht0
 have el := as_elemV27 ⟨w.heap.size, 0, none⟩ t (((w.alloc (.cells #[.pointer (some t)] 153)).alloc (.cells #[.pointer (some ⟨1, 153, none⟩), .pointer (some ⟨w.heap.size, 0, none⟩), .int .u64 150] 163)).alloc (.cells #[.pointer (some ⟨1, 153, none⟩), .pointer (some ⟨w.heap.size, 0, none⟩), .int .u64 150] 163)) (by rw [World.cell?_alloc_lt _ _ ⟨w.heap.size, 0, none⟩ (by simp; omega)]; simp)
 have st := as_set25 t ⟨w.heap.size + 1 + 1 + 1, 0, none⟩ e old ((((w.alloc (.cells #[.pointer (some t)] 153)).alloc (.cells #[.pointer (some ⟨1, 153, none⟩), .pointer (some ⟨w.heap.size, 0, none⟩), .int .u64 150] 163)).alloc (.cells #[.pointer (some ⟨1, 153, none⟩), .pointer (some ⟨w.heap.size, 0, none⟩), .int .u64 150] 163)).alloc (.cells #[.pointer (some e)] 97))
  (by rw [World.cell?_alloc_at _ _ _ _ (by simp)]; rfl)
  (by rw [World.cell?_alloc_lt _ _ t (by simp; omega), World.cell?_alloc_lt _ _ t (by simp; omega), World.cell?_alloc_lt _ _ t (by simp; omega), World.cell?_alloc_lt _ _ t htl]; exact ht0)
  (by rw [World.frozen?_alloc_old _ _ t (by simp; omega), World.frozen?_alloc_old _ _ t (by simp; omega), World.frozen?_alloc_old _ _ t (by simp; omega), World.frozen?_alloc_old _ _ t (Nat.ne_of_lt htl)]; exact hf0)
 go_enter Tryz.func89, Tryz.ntmps89
 go_wp2
 refine wp_loop_rounds 1 ?_
 rw [rounds_succ]
 go_wp2
 go_ret
 exact ⟨rfl, rfl⟩
def GT (w : World) : Prop := w.cell? ⟨0, 0, none⟩ = some (.iface 176 (.agg #[.pointer (some ⟨1, 62, none⟩)]))
theorem GT.lt {w : World} (h : GT w) : 0 < w.heap.size := World.block_lt_of_cell? w _ h
theorem GT.go {w w' : World} (h : GT w) (hb : Below w.heap.size w w') : GT w' := (hb.cell (p := ⟨0, 0, none⟩) h.lt).trans h
theorem errno_nil (w : World) : Calls Tryz.prog 64 #[.nilIface] w fun e w' => e = .returned (.int .i64 0) ∧ Below w.heap.size w w' := by
 have hA := fun t => as_nil t (w.alloc (.cells #[.pointer none] 97))
 go_enter Tryz.func64, Tryz.ntmps64
 go_wp2_with fail
 refine (hA _).mono ?_
 rintro e w1 ⟨rfl, rfl⟩
 go_wp2_with fail
 go_ret
 exact ⟨rfl, (Below.refl _ w).alloc (Nat.le_refl _) _⟩
theorem errno_fault (v : Value) (no : Int) (w : World) (hg : GT w) (hf : FaultAt w v no) : Calls Tryz.prog 64 #[v] w fun e w' => e = .returned (.int .i64 no) ∧ Below w.heap.size w w' := by
 obtain ⟨b, rfl, hb⟩ := hf
 obtain ⟨W1, hW1, hX1, hB1, hs1⟩ := boxes1 w #[.pointer none] 97
 have hA := as_hit ⟨b, 0, none⟩ ⟨w.heap.size, 0, none⟩ (.pointer none) W1 (hg.go hB1) (cCc hX1 0) (cFz hX1 0)
 obtain ⟨W2, hW2⟩ : ∃ W2, (((W1.alloc (.cells #[.pointer (some ⟨w.heap.size, 0, none⟩)] 153)).alloc (.cells #[.pointer (some ⟨1, 153, none⟩), .pointer (some ⟨W1.heap.size, 0, none⟩), .int .u64 150] 163)).alloc (.cells #[.pointer (some ⟨1, 153, none⟩), .pointer (some ⟨W1.heap.size, 0, none⟩), .int .u64 150] 163)).alloc (.cells #[.pointer (some ⟨b, 0, none⟩)] 97) = W2 := ⟨_, rfl⟩
 have hB2 : Below W1.heap.size W1 W2 := by
  rw [← hW2]
  exact ((((Below.refl _ W1).alloc (Nat.le_refl _) _).alloc (by simp <;> omega) _).alloc (by simp <;> omega) _).alloc (by simp <;> omega) _
 rw [hW2] at hA
 have hX2 := known hB2 (Nat.le_refl _) hX1
 have hbw := (Array.getElem?_eq_some_iff.1 hb).1
 have hb2 := known (hB1.trans (hB2.mono hB1.size)) (Nat.le_refl _) hb
 have hX3 : (W2.setCell ⟨w.heap.size, 0, none⟩ (.pointer (some ⟨b, 0, none⟩))).heap[w.heap.size]? = some (.cells #[.pointer (some ⟨b, 0, none⟩)] 97 (0, 0)) := hSk hX2 _
 have hb3 := (heap_set_other (W := W2) (p := ⟨w.heap.size, 0, none⟩) (b := b) (by show w.heap.size ≠ b; omega) (.pointer (some ⟨b, 0, none⟩))).trans hb2
 have hB3 : Below w.heap.size w (W2.setCell ⟨w.heap.size, 0, none⟩ (.pointer (some ⟨b, 0, none⟩))) := (hB1.trans (hB2.mono hB1.size)).setCell (p := ⟨w.heap.size, 0, none⟩) (Nat.le_refl _) _
 obtain ⟨W3, hW3⟩ : ∃ W3, W2.setCell ⟨w.heap.size, 0, none⟩ (.pointer (some ⟨b, 0, none⟩)) = W3 := ⟨_, rfl⟩
 rw [hW3] at hA hX3 hb3 hB3
 have c0 : W3.cell? ⟨w.heap.size, 0, none⟩ = some (.pointer (some ⟨b, 0, none⟩)) := cCc hX3 0
 have d0 : W3.cell? ⟨b, 0, none⟩ = some (.int .i64 no) := cCc hb3 0
 have HB3 := Lib.hid hB3
 clear hg hb hX1 hB1 hW2 hB2 hX2 hb2 hX3 hb3 hB3 hW3
 go_enter Tryz.func64, Tryz.ntmps64
 go_wp2_with fail
 refine hA.mono ?_
 rintro e w1 ⟨rfl, rfl⟩
 go_wp2_with fail
 go_ret
 exact ⟨rfl, HB3.out⟩
theorem isFull_nil (w : World) : Calls Tryz.prog 66 #[.nilIface] w fun e w' => e = .returned (.bool false) ∧ Below w.heap.size w w' := by
 have hA := errno_nil w
 go_enter Tryz.func66, Tryz.ntmps66
 go_wp2_with fail
 refine hA.mono ?_
 rintro e w1 ⟨rfl, hb⟩
 go_wp2_with fail
 go_ret
 exact ⟨rfl, hb⟩
theorem isFull_fault (v : Value) (no : Int) (w : World) (hg : GT w) (hf : FaultAt w v no) : Calls Tryz.prog 66 #[v] w fun e w' => e = .returned (.bool (no == 60)) ∧ Below w.heap.size w w' := by
 have hA := errno_fault v no w hg hf
 go_enter Tryz.func66, Tryz.ntmps66
 go_wp2_with fail
 refine hA.mono ?_
 rintro e w1 ⟨rfl, hb⟩
 go_wp2_with fail
 go_ret
 exact ⟨rfl, hb⟩
end Go.Proofs.YtcbbenncdainfaaGreatDoor
namespace Go.Proofs.YtcbbenncdainfaaGreatDoor
open Go Go.ChangeShapes Go.WideShapes Go.ChangeAt Go.RowKit Go.Lib Go.Deep Go.Shelf
theorem own : ownKnob Tryz.prog.godebug = none := by kernel_rfl
theorem laidOut : laidOutB Tryz.prog = true := by kernel_rfl
theorem undBool : Tryz.prog.underlying 4 = some .bool := by kernel_rfl
theorem undU64 : Tryz.prog.underlying 43 = some (.int .u64) := by kernel_rfl
theorem undStr : Tryz.prog.underlying 9 = some .string := by kernel_rfl
theorem undInt : Tryz.prog.underlying 3 = some (.int .i64) := by kernel_rfl
theorem and2 {a b : Bool} (ha : a = true) (hb : b = true) : (a && b) = true := by rw [ha, hb]; rfl
theorem pfMaps : mapsRowed Tryz.pinned.checked.prog = true := by kernel_rfl
theorem pfOut : laidOutB Tryz.pinned.checked.prog = true := by kernel_rfl
theorem pfStops : (Tryz.pinned.checked.prog.stops == []) = true := by kernel_rfl
theorem pfKnobs : (Tryz.pinned.checked.prog.stopKnobs == []) = true := by kernel_rfl
theorem pfHeard : Tryz.pinned.checked.prog.stopsHeard = true := by kernel_rfl
theorem pfEnter : Tryz.pinned.checked.prog.mayEnter = true := by kernel_rfl
theorem pfKeys : (Rows.ladderMergesRow.plainKeys == Tryz.pinned.checked.prog.plainKeys) = true := by kernel_rfl
theorem pfLift : (Rows.ladderMergesRow.lifted == Tryz.pinned.checked.prog.liftsFinal) = true := by kernel_rfl
theorem pfMake : (Tryz.pinned.checked.prog.make == some Rows.ladderMergesRow.make) = true := by kernel_rfl
theorem gET : Tryz.prog.globalNamed "errors.errorType" = some 0 := by kernel_rfl
theorem rtCut : (Tryz.prog.cutTypes.find? (·.1 == "internal/reflectlite.rtype")).map (·.2) = some 176 := by kernel_rfl
theorem oneRow : ((List.range 292).filter fun t => Tryz.prog.rowNamed t [101, 114, 114, 111, 114]) = [62] := by kernel_rfl
theorem typesSize : Tryz.prog.types.size = 292 := by kernel_rfl
theorem gt_of {W : World} (h : handlesMet Tryz.prog [("errors.errorType", Rows.laid_errors_errorType)] W) : GT W := by
 obtain ⟨name, u, ty, e1, e2, e3, e4, e5⟩ := h _ (List.mem_singleton.2 rfl)
 have en : name = [101, 114, 114, 111, 114] := (Option.some.inj e1).symm
 subst en
 obtain rfl := Option.some.inj (rtCut.symm.trans e2)
 have hm : ty ∈ (List.range 292).filter fun t => Tryz.prog.rowNamed t [101, 114, 114, 111, 114] := List.mem_filter.2 ⟨List.mem_range.2 (by rw [← typesSize]; exact e3), e4⟩
 rw [oneRow] at hm
 obtain rfl := List.mem_singleton.1 hm
 have hh : typeHandle Tryz.prog 62 = .pointer (some ⟨1, 62, none⟩) := by kernel_rfl
 rw [hh] at e5
 have h9 := World.var?_cell gET e5 0
 simp at h9
 exact h9
section
variable {H : Type} {enc : TypeId × Value → H} {w : World} {base : Nat} {held : Bool}
theorem fields_of {P : Program} {t : TypeId} {fs : Array Field} {fuel : Nat} {cs : List Value} {x : DataW H × List MemPlace} (ht : P.underlying t = some (.struct fs)) (h : DataW.trod enc P w base (fun _ => true) held fuel t cs = some x) :
  cs.length = P.cellsOf t ∧ ∃ n, ∀ (i : Nat) (f : Field), fs[i]? = some f → ∃ y, DataW.trod enc P w base (fun _ => true) held n f.type ((cs.drop f.offset).take (P.cellsOf f.type)) = some y := by
 obtain ⟨xs, n, _, _, hl, hx, hf⟩ := DataW.trod_struct ht h
 refine ⟨hl, n, fun i f hi => ?_⟩
 have h1 := hf i f hi
 have h2 := (Array.getElem?_eq_some_iff.1 hi).1
 rw [List.getElem?_eq_getElem (by omega)] at h1
 exact ⟨_, h1⟩
theorem SlC.map {α β : Type} {encA : β → List Value} {k n : Nat} {a : Option Addr} {len cap : Nat} {f : α → β} {l : List α} (h : SlC (fun x => encA (f x)) k n w a len cap l) : SlC encA k n w a len cap (l.map f) :=
 ⟨⟨by rw [List.length_map]; exact h.1.1, fun j x hx => by rw [List.getElem?_map] at hx; obtain ⟨y, hy, rfl⟩ := Option.map_eq_some_iff.1 hx; exact h.1.2 j y hy⟩, h.2⟩
theorem slC_open {P : Program} {α : Type} {t e : TypeId} {k : Nat} {encA : α → List Value} {Q : α → Prop} (hk : 0 < k) (ht : P.underlying t = some (.slice e)) (hc : P.cellsOf e = k)
  (hel : ∀ n cs x, DataW.trod enc P w base (fun _ => true) held n e cs = some x → ∃ y, cs = encA y ∧ Q y) {fuel : Nat} {v : Value} {x : DataW H × List MemPlace}
  (h : DataW.trod enc P w base (fun _ => true) held fuel t [v] = some x) : ∃ a len cap l, v = .slice a len cap ∧ SlC encA k w.heap.size w a len cap l ∧ ∀ y ∈ l, Q y := by
 obtain ⟨a, len, cap, rfl⟩ : ∃ a len cap, v = .slice a len cap := by
  rcases open_slice ht h with ⟨h0, _⟩ | ⟨a', len', cap', m, n, D, Pl, hcs, -⟩
  ·simp only [List.cons.injEq, and_true] at h0; exact ⟨_, _, _, h0⟩
  ·simp only [List.cons.injEq, and_true] at hcs; exact ⟨_, _, _, hcs⟩
 obtain ⟨l, hl⟩ := slC_of_trod (encA := fun y : { y // Q y } => encA y.1) hk ht hc (fun n cs x hx => by obtain ⟨y, h1, h2⟩ := hel n cs x hx; exact ⟨⟨y, h2⟩, h1⟩) h
 refine ⟨a, len, cap, l.map (·.1), rfl, hl.map, fun y hy => ?_⟩
 obtain ⟨z, _, rfl⟩ := List.mem_map.1 hy
 exact z.2
theorem wf_u64 {n : Int} (w0 : (Lit.int .u64 n).wf = true) : U64 n := by
 simp only [Lit.wf, IntKind.min, IntKind.max, IntKind.signed, IntKind.bits, Bool.and_eq_true] at w0
 exact ⟨by simpa using w0.1, by have := w0.2; simp at this; omega⟩
theorem wf_i64 {n : Int} (w0 : (Lit.int .i64 n).wf = true) : I64 n := by
 simp only [Lit.wf, IntKind.min, IntKind.max, IntKind.signed, IntKind.bits, Bool.and_eq_true] at w0
 exact ⟨by have := w0.1; simp at this; omega, by have := w0.2; simp at this; omega⟩
theorem u64_elem (n : Nat) (cs : List Value) (x : DataW H × List MemPlace) (h : DataW.trod enc Tryz.prog w base (fun _ => true) held n 43 cs = some x) : ∃ y : Int, cs = encU y ∧ U64 y := by
 obtain ⟨s0, c0, -, w0⟩ := DataW.trod_int undU64 h
 exact ⟨s0, c0, wf_u64 w0⟩
theorem bin_elem (n : Nat) (cs : List Value) (x : DataW H × List MemPlace) (h : DataW.trod enc Tryz.prog w base (fun _ => true) held n 123 cs = some x) : ∃ y : Int × Int, cs = encB y ∧ (I64 y.1 ∧ U64 y.2) := by
 obtain ⟨hl, m, hf⟩ := struct_cells Tryz.underlying123 (by kernel_rfl) (by kernel_rfl) h
 obtain ⟨v0, y0, e0, h0⟩ := hf 0 _ rfl
 obtain ⟨v1, y1, e1, h1⟩ := hf 1 _ rfl
 obtain ⟨s0, c0, -, w0⟩ := DataW.trod_int undInt h0
 obtain ⟨s1, c1, -, w1⟩ := DataW.trod_int undU64 h1
 match cs, hl with
 | [a, b], _ =>
  simp only [List.getElem?_cons_zero, List.getElem?_cons_succ, Option.some.injEq, List.cons.injEq, and_true] at e0 e1 c0 c1
  exact ⟨(s0, s1), by rw [e0, e1, c0, c1]; rfl, wf_i64 w0, wf_u64 w1⟩
end
def eT : String × DataW Unit := ("errors.errorType", Rows.laid_errors_errorType)
def laidL : List (String × DataW Unit) := [eT]
theorem metL {W : World} (h : laidMetH Tryz.prog laidL W) : handlesMet Tryz.prog [eT] W := by
 have h' : laidMet Tryz.prog [] W ∧ handlesMet Tryz.prog [eT] W := h
 exact h'.2
def typeCell : Obj → Obj
 | .cells _ t frozen => .cells #[.iface 176 (.agg #[.pointer (some ⟨1, 62, none⟩)])] t frozen
 | o => o
noncomputable def laidWorldL (os : Os) : World :=
 let w0 := World.holding Tryz.prog os ⟨#[], #[], []⟩
 { w0 with heap := w0.heap.modify 0 typeCell }
theorem laid_metL (os : Os) (args : Array Value) : laidMetH Tryz.prog laidL ((laidWorldL os).forCall (fun _ _ => 0) ⟨#[], args, []⟩).memory :=
 laidMetH_of_parts (laidMet_nil _ _) (by kernel_rfl)
end Go.Proofs.YtcbbenncdainfaaGreatDoor
namespace Go.Proofs.YtcbbenncdainfaaGreatDoor
open Go Go.RowKit Go.Shelf
theorem hist_run (f : Nat) : ∀ (l : List (Int × Int)) (last : Int), BinUp l → (∀ b ∈ l, last < b.1) → (∀ b ∈ l, b.2 ≠ 0) → (∀ b ∈ l, boundsB f b.1 = true) → (foldO (histStep f) last l).isSome = true
 | [], last, _, _, _, _ => by simp [foldO_nil]
 | b :: t, last, hu, h1, h2, h3 => by
  obtain ⟨u1, u2⟩ := binUp_tail hu
  have hs : histStep f last b = some b.1 := by
   unfold histStep
   have a1 := h1 b List.mem_cons_self
   have a2 := h2 b List.mem_cons_self
   have a3 := h3 b List.mem_cons_self
   rw [if_neg]
   simp [a2, a3]
   omega
  rw [foldO_cons, hs]
  exact hist_run f t b.1 u1 u2 (fun c hc => h2 c (List.mem_cons_of_mem _ hc)) (fun c hc => h3 c (List.mem_cons_of_mem _ hc))
theorem hiRight_of (f : Nat) (l : List (Int × Int)) (hf : f ≤ 3) (hu : BinUp l) (h2 : ∀ b ∈ l, b.2 ≠ 0) (h3 : ∀ b ∈ l, boundsB f b.1 = true) : hiRight f l = true := by
 unfold hiRight
 rw [isFine_nat f hf, hist_run f l (-1) hu (fun b hb => by have := bounds_le f hf b.1 (h3 b hb); omega) h2 h3]
 rfl
theorem up_fin : ∀ (l : List (Int × Int)) (lo : Int), BinUp l → (∀ b ∈ l, lo < b.1) → (∀ b ∈ l, b.1 ≤ 512) → lo ≤ 512 → (l.length : Int) ≤ 512 - lo
 | [], lo, _, _, _, h => by simp; omega
 | b :: t, lo, hu, h1, h2, h => by
  obtain ⟨u1, u2⟩ := binUp_tail hu
  have a1 := h1 b List.mem_cons_self
  have a2 := h2 b List.mem_cons_self
  have := up_fin t b.1 u1 u2 (fun c hc => h2 c (List.mem_cons_of_mem _ hc)) a2
  simp only [List.length_cons]
  omega
theorem bins_len (f : Nat) (l : List (Int × Int)) (hf : f ≤ 3) (hu : BinUp l) (h3 : ∀ b ∈ l, boundsB f b.1 = true) : l.length ≤ 513 := by
 have := up_fin l (-1) hu (fun b hb => by have := bounds_le f hf b.1 (h3 b hb); omega) (fun b hb => (bounds_le f hf b.1 (h3 b hb)).2) (by omega)
 omega
theorem bins_i64 (f : Nat) (l : List (Int × Int)) (hf : f ≤ 3) (h3 : ∀ b ∈ l, boundsB f b.1 = true) : ∀ b ∈ l, I64 b.1 := fun b hb => by have := bounds_le f hf b.1 (h3 b hb); unfold I64; omega
theorem cols_of {c level : Nat} (h : c * 2 ^ level = 32) (hl : level ≤ 3) : c = 4 ∨ c = 8 ∨ c = 16 ∨ c = 32 := by
 rcases (by omega : level = 0 ∨ level = 1 ∨ level = 2 ∨ level = 3) with rfl | rfl | rfl | rfl <;> simp at h <;> omega
theorem cols_low {c level : Nat} (h : c * 2 ^ level = 32) (hl : level < 3) : c = 8 ∨ c = 16 ∨ c = 32 := by
 rcases (by omega : level = 0 ∨ level = 1 ∨ level = 2) with rfl | rfl | rfl <;> simp at h <;> omega
theorem m_add_num (x : Value) (w : World) : (method 392 144 (.agg #[x]) "aviary/ladder.add").run Tryz.prog w = .ok (130, .agg #[x]) w := by kernel_rfl
theorem m_add_reg (x y : Value) (w : World) : (method 392 147 (.agg #[x, y]) "aviary/ladder.add").run Tryz.prog w = .ok (160, .agg #[x, y]) w := by kernel_rfl
theorem m_add_cnt (x y z : Value) (w : World) : (method 392 148 (.agg #[x, y, z]) "aviary/ladder.add").run Tryz.prog w = .ok (170, .agg #[x, y, z]) w := by kernel_rfl
theorem m_add_bkt (x y : Value) (w : World) : (method 392 150 (.agg #[x, y]) "aviary/ladder.add").run Tryz.prog w = .ok (189, .agg #[x, y]) w := by kernel_rfl
theorem m_low_num (x : Value) (w : World) : (method 392 144 (.agg #[x]) "aviary/ladder.lower").run Tryz.prog w = .ok (133, .agg #[x]) w := by kernel_rfl
theorem m_low_reg (x y : Value) (w : World) : (method 392 147 (.agg #[x, y]) "aviary/ladder.lower").run Tryz.prog w = .ok (163, .agg #[x, y]) w := by kernel_rfl
theorem m_low_cnt (x y z : Value) (w : World) : (method 392 148 (.agg #[x, y, z]) "aviary/ladder.lower").run Tryz.prog w = .ok (173, .agg #[x, y, z]) w := by kernel_rfl
theorem m_low_bkt (x y : Value) (w : World) : (method 392 150 (.agg #[x, y]) "aviary/ladder.lower").run Tryz.prog w = .ok (192, .agg #[x, y]) w := by kernel_rfl
theorem add_at {w : World} {v : Value} {B : Bd} {kind level : Nat} (hb : BdAt w v B) (hok : B.Ok kind level) : ∃ T rv f, v = .iface T rv ∧ (∀ W, (method 392 T rv "aviary/ladder.add").run Tryz.prog W = .ok (f, rv) W) ∧ (∀ args W, (callFunc f args).run Tryz.prog W = .ok (.enter f args) W) ∧
  ∀ W (h : Nat) (n : Int), BdAt W v B → h < 2 ^ 64 → U64 n → Calls Tryz.prog f #[rv, .agg #[.int .u64 h, .int .u64 n]] W (BodyPost (B.add h n) W) := by
 cases B with
 | num l =>
  obtain ⟨a, len, cap, rfl, -⟩ := hb
  obtain ⟨-, -, o3, o4, o5⟩ := hok
  refine ⟨_, _, _, rfl, fun W => m_add_num _ W, enters_of Tryz.func130 (by kernel_rfl) rfl, fun W h n hW hh hn => ?_⟩
  obtain ⟨a', len', cap', e, hS⟩ := hW
  cases e
  exact add_num l a len cap h n W hS (up_right l o3 o4)
 | reg b r =>
  obtain rfl : v = _ := hb
  obtain ⟨-, o2, o3, o4, o5, o6⟩ := hok
  refine ⟨_, _, _, rfl, fun W => m_add_reg _ _ W, enters_of Tryz.func160 (by kernel_rfl) rfl, fun W h n hW hh hn => ?_⟩
  exact add_reg b r h n W (by omega) (by omega) o5 o6 hh
 | cnt c l =>
  obtain ⟨a, len, cap, rfl, -⟩ := hb
  obtain ⟨-, o2, o3, o4, o5⟩ := hok
  refine ⟨_, _, _, rfl, fun W => m_add_cnt _ _ _ W, enters_of Tryz.func170 (by kernel_rfl) rfl, fun W h n hW hh hn => ?_⟩
  obtain ⟨a', len', cap', e, hS⟩ := hW
  cases e
  exact add_cnt c l a len cap h n W (cols_of o3 o2) hS o4 o5 hh hn
 | bkt f l =>
  obtain ⟨a, len, cap, rfl, -⟩ := hb
  obtain ⟨-, o2, o3, o4, o5, o6, o7⟩ := hok
  refine ⟨_, _, _, rfl, fun W => m_add_bkt _ _ W, enters_of Tryz.func189 (by kernel_rfl) rfl, fun W h n hW hh hn => ?_⟩
  obtain ⟨a', len', cap', e, hS⟩ := hW
  cases e
  have hf : f ≤ 3 := by omega
  exact add_bkt f l a len cap h n W hf hS (hiRight_of f l hf o4 o5 o7) o4 o6 (by have := bins_len f l hf o4 o7; omega) (bins_i64 f l hf o7) hh hn
theorem lower_at {w : World} {v : Value} {B : Bd} {kind level : Nat} (hb : BdAt w v B) (hok : B.Ok kind level) (hlv : level < botN kind) : ∃ T rv f, v = .iface T rv ∧ (∀ W, (method 392 T rv "aviary/ladder.lower").run Tryz.prog W = .ok (f, rv) W) ∧ (∀ args W, (callFunc f args).run Tryz.prog W = .ok (.enter f args) W) ∧
  ∀ W, BdAt W v B → Calls Tryz.prog f #[rv] W (BodyPost (some B.low) W) := by
 cases B with
 | num l =>
  obtain ⟨a, len, cap, rfl, -⟩ := hb
  obtain ⟨-, -, o3, o4, o5⟩ := hok
  refine ⟨_, _, _, rfl, fun W => m_low_num _ W, enters_of Tryz.func133 (by kernel_rfl) rfl, fun W hW => ?_⟩
  obtain ⟨a', len', cap', e, hS⟩ := hW
  cases e
  exact low_num l a len cap W hS o5 (by omega)
 | reg b r =>
  obtain rfl : v = _ := hb
  obtain ⟨o1, o2, o3, o4, o5, o6⟩ := hok
  subst o1
  have : botN 1 = 4 := rfl
  refine ⟨_, _, _, rfl, fun W => m_low_reg _ _ W, enters_of Tryz.func163 (by kernel_rfl) rfl, fun W hW => ?_⟩
  exact low_reg b r W (by omega) (by omega) o5 o6
 | cnt c l =>
  obtain ⟨a, len, cap, rfl, -⟩ := hb
  obtain ⟨o1, o2, o3, o4, o5⟩ := hok
  subst o1
  have : botN 2 = 3 := rfl
  refine ⟨_, _, _, rfl, fun W => m_low_cnt _ _ _ W, enters_of Tryz.func173 (by kernel_rfl) rfl, fun W hW => ?_⟩
  obtain ⟨a', len', cap', e, hS⟩ := hW
  cases e
  exact low_cnt c l a len cap W (cols_low o3 (by omega)) hS o4 o5
 | bkt f l =>
  obtain ⟨a, len, cap, rfl, -⟩ := hb
  obtain ⟨o1, o2, o3, o4, o5, o6, o7⟩ := hok
  subst o1
  have : botN 3 = 3 := rfl
  refine ⟨_, _, _, rfl, fun W => m_low_bkt _ _ W, enters_of Tryz.func192 (by kernel_rfl) rfl, fun W hW => ?_⟩
  obtain ⟨a', len', cap', e, hS⟩ := hW
  cases e
  have hf : f ≤ 3 := by omega
  exact low_bkt f l a len cap W (by omega) hf hS (hiRight_of f l hf o4 o5 o7) o7 o6 (by have := bins_len f l hf o4 o7; omega)
end Go.Proofs.YtcbbenncdainfaaGreatDoor
namespace Go.Proofs.YtcbbenncdainfaaGreatDoor
open Go Go.RowKit Go.Shelf
theorem bot_eq {B : Bd} {kind level : Nat} (h : B.Ok kind level) : bottomB (kind : Int) = (botN kind : Int) ∧ level ≤ botN kind := by
 cases B with
 | num l => obtain ⟨rfl, rfl, -⟩ := h; exact ⟨rfl, by decide⟩
 | reg b r => obtain ⟨rfl, -, h, -⟩ := h; exact ⟨rfl, h⟩
 | cnt c l => obtain ⟨rfl, h, -⟩ := h; exact ⟨rfl, h⟩
 | bkt f l => obtain ⟨rfl, h, -⟩ := h; exact ⟨rfl, h⟩
theorem bd_iface {W : World} {v : Value} {B : Bd} (h : BdAt W v B) : ∃ T rv, v = .iface T rv := by
 cases B with
 | num l => obtain ⟨a, len, cap, rfl, -⟩ := h; exact ⟨_, _, rfl⟩
 | reg b r => exact ⟨_, _, h⟩
 | cnt c l => obtain ⟨a, len, cap, rfl, -⟩ := h; exact ⟨_, _, rfl⟩
 | bkt f l => obtain ⟨a, len, cap, rfl, -⟩ := h; exact ⟨_, _, rfl⟩
def OnlyAt (b : Nat) (W V : World) : Prop := V.heap.size = W.heap.size ∧ ∀ k, k ≠ b → V.heap[k]? = W.heap[k]?
theorem OnlyAt.refl (b : Nat) (W : World) : OnlyAt b W W := ⟨rfl, fun _ _ => rfl⟩
theorem OnlyAt.set {b : Nat} {W V : World} (h : OnlyAt b W V) (o : Nat) (v : Value) : OnlyAt b W (V.setCell ⟨b, o, none⟩ v) := ⟨(size_set V _ v).trans h.1, fun k hk => (heap_set_other (p := ⟨b, o, none⟩) (fun e => hk e.symm) v).trans (h.2 k hk)⟩
theorem slC_apart {α : Type} {enc : α → List Value} {k i0 : Nat} (hi : i0 < k) (hu : ∀ x, ∃ u, (enc x)[i0]? = some (.int .u64 u)) {W V : World} {b : Nat} {cs : Array Value} {t : TypeId} (hX : W.heap[b]? = some (.cells cs t (0, 0))) (hc : ∀ (i : Nat) (u : Int), cs[i]? ≠ some (Value.int .u64 u)) (hV : OnlyAt b W V)
  {a : Option Addr} {len cap : Nat} {l : List α} (h : SlC enc k W.heap.size W a len cap l) : SlC enc k V.heap.size V a len cap l := by
 rw [hV.1]
 refine ⟨⟨h.1.1, fun j x hx => ?_⟩, h.2⟩
 obtain ⟨g, off, e, hg, hcell⟩ := h.1.2 j x hx
 have hne : g ≠ b := fun e => by
  subst e
  obtain ⟨u, hu⟩ := hu x
  have h1 := hcell i0 hi
  rw [hu, cCc hX] at h1
  exact hc _ u h1
 exact ⟨g, off, e, hg, fun i hi => (World.cell?_of_block (show V.heap[g]? = W.heap[g]? from hV.2 g hne)).trans (hcell i hi)⟩
theorem BdAt.apart {W V : World} {v : Value} {B : Bd} (h : BdAt W v B) {b : Nat} {cs : Array Value} {t : TypeId} (hX : W.heap[b]? = some (.cells cs t (0, 0))) (hc : ∀ (i : Nat) (u : Int), cs[i]? ≠ some (Value.int .u64 u)) (hV : OnlyAt b W V) : BdAt V v B := by
 cases B with
 | num l => obtain ⟨a, len, cap, h1, h2⟩ := h; exact ⟨a, len, cap, h1, slC_apart (i0 := 0) (by decide) (fun x => ⟨x, rfl⟩) hX hc hV h2⟩
 | reg b r => exact h
 | cnt c l => obtain ⟨a, len, cap, h1, h2⟩ := h; exact ⟨a, len, cap, h1, slC_apart (i0 := 0) (by decide) (fun x => ⟨x, rfl⟩) hX hc hV h2⟩
 | bkt f l => obtain ⟨a, len, cap, h1, h2⟩ := h; exact ⟨a, len, cap, h1, slC_apart (i0 := 1) (by decide) (fun x => ⟨x.2, rfl⟩) hX hc hV h2⟩
theorem no_u64 {i : Nat} {x y z : Value} (hx : ∀ u, x ≠ .int .u64 u) (hy : ∀ u, y ≠ .int .u64 u) (hz : ∀ u, z ≠ .int .u64 u) (u : Int) : (#[x, y, z] : Array Value)[i]? ≠ some (.int .u64 u) := by
 intro h
 rcases i with _ | _ | _ | i
 ·exact hx u (by simpa using h)
 ·exact hy u (by simpa using h)
 ·exact hz u (by simpa using h)
 ·simp at h
theorem drewN_below {w : World} (n : Nat) : Below w.heap.size w (w.drewN n) := bDr (Below.refl _ _) n
set_option maxRecDepth 100000 in
set_option maxHeartbeats 2000000 in
theorem lowered_any (v : Value) (B : Bd) (kind level : Nat) (w : World) (hb : BdAt w v B) (hok : B.Ok kind level) (hlv : level < botN kind) :
  Calls Tryz.prog 39 #[.agg #[v, .int .i64 kind, .int .i64 level]] w fun e w' => ∃ v', e = .returned (.tuple #[.agg #[v', .int .i64 kind, .int .i64 ((level : Int) + 1)], .nilIface]) ∧ BdAt w' v' B.low ∧ Below w.heap.size w w' := by
 obtain ⟨T, rv, f, rfl, hm, hcf, hc⟩ := lower_at hb hok hlv
 obtain ⟨W0, hW0, hXp, hXr, hB0, hs0⟩ := boxes2 w #[.iface T rv, .int .i64 kind, .int .i64 level] 60 #[.nilIface, .int .i64 0, .int .i64 0] 60
 have HBT : Hid (∀ w, Calls Tryz.prog 21 #[.int .i64 kind] w fun e w' => e = .returned (.int .i64 (botN kind : Nat)) ∧ w' = w) := fun w => (Bottom_any kind w).mono fun e w' ⟨h1, h2⟩ => ⟨by rw [h1, (bot_eq hok).1], h2.symm⟩
 obtain ⟨c0, c1, c2⟩ := cl3 hXp
 have HXP := Lib.hid hXp
 have HXR := Lib.hid hXr
 have HB0 := Lib.hid hB0
 have HB := Lib.hid (hb.go hB0)
 have HC := Lib.hid hc
 have t1 : decide ((botN kind : Int) ≤ (level : Int)) = false := by simp; omega
 have hb4 : botN kind ≤ 4 := by unfold botN; split <;> omega
 clear hXp hXr hB0 hb hc hok
 go_enter Tryz.func39, Tryz.ntmps39
 go_wp2_with fail
 go_quiet ((go_at_call 21; exact Calls.quiet_of_same (HBT.out _)))
 go_wp2_with fail
 have hB1 := drewN_below (w := W0) nq
 refine (HC.out _ (HB.out.go hB1)).mono ?_
 rintro e w1 ⟨hb1, v', rfl, hv1⟩
 obtain ⟨T', rv', rfl⟩ := bd_iface hv1
 have hX1 := known (hB1.trans hb1) (Nat.le_refl _) HXP.out
 have hR1 := known (hB1.trans hb1) (Nat.le_refl _) HXR.out
 have hB01 : Below w.heap.size w w1 := HB0.out.trans ((hB1.trans hb1).mono HB0.out.size)
 have hw1 : wrap64 ((level : Int) + 1) = (level : Int) + 1 := by unfold wrap64; omega
 have hw2 : IntKind.i64.wrap ((level : Int) + 1) = ((level : Int) + 1) := IntWalk.i64_in _ (by omega)
 obtain ⟨d0, d1, d2⟩ := cl3 hX1
 obtain ⟨r0, r1, r2⟩ := cl3 hR1
 obtain ⟨g0, g1, g2⟩ := cz3 hR1
 have hX6 := set_cells3 (u := .iface T' rv') (v := .int .i64 kind) (q := .int .i64 ((level : Int) + 1)) hR1
 have hB6 := ((hB01.setCell (p := ⟨w.heap.size + 1, 0, none⟩) (Nat.le_succ _) (.iface T' rv')).setCell (p := ⟨w.heap.size + 1, 1, none⟩) (Nat.le_succ _) (.int .i64 kind)).setCell (p := ⟨w.heap.size + 1, 2, none⟩) (Nat.le_succ _) (.int .i64 ((level : Int) + 1))
 have HV : Hid (BdAt w1 (.iface T' rv') B.low) := hv1
 have HR1 := Lib.hid hR1
 clear hX1 hR1 hB01 hv1 hb1 hB1
 go_wp2_with fail
 have hgV : BdAt (((w1.setCell ⟨w.heap.size + 1, 0, none⟩ (.iface T' rv')).setCell ⟨w.heap.size + 1, 1, none⟩ (.int .i64 kind)).setCell ⟨w.heap.size + 1, 2, none⟩ (.int .i64 ((level : Int) + 1))) (.iface T' rv') B.low := BdAt.apart (B := B.low) HV.out HR1.out (fun i u => no_u64 (by simp) (by simp) (by simp) u) ((((OnlyAt.refl _ _).set _ _).set _ _).set _ _)
 generalize ((w1.setCell ⟨w.heap.size + 1, 0, none⟩ (.iface T' rv')).setCell ⟨w.heap.size + 1, 1, none⟩ (.int .i64 kind)).setCell ⟨w.heap.size + 1, 2, none⟩ (.int .i64 ((level : Int) + 1)) = V at hX6 hB6 hgV ⊢
 obtain ⟨k0, k1, k2⟩ := cl3 hX6
 exact bodyPost_ret (v := .tuple #[.agg #[.iface T' rv', .int .i64 kind, .int .i64 ((level : Int) + 1)], .nilIface]) (by simp [results, Tryz.f39, go_sem, k0, k1, k2]) rfl ⟨_, rfl, hgV, hB6⟩
end Go.Proofs.YtcbbenncdainfaaGreatDoor

/- Package ladder: the four bodies' add and lower; told. -/
import Derived.Test.YtmkefodaibmkhaaGreatDoorZGH
import Derived.Test.YtmkefodaibmkhaaGreatDoorZHF
import Derived.Test.YtmkefodaibmkhaaGreatDoorZCG
import Derived.Test.YtmkefodaibmkhaaGreatDoorZEF
import Derived.Test.YtmkefodaibmkhaaGreatDoorZXL
namespace Go.Proofs.YtmkefodaibmkhaaGreatDoor
open Go Go.RowKit Go.Shelf

/-- A body as a value. -/
def BdAt (W : World) (v : Value) : Bd → Prop
  | .num l => ∃ a len cap, v = .iface 184 (.agg #[.slice a len cap]) ∧ SlC encU 1 W.heap.size W a len cap l
  | .reg b r => v = .iface 187 (.agg #[.int .i64 b, .string (hlStr r)])
  | .cnt c l => ∃ a len cap, v = .iface 188 (.agg #[.int .i64 2, .int .i64 c, .slice a len cap]) ∧ SlC encU 1 W.heap.size W a len cap l
  | .bkt f l => ∃ a len cap, v = .iface 190 (.agg #[.int .i64 f, .slice a len cap]) ∧ SlC encB 2 W.heap.size W a len cap l
theorem BdAt.go {W W' : World} {v : Value} {B : Bd} (h : BdAt W v B) (hb : Below W.heap.size W W') : BdAt W' v B := by
  cases B with
  | num l => obtain ⟨a, len, cap, h1, h2⟩ := h; exact ⟨a, len, cap, h1, h2.go hb⟩
  | reg b r => exact h
  | cnt c l => obtain ⟨a, len, cap, h1, h2⟩ := h; exact ⟨a, len, cap, h1, h2.go hb⟩
  | bkt f l => obtain ⟨a, len, cap, h1, h2⟩ := h; exact ⟨a, len, cap, h1, h2.go hb⟩
/-- An error of a number. -/
def FaultAt (W : World) (v : Value) (no : Int) : Prop := ∃ b, v = .iface 129 (.pointer (some ⟨b, 0, none⟩)) ∧ W.heap[b]? = some (.cells #[.int .i64 no] 131 (0, 0))
/-- What a body's method hands back. -/
def BodyPost (o : Option Bd) (w : World) (e : Ending) (w' : World) : Prop := Below w.heap.size w w' ∧ match o with
  | some B => ∃ v, e = .returned (.tuple #[v, .nilIface]) ∧ BdAt w' v B
  | none => ∃ v, e = .returned (.tuple #[.nilIface, v]) ∧ FaultAt w' v 60
theorem told_ok (v : Value) (w : World) : Calls Tryz.prog 172 #[v, .int .i64 0] w fun e w' => e = .returned (.tuple #[v, .nilIface]) ∧ w' = w := by
  go_enter Tryz.func172, Tryz.ntmps172
  go_wp2
  exact bodyPost_ret (v := .tuple #[v, .nilIface]) (by simp [results, Tryz.f172, go_sem]) rfl ⟨rfl, rfl⟩
theorem told_no (v : Value) (w : World) : Calls Tryz.prog 172 #[v, .int .i64 60] w fun e w' => e = .returned (.tuple #[.nilIface, .iface 129 (.pointer (some ⟨w.heap.size, 0, none⟩))]) ∧ w' = w.alloc (.cells #[.int .i64 60] 131) := by
  go_enter Tryz.func172, Tryz.ntmps172
  go_wp2
  exact bodyPost_ret (v := .tuple #[.nilIface, .iface 129 (.pointer (some ⟨w.heap.size, 0, none⟩))]) (by simp [results, Tryz.f172, go_sem]) rfl ⟨rfl, rfl⟩
theorem nat_u64 {h : Nat} (hh : h < 2 ^ 64) : U64 (h : Int) := by unfold U64; omega
theorem shape_any (c : Nat) (hc : c = 4 ∨ c = 8 ∨ c = 16 ∨ c = 32) : isShapeB 2 (c : Int) = true := by rcases hc with rfl | rfl | rfl | rfl <;> decide +kernel
theorem nums_slC {W : World} {g n : Nat} {l : List Int} (h : NumsAt W g l) (hn : l.length = n) (hm : n ≤ maxLen) : SlC encU 1 W.heap.size W (some ⟨g, 0, none⟩) n n l := by
  refine ⟨⟨hn.symm, fun j x hx => ⟨g, 0, rfl, h.lt, fun i hi => ?_⟩⟩, Nat.le_refl _, hm, (fun e => by cases e), fun x hx _ => by cases hx; exact ⟨rfl, h.lt⟩⟩
  obtain rfl : i = 0 := by omega
  have hj : j < l.length := (List.getElem?_eq_some_iff.1 hx).1
  rw [show (0 + j * 1 + 0) = j by omega, h.cell hj]
  have : l.getD j 0 = x := by rw [List.getD_eq_getElem?_getD, hx]; rfl
  rw [this]
  rfl
set_option maxRecDepth 100000 in
set_option maxHeartbeats 1000000 in
theorem add_num (l : List Int) (a : Option Addr) (len cap h : Nat) (n : Int) (w : World) (hS : SlC encU 1 w.heap.size w a len cap l) (hr : exRight l = true) :
    Calls Tryz.prog 166 #[.agg #[.slice a len cap], .agg #[.int .u64 h, .int .u64 n]] w (BodyPost ((Bd.num l).add h n) w) := by
  obtain ⟨W0, hW0, hXb, hXi, hB0, hs0⟩ := boxes2 w #[.slice a len cap] 184 #[.int .u64 h, .int .u64 n] 52
  have d0 : W0.cell? ⟨w.heap.size + 1, 0, none⟩ = some (.int .u64 h) := cell_of_cells hXi 0
  have d1 : W0.cell? ⟨w.heap.size + 1, 1, none⟩ = some (.int .u64 n) := cell_of_cells hXi 1
  have c0 : W0.cell? ⟨w.heap.size, 0, none⟩ = some (.slice a len cap) := cell_of_cells hXb 0
  have HA := exAdd_any l a len cap (h : Int) W0 ((hS.1.below hB0).mono hB0.size) (fun e => by have := hS.2.2.2.1 e; have := hS.2.1; omega)
  have hex : exAdd l (h : Int) = exGather l [(h : Int)] := by unfold exAdd; rw [if_pos hr]
  rw [hex] at HA
  have HB0 := Lib.hid hB0
  clear hXb hB0 hXi hS hr hex
  show Calls _ _ _ _ (BodyPost ((exGather l [(h : Int)]).map .num) w)
  generalize exGather l [(h : Int)] = o at HA ⊢
  cases o with
  | some m =>
    obtain ⟨P, hP⟩ : ∃ P, BodyPost ((some m).map .num) w = P := ⟨_, rfl⟩
    have HP := Lib.hid hP
    rw [hP]
    clear hP
    go_enter Tryz.func166, Tryz.ntmps166
    go_wp2_with fail
    refine HA.mono ?_
    rintro e w1 ⟨hb1, a', cap', rfl, hS1, -⟩
    obtain ⟨W2, hW2, hX2, hB2, hs2⟩ := boxes1 w1 #[.slice a' m.length cap'] 27
    have q0 : W2.cell? ⟨w1.heap.size, 0, none⟩ = some (.slice a' m.length cap') := cell_of_cells hX2 0
    have HT := Lib.hid (told_ok (.iface 184 (.agg #[.slice a' m.length cap'])) W2)
    have HS1 := Lib.hid hS1
    have HB2 := Lib.hid hB2
    have HB1 := Lib.hid hb1
    clear hX2 hB2 hb1 hS1
    go_wp2_with fail
    refine HT.out.mono ?_
    rintro e w3 ⟨rfl, rfl⟩
    go_wp2_with fail
    have hB12 := HB1.out.trans (HB2.out.mono HB1.out.size)
    rw [← HP.out]
    exact ⟨HB0.out.trans (hB12.mono HB0.out.size), _, rfl, _, _, _, rfl, HS1.out.go HB2.out⟩
  | none =>
    obtain ⟨P, hP⟩ : ∃ P, BodyPost ((none : Option (List Int)).map .num) w = P := ⟨_, rfl⟩
    have HP := Lib.hid hP
    rw [hP]
    clear hP
    go_enter Tryz.func166, Tryz.ntmps166
    go_wp2_with fail
    refine HA.mono ?_
    rintro e w1 ⟨hb1, rfl⟩
    obtain ⟨W2, hW2, hX2, hB2, hs2⟩ := boxes1 w1 #[.slice none 0 0] 27
    have q0 : W2.cell? ⟨w1.heap.size, 0, none⟩ = some (.slice none 0 0) := cell_of_cells hX2 0
    have z0 : W2.frozen? ⟨w1.heap.size, 0, none⟩ = false := frozen_of_cells hX2 0
    obtain ⟨W3, hW3⟩ : ∃ W3, W2.setCell ⟨w1.heap.size, 0, none⟩ (.slice none 0 0) = W3 := ⟨_, rfl⟩
    have hX3 : W3.heap[w1.heap.size]? = some (.cells #[.slice none 0 0] 27 (0, 0)) := by rw [← hW3]; exact heap_set_known hX2 (.slice none 0 0)
    have HB2 : Hid (Below w1.heap.size w1 W3) := by rw [Hid, ← hW3]; exact hB2.setCell (p := ⟨w1.heap.size, 0, none⟩) (Nat.le_refl _) _
    have y0 : W3.cell? ⟨w1.heap.size, 0, none⟩ = some (.slice none 0 0) := cell_of_cells hX3 0
    have HT := Lib.hid (told_no (.iface 184 (.agg #[.slice none 0 0])) W3)
    have HB1 := Lib.hid hb1
    clear hX2 hX3 hB2 hb1
    go_wp2_with fail
    refine HT.out.mono ?_
    rintro e w3 ⟨rfl, rfl⟩
    go_wp2_with fail
    have hB12 := HB1.out.trans (HB2.out.mono HB1.out.size)
    rw [← HP.out]
    exact ⟨(HB0.out.trans (hB12.mono HB0.out.size)).alloc (HB0.out.trans (hB12.mono HB0.out.size)).size _, _, rfl, _, rfl, World.alloc_heap_new _ _⟩
-- METHODS
set_option maxRecDepth 100000 in
set_option maxHeartbeats 1000000 in
theorem add_reg (b : Nat) (r : List Nat) (h : Nat) (n : Int) (w : World) (h1 : 3 ≤ b) (h2 : b ≤ 8) (hl : r.length = 2 ^ b) (hr : ∀ i, r.getD i 0 ≤ 65 - b) (hh : h < 2 ^ 64) :
    Calls Tryz.prog 195 #[.agg #[.int .i64 b, .string (hlStr r)], .agg #[.int .u64 h, .int .u64 n]] w (BodyPost ((Bd.reg b r).add h n) w) := by
  obtain ⟨W0, hW0, hXb, hXi, hB0, hs0⟩ := boxes2 w #[.int .i64 b, .string (hlStr r)] 187 #[.int .u64 h, .int .u64 n] 52
  have d0 : W0.cell? ⟨w.heap.size + 1, 0, none⟩ = some (.int .u64 h) := cell_of_cells hXi 0
  have d1 : W0.cell? ⟨w.heap.size + 1, 1, none⟩ = some (.int .u64 n) := cell_of_cells hXi 1
  have c0 : W0.cell? ⟨w.heap.size, 0, none⟩ = some (.int .i64 b) := cell_of_cells hXb 0
  have c1 : W0.cell? ⟨w.heap.size, 1, none⟩ = some (.string (hlStr r)) := cell_of_cells hXb 1
  have HA := Lib.hid (hAdd_any b r (h : Int) W0 h1 h2 hl hr (nat_u64 hh))
  have HB0 := Lib.hid hB0
  clear hXb hB0 hXi
  rw [Int.toNat_natCast] at HA
  obtain ⟨s, hst⟩ : ∃ s, hlStr (hlAdd b r h) = s := ⟨_, rfl⟩
  rw [hst] at HA
  have HSt := Lib.hid hst
  clear hst hl hr h1 h2 hh
  go_enter Tryz.func195, Tryz.ntmps195
  go_wp2_with fail
  refine HA.out.mono ?_
  rintro e w1 ⟨rfl, hb1⟩
  obtain ⟨W2, hW2, hX2, hB2, hs2⟩ := boxes1 w1 #[.int .i64 b, .string s] 29
  have q0 : W2.cell? ⟨w1.heap.size, 0, none⟩ = some (.int .i64 b) := cell_of_cells hX2 0
  have q1 : W2.cell? ⟨w1.heap.size, 1, none⟩ = some (.string s) := cell_of_cells hX2 1
  have HT := Lib.hid (told_ok (.iface 187 (.agg #[.int .i64 b, .string s])) W2)
  have HB2 := Lib.hid hB2
  have HB1 := Lib.hid hb1
  clear hX2 hB2 hb1
  go_wp2_with fail
  refine HT.out.mono ?_
  rintro e w3 ⟨rfl, rfl⟩
  go_wp2_with fail
  have hB12 := HB1.out.trans (HB2.out.mono HB1.out.size)
  refine bodyPost_ret (v := .tuple #[.iface 187 (.agg #[.int .i64 b, .string s]), .nilIface]) (by simp [results, Tryz.f195, go_sem]) rfl ⟨HB0.out.trans (hB12.mono HB0.out.size), ?_⟩
  exact ⟨_, rfl, by rw [← HSt.out]; rfl⟩
set_option maxRecDepth 100000 in
set_option maxHeartbeats 1000000 in
theorem add_cnt (c : Nat) (l : List Int) (a : Option Addr) (len cap h : Nat) (n : Int) (w : World) (hc : c = 4 ∨ c = 8 ∨ c = 16 ∨ c = 32) (hS : SlC encU 1 w.heap.size w a len cap l) (hl : l.length = c + c) (hlu : U64s l) (hh : h < 2 ^ 64) (hn : U64 n) :
    Calls Tryz.prog 205 #[.agg #[.int .i64 2, .int .i64 c, .slice a len cap], .agg #[.int .u64 h, .int .u64 n]] w (BodyPost ((Bd.cnt c l).add h n) w) := by
  obtain ⟨W0, hW0, hXb, hXi, hB0, hs0⟩ := boxes2 w #[.int .i64 2, .int .i64 c, .slice a len cap] 188 #[.int .u64 h, .int .u64 n] 52
  have d0 : W0.cell? ⟨w.heap.size + 1, 0, none⟩ = some (.int .u64 h) := cell_of_cells hXi 0
  have d1 : W0.cell? ⟨w.heap.size + 1, 1, none⟩ = some (.int .u64 n) := cell_of_cells hXi 1
  have c0 : W0.cell? ⟨w.heap.size, 0, none⟩ = some (.int .i64 2) := cell_of_cells hXb 0
  have c1 : W0.cell? ⟨w.heap.size, 1, none⟩ = some (.int .i64 c) := cell_of_cells hXb 1
  have c2 : W0.cell? ⟨w.heap.size, 2, none⟩ = some (.slice a len cap) := cell_of_cells hXb 2
  have HA := Lib.hid (cAdd_any c h n l a len cap W0 (shape_any c hc) (by omega) (by omega) hh hn ((hS.1.below hB0).mono hB0.size) (by omega) hlu (fun e => by have := hS.2.2.2.1 e; have := hS.2.1; omega))
  have HB0 := Lib.hid hB0
  clear hXb hB0 hXi
  have HLen := Lib.hid (cmAdd_len c l h n)
  have HL : Hid (l.length = c + c) := hl
  clear hS hl hlu hh hn
  go_enter Tryz.func205, Tryz.ntmps205
  go_wp2_with fail
  refine HA.out.mono ?_
  rintro e w1 ⟨g, rfl, hN1, hg1, hb1⟩
  have HN : Hid (NumsAt w1 g (cmAdd c l h n) ∧ (cmAdd c l h n).length = c + c) := ⟨hN1, by rw [HLen.out]; exact HL.out⟩
  clear hN1
  obtain ⟨W2, hW2, hX2, hB2, hs2⟩ := boxes1 w1 #[.int .i64 2, .int .i64 c, .slice (some ⟨g, 0, none⟩) (2 * c) (2 * c)] 31
  have q0 : W2.cell? ⟨w1.heap.size, 0, none⟩ = some (.int .i64 2) := cell_of_cells hX2 0
  have q1 : W2.cell? ⟨w1.heap.size, 1, none⟩ = some (.int .i64 c) := cell_of_cells hX2 1
  have q2 : W2.cell? ⟨w1.heap.size, 2, none⟩ = some (.slice (some ⟨g, 0, none⟩) (2 * c) (2 * c)) := cell_of_cells hX2 2
  have HT := Lib.hid (told_ok (.iface 188 (.agg #[.int .i64 2, .int .i64 c, .slice (some ⟨g, 0, none⟩) (2 * c) (2 * c)])) W2)
  have HB2 := Lib.hid hB2
  have HB1 := Lib.hid hb1
  clear hX2 hB2 hb1
  go_wp2_with fail
  refine HT.out.mono ?_
  rintro e w3 ⟨rfl, rfl⟩
  go_wp2_with fail
  have hB12 := HB1.out.trans (HB2.out.mono HB1.out.size)
  refine bodyPost_ret (v := .tuple #[.iface 188 (.agg #[.int .i64 2, .int .i64 c, .slice (some ⟨g, 0, none⟩) (2 * c) (2 * c)]), .nilIface]) (by simp [results, Tryz.f205, go_sem]) rfl ⟨HB0.out.trans (hB12.mono HB0.out.size), ?_⟩
  exact ⟨_, rfl, _, _, _, rfl, (nums_slC HN.out.1 (by rw [HN.out.2]; omega) (by unfold maxLen; omega)).go HB2.out⟩
set_option maxRecDepth 100000 in
set_option maxHeartbeats 1000000 in
theorem add_bkt (f : Nat) (l : List (Int × Int)) (a : Option Addr) (len cap h : Nat) (n : Int) (w : World) (hf : f ≤ 3) (hS : SlC encB 2 w.heap.size w a len cap l) (hr : hiRight f l = true) (hu : BinUp l) (hbu : BinsU l) (hlen : l.length ≤ 1000) (hp : ∀ b ∈ l, I64 b.1) (hh : h < 2 ^ 64) (hn : U64 n) :
    Calls Tryz.prog 224 #[.agg #[.int .i64 f, .slice a len cap], .agg #[.int .u64 h, .int .u64 n]] w (BodyPost ((Bd.bkt f l).add h n) w) := by
  obtain ⟨W0, hW0, hXb, hXi, hB0, hs0⟩ := boxes2 w #[.int .i64 f, .slice a len cap] 190 #[.int .u64 h, .int .u64 n] 52
  have d0 : W0.cell? ⟨w.heap.size + 1, 0, none⟩ = some (.int .u64 h) := cell_of_cells hXi 0
  have d1 : W0.cell? ⟨w.heap.size + 1, 1, none⟩ = some (.int .u64 n) := cell_of_cells hXi 1
  have c0 : W0.cell? ⟨w.heap.size, 0, none⟩ = some (.int .i64 f) := cell_of_cells hXb 0
  have c1 : W0.cell? ⟨w.heap.size, 1, none⟩ = some (.slice a len cap) := cell_of_cells hXb 1
  have HA := Lib.hid (hiAdd_any f l h n a len cap W0 hf ((hS.1.below hB0).mono hB0.size) hr hu hbu (by have := hS.1.1; omega) hp hh hn)
  have HB0 := Lib.hid hB0
  clear hXb hB0 hXi
  clear hS hr hu hbu hlen hp hh hn hf
  go_enter Tryz.func224, Tryz.ntmps224
  go_wp2_with fail
  refine HA.out.mono ?_
  rintro e w1 ⟨a', len', cap', rfl, hS1, hb1⟩
  have HN := Lib.hid hS1
  clear hS1
  obtain ⟨W2, hW2, hX2, hB2, hs2⟩ := boxes1 w1 #[.int .i64 f, .slice a' len' cap'] 34
  have q0 : W2.cell? ⟨w1.heap.size, 0, none⟩ = some (.int .i64 f) := cell_of_cells hX2 0
  have q1 : W2.cell? ⟨w1.heap.size, 1, none⟩ = some (.slice a' len' cap') := cell_of_cells hX2 1
  have HT := Lib.hid (told_ok (.iface 190 (.agg #[.int .i64 f, .slice a' len' cap'])) W2)
  have HB2 := Lib.hid hB2
  have HB1 := Lib.hid hb1
  clear hX2 hB2 hb1
  go_wp2_with fail
  refine HT.out.mono ?_
  rintro e w3 ⟨rfl, rfl⟩
  go_wp2_with fail
  have hB12 := HB1.out.trans (HB2.out.mono HB1.out.size)
  refine bodyPost_ret (v := .tuple #[.iface 190 (.agg #[.int .i64 f, .slice a' len' cap']), .nilIface]) (by simp [results, Tryz.f224, go_sem]) rfl ⟨HB0.out.trans (hB12.mono HB0.out.size), ?_⟩
  exact ⟨_, rfl, _, _, _, rfl, HN.out.go HB2.out⟩
set_option maxRecDepth 100000 in
set_option maxHeartbeats 1000000 in
theorem low_num (l : List Int) (a : Option Addr) (len cap : Nat) (w : World) (hS : SlC encU 1 w.heap.size w a len cap l) (hu : U64s l) (hlen : l.length ≤ 1000) :
    Calls Tryz.prog 169 #[.agg #[.slice a len cap]] w (BodyPost (some (Bd.num l).low) w) := by
  obtain ⟨W0, hW0, hXb, hB0, hs0⟩ := boxes1 w #[.slice a len cap] 184
  have c0 : W0.cell? ⟨w.heap.size, 0, none⟩ = some (.slice a len cap) := cell_of_cells hXb 0
  have HA := Lib.hid (hOf_any 7 l a len cap W0 (by decide) (by decide) ((hS.1.below hB0).mono hB0.size) hu (by have := hS.1.1; omega))
  have HB0 := Lib.hid hB0
  clear hXb hB0
  obtain ⟨s, hst⟩ : ∃ s, hlStr (hlSum 7 (hlNone 7) (l.map Int.toNat)) = s := ⟨_, rfl⟩
  rw [hst] at HA
  have HSt := Lib.hid hst
  clear hst hS hu hlen
  go_enter Tryz.func169, Tryz.ntmps169
  go_wp2_with fail
  refine HA.out.mono ?_
  rintro e w1 ⟨rfl, hb1⟩
  obtain ⟨W2, hW2, hX2, hB2, hs2⟩ := boxes1 w1 #[.int .i64 7, .string s] 29
  have q0 : W2.cell? ⟨w1.heap.size, 0, none⟩ = some (.int .i64 7) := cell_of_cells hX2 0
  have q1 : W2.cell? ⟨w1.heap.size, 1, none⟩ = some (.string s) := cell_of_cells hX2 1
  have HT := Lib.hid (told_ok (.iface 187 (.agg #[.int .i64 7, .string s])) W2)
  have HB2 := Lib.hid hB2
  have HB1 := Lib.hid hb1
  clear hX2 hB2 hb1
  go_wp2_with fail
  refine HT.out.mono ?_
  rintro e w3 ⟨rfl, rfl⟩
  go_wp2_with fail
  have hB12 := HB1.out.trans (HB2.out.mono HB1.out.size)
  refine bodyPost_ret (v := .tuple #[.iface 187 (.agg #[.int .i64 7, .string s]), .nilIface]) (by simp [results, Tryz.f169, go_sem]) rfl ⟨HB0.out.trans (hB12.mono HB0.out.size), ?_⟩
  exact ⟨_, rfl, by rw [← HSt.out]; rfl⟩
set_option maxRecDepth 100000 in
set_option maxHeartbeats 1000000 in
theorem low_reg (b : Nat) (r : List Nat) (w : World) (h1 : 4 ≤ b) (h2 : b ≤ 8) (hl : r.length = 2 ^ b) (hr : ∀ i, r.getD i 0 ≤ 65 - b) :
    Calls Tryz.prog 198 #[.agg #[.int .i64 b, .string (hlStr r)]] w (BodyPost (some (Bd.reg b r).low) w) := by
  obtain ⟨W0, hW0, hXb, hB0, hs0⟩ := boxes1 w #[.int .i64 b, .string (hlStr r)] 187
  have c0 : W0.cell? ⟨w.heap.size, 0, none⟩ = some (.int .i64 b) := cell_of_cells hXb 0
  have c1 : W0.cell? ⟨w.heap.size, 1, none⟩ = some (.string (hlStr r)) := cell_of_cells hXb 1
  have HA := Lib.hid (hLower_any b r W0 h1 h2 hl hr)
  have HB0 := Lib.hid hB0
  clear hXb hB0
  obtain ⟨s, hst⟩ : ∃ s, hlStr (hlLow b r) = s := ⟨_, rfl⟩
  rw [hst] at HA
  have HSt := Lib.hid hst
  clear hst hl hr h1 h2
  go_enter Tryz.func198, Tryz.ntmps198
  go_wp2_with fail
  refine HA.out.mono ?_
  rintro e w1 ⟨rfl, hb1⟩
  obtain ⟨W2, hW2, hX2, hB2, hs2⟩ := boxes1 w1 #[.int .i64 ((b - 1 : Nat) : Int), .string s] 29
  have q0 : W2.cell? ⟨w1.heap.size, 0, none⟩ = some (.int .i64 ((b - 1 : Nat) : Int)) := cell_of_cells hX2 0
  have q1 : W2.cell? ⟨w1.heap.size, 1, none⟩ = some (.string s) := cell_of_cells hX2 1
  have HT := Lib.hid (told_ok (.iface 187 (.agg #[.int .i64 ((b - 1 : Nat) : Int), .string s])) W2)
  have HB2 := Lib.hid hB2
  have HB1 := Lib.hid hb1
  clear hX2 hB2 hb1
  go_wp2_with fail
  refine HT.out.mono ?_
  rintro e w3 ⟨rfl, rfl⟩
  go_wp2_with fail
  have hB12 := HB1.out.trans (HB2.out.mono HB1.out.size)
  refine bodyPost_ret (v := .tuple #[.iface 187 (.agg #[.int .i64 ((b - 1 : Nat) : Int), .string s]), .nilIface]) (by simp [results, Tryz.f198, go_sem]) rfl ⟨HB0.out.trans (hB12.mono HB0.out.size), ?_⟩
  exact ⟨_, rfl, by rw [← HSt.out]; rfl⟩
set_option maxRecDepth 100000 in
set_option maxHeartbeats 1000000 in
theorem low_cnt (c : Nat) (l : List Int) (a : Option Addr) (len cap : Nat) (w : World) (hc : c = 8 ∨ c = 16 ∨ c = 32) (hS : SlC encU 1 w.heap.size w a len cap l) (hl : l.length = c + c) (hlu : U64s l) :
    Calls Tryz.prog 208 #[.agg #[.int .i64 2, .int .i64 c, .slice a len cap]] w (BodyPost (some (Bd.cnt c l).low) w) := by
  obtain ⟨W0, hW0, hXb, hB0, hs0⟩ := boxes1 w #[.int .i64 2, .int .i64 c, .slice a len cap] 188
  have c0 : W0.cell? ⟨w.heap.size, 0, none⟩ = some (.int .i64 2) := cell_of_cells hXb 0
  have c1 : W0.cell? ⟨w.heap.size, 1, none⟩ = some (.int .i64 c) := cell_of_cells hXb 1
  have c2 : W0.cell? ⟨w.heap.size, 2, none⟩ = some (.slice a len cap) := cell_of_cells hXb 2
  have HA := Lib.hid (cLower_any c l a len cap W0 (shape_any c (by omega)) (shape_any (c / 2) (by omega)) hc ((hS.1.below hB0).mono hB0.size) (by omega) hlu)
  have HB0 := Lib.hid hB0
  clear hXb hB0
  obtain ⟨d, hd⟩ : ∃ d, c / 2 = d := ⟨_, rfl⟩
  rw [hd] at HA
  have HD := Lib.hid hd
  have HC : Hid (2 * d ≤ 64) := (by omega : 2 * d ≤ 64)
  have HLen : Hid ((cmLow c l).length = 2 * d) := by rw [Hid, cmLow_len]; omega
  clear hS hl hlu hc hd
  go_enter Tryz.func208, Tryz.ntmps208
  go_wp2_with fail
  refine HA.out.mono ?_
  rintro e w1 ⟨g, rfl, hN1, hg1, hb1⟩
  have HN := Lib.hid (nums_slC hN1 HLen.out (by have := HC.out; unfold maxLen; omega))
  clear hN1
  obtain ⟨W2, hW2, hX2, hB2, hs2⟩ := boxes1 w1 #[.int .i64 2, .int .i64 d, .slice (some ⟨g, 0, none⟩) (2 * d) (2 * d)] 31
  have q0 : W2.cell? ⟨w1.heap.size, 0, none⟩ = some (.int .i64 2) := cell_of_cells hX2 0
  have q1 : W2.cell? ⟨w1.heap.size, 1, none⟩ = some (.int .i64 d) := cell_of_cells hX2 1
  have q2 : W2.cell? ⟨w1.heap.size, 2, none⟩ = some (.slice (some ⟨g, 0, none⟩) (2 * d) (2 * d)) := cell_of_cells hX2 2
  have HT := Lib.hid (told_ok (.iface 188 (.agg #[.int .i64 2, .int .i64 d, .slice (some ⟨g, 0, none⟩) (2 * d) (2 * d)])) W2)
  have HB2 := Lib.hid hB2
  have HB1 := Lib.hid hb1
  clear hX2 hB2 hb1
  go_wp2_with fail
  refine HT.out.mono ?_
  rintro e w3 ⟨rfl, rfl⟩
  go_wp2_with fail
  have hB12 := HB1.out.trans (HB2.out.mono HB1.out.size)
  refine bodyPost_ret (v := .tuple #[.iface 188 (.agg #[.int .i64 2, .int .i64 d, .slice (some ⟨g, 0, none⟩) (2 * d) (2 * d)]), .nilIface]) (by simp [results, Tryz.f208, go_sem]) rfl ⟨HB0.out.trans (hB12.mono HB0.out.size), ?_⟩
  exact ⟨_, rfl, by show BdAt _ _ (.cnt (c / 2) (cmLow c l)); rw [HD.out]; exact ⟨_, _, _, rfl, HN.out.go HB2.out⟩⟩
set_option maxRecDepth 100000 in
set_option maxHeartbeats 1000000 in
theorem low_bkt (f : Nat) (l : List (Int × Int)) (a : Option Addr) (len cap : Nat) (w : World) (h1 : 1 ≤ f) (hf : f ≤ 3) (hS : SlC encB 2 w.heap.size w a len cap l) (hr : hiRight f l = true) (hbd : ∀ b ∈ l, boundsB f b.1 = true) (hbu : BinsU l) (hlen : l.length ≤ 1000) :
    Calls Tryz.prog 227 #[.agg #[.int .i64 f, .slice a len cap]] w (BodyPost (some (Bd.bkt f l).low) w) := by
  obtain ⟨W0, hW0, hXb, hB0, hs0⟩ := boxes1 w #[.int .i64 f, .slice a len cap] 190
  have c0 : W0.cell? ⟨w.heap.size, 0, none⟩ = some (.int .i64 f) := cell_of_cells hXb 0
  have c1 : W0.cell? ⟨w.heap.size, 1, none⟩ = some (.slice a len cap) := cell_of_cells hXb 1
  have HA := Lib.hid (hiLower_any f l a len cap W0 h1 hf ((hS.1.below hB0).mono hB0.size) hr hbd hbu (by have := hS.1.1; omega))
  have HB0 := Lib.hid hB0
  clear hXb hB0
  have HF : Hid (1 ≤ f) := h1
  clear hS hr hbd hbu hlen hf h1
  go_enter Tryz.func227, Tryz.ntmps227
  go_wp2_with fail
  refine HA.out.mono ?_
  rintro e w1 ⟨a', len', cap', rfl, hS1, hb1⟩
  have HN := Lib.hid hS1
  clear hS1
  obtain ⟨W2, hW2, hX2, hB2, hs2⟩ := boxes1 w1 #[.int .i64 ((f : Int) - 1), .slice a' len' cap'] 34
  have q0 : W2.cell? ⟨w1.heap.size, 0, none⟩ = some (.int .i64 ((f : Int) - 1)) := cell_of_cells hX2 0
  have q1 : W2.cell? ⟨w1.heap.size, 1, none⟩ = some (.slice a' len' cap') := cell_of_cells hX2 1
  have HT := Lib.hid (told_ok (.iface 190 (.agg #[.int .i64 ((f : Int) - 1), .slice a' len' cap'])) W2)
  have HB2 := Lib.hid hB2
  have HB1 := Lib.hid hb1
  clear hX2 hB2 hb1
  go_wp2_with fail
  refine HT.out.mono ?_
  rintro e w3 ⟨rfl, rfl⟩
  go_wp2_with fail
  have hB12 := HB1.out.trans (HB2.out.mono HB1.out.size)
  refine bodyPost_ret (v := .tuple #[.iface 190 (.agg #[.int .i64 ((f : Int) - 1), .slice a' len' cap']), .nilIface]) (by simp [results, Tryz.f227, go_sem]) rfl ⟨HB0.out.trans (hB12.mono HB0.out.size), ?_⟩
  exact ⟨_, rfl, _, _, _, by rw [show ((f - 1 : Nat) : Int) = (f : Int) - 1 by have := HF.out; omega], HN.out.go HB2.out⟩
end Go.Proofs.YtmkefodaibmkhaaGreatDoor

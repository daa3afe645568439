/- Package ladder: what a sketch tells of a number (the bodies' methods ask; Ask). -/
import Derived.Test.YtmkefodaibmkhaaGreatDoorZND
import Derived.Test.YtmkefodaibmkhaaGreatDoorZLK
import Derived.Test.YtmkefodaibmkhaaGreatDoorZEF
namespace Go.Proofs.YtmkefodaibmkhaaGreatDoor
open Go Go.RowKit Go.Shelf

def Bd.ask : Bd → Nat → Int
  | .num l, _ => l.length
  | .reg b r, _ => (hlCount b (hlStr r) : Nat)
  | .cnt c l, h => cmCount c l h
  | .bkt f l, h => hiRank f l h
/-- What ask tells. -/
def AskPost (v : Int) (w : World) (e : Ending) (w' : World) : Prop := e = .returned (.int .u64 v) ∧ Below w.heap.size w w'
theorem ask_num (l : List Int) (a : Option Addr) (len cap : Nat) (h : Int) (w : World) (hS : SlC encU 1 w.heap.size w a len cap l) (hr : exRight l = true) (hlen : l.length ≤ 1000) :
    Calls Tryz.prog 167 #[.agg #[.slice a len cap], .int .u64 h] w (AskPost l.length w) := by
  obtain ⟨W0, hW0, hXb, hB0, hs0⟩ := boxes1 w #[.slice a len cap] 184
  have c0 : W0.cell? ⟨w.heap.size, 0, none⟩ = some (.slice a len cap) := cell_of_cells hXb 0
  have HA := exCount_any l a len cap W0 ((hS.1.below hB0).mono hB0.size) (by have := hS.1.1; omega)
  rw [hr, if_pos rfl] at HA
  have HA := Lib.hid HA
  have HB0 := Lib.hid hB0
  clear hXb hB0 hS hr hlen
  go_enter Tryz.func167, Tryz.ntmps167
  go_wp2_with fail
  refine HA.out.mono ?_
  rintro e w1 ⟨rfl, hb1⟩
  go_wp2_with fail
  go_ret
  exact ⟨rfl, HB0.out.trans (hb1.mono HB0.out.size)⟩
theorem ask_reg (b : Nat) (r : List Nat) (h : Int) (w : World) (h1 : 3 ≤ b) (h2 : b ≤ 8) (hl : r.length = 2 ^ b) (hr : ∀ i, r.getD i 0 ≤ 65 - b) :
    Calls Tryz.prog 196 #[.agg #[.int .i64 b, .string (hlStr r)], .int .u64 h] w (AskPost (hlCount b (hlStr r) : Nat) w) := by
  obtain ⟨W0, hW0, hXb, hB0, hs0⟩ := boxes1 w #[.int .i64 b, .string (hlStr r)] 187
  have c0 : W0.cell? ⟨w.heap.size, 0, none⟩ = some (.int .i64 b) := cell_of_cells hXb 0
  have c1 : W0.cell? ⟨w.heap.size, 1, none⟩ = some (.string (hlStr r)) := cell_of_cells hXb 1
  have HA := Lib.hid (hCount_any b r W0 h1 h2 hl hr)
  have HB0 := Lib.hid hB0
  generalize hlCount b (hlStr r) = n at HA ⊢
  clear hXb hB0 h1 h2 hl hr
  go_enter Tryz.func196, Tryz.ntmps196
  go_wp2_with fail
  refine HA.out.mono ?_
  rintro e w1 ⟨rfl, hb1⟩
  go_wp2_with fail
  go_ret
  exact ⟨rfl, HB0.out.trans (hb1.mono HB0.out.size)⟩
theorem ask_cnt (c : Nat) (l : List Int) (a : Option Addr) (len cap : Nat) (h : Nat) (w : World) (hc : c = 4 ∨ c = 8 ∨ c = 16 ∨ c = 32) (hS : SlC encU 1 w.heap.size w a len cap l) (hl : l.length = c + c) (hlu : U64s l) (hh : h < 2 ^ 64) :
    Calls Tryz.prog 206 #[.agg #[.int .i64 2, .int .i64 c, .slice a len cap], .int .u64 h] w (AskPost (cmCount c l h) w) := by
  obtain ⟨W0, hW0, hXb, hB0, hs0⟩ := boxes1 w #[.int .i64 2, .int .i64 c, .slice a len cap] 188
  have c0 : W0.cell? ⟨w.heap.size, 0, none⟩ = some (.int .i64 2) := cell_of_cells hXb 0
  have c1 : W0.cell? ⟨w.heap.size, 1, none⟩ = some (.int .i64 c) := cell_of_cells hXb 1
  have c2 : W0.cell? ⟨w.heap.size, 2, none⟩ = some (.slice a len cap) := cell_of_cells hXb 2
  have HA := Lib.hid (cCount_any c h l a len cap W0 (shape_any c hc) (by omega) (by omega) hh ((hS.1.below hB0).mono hB0.size) (by omega) hlu)
  have HB0 := Lib.hid hB0
  generalize cmCount c l h = n at HA ⊢
  clear hXb hB0 hS hl hlu hh hc
  go_enter Tryz.func206, Tryz.ntmps206
  go_wp2_with fail
  refine HA.out.mono ?_
  rintro e w1 ⟨rfl, hb1⟩
  go_wp2_with fail
  go_ret
  exact ⟨rfl, HB0.out.trans (hb1.mono HB0.out.size)⟩
theorem ask_bkt (f : Nat) (l : List (Int × Int)) (a : Option Addr) (len cap : Nat) (h : Nat) (w : World) (hf : f ≤ 3) (hS : SlC encB 2 w.heap.size w a len cap l) (hr : hiRight f l = true) (hbu : BinsU l) (hlen : l.length ≤ 1000) (hp : ∀ b ∈ l, I64 b.1) (hh : h < 2 ^ 64) :
    Calls Tryz.prog 225 #[.agg #[.int .i64 f, .slice a len cap], .int .u64 h] w (AskPost (hiRank f l h) w) := by
  obtain ⟨W0, hW0, hXb, hB0, hs0⟩ := boxes1 w #[.int .i64 f, .slice a len cap] 190
  have c0 : W0.cell? ⟨w.heap.size, 0, none⟩ = some (.int .i64 f) := cell_of_cells hXb 0
  have c1 : W0.cell? ⟨w.heap.size, 1, none⟩ = some (.slice a len cap) := cell_of_cells hXb 1
  have HA := Lib.hid (hRank_any f l h a len cap W0 hf ((hS.1.below hB0).mono hB0.size) hr hbu (by have := hS.1.1; omega) hp hh)
  have HB0 := Lib.hid hB0
  generalize hiRank f l h = n at HA ⊢
  clear hXb hB0 hS hr hbu hlen hp hh hf
  go_enter Tryz.func225, Tryz.ntmps225
  go_wp2_with fail
  refine HA.out.mono ?_
  rintro e w1 ⟨rfl, hb1⟩
  go_wp2_with fail
  go_ret
  exact ⟨rfl, HB0.out.trans (hb1.mono HB0.out.size)⟩
theorem m_ask_num (x : Value) (w : World) : (method 441 184 (.agg #[x]) "aviary/ladder.ask").run Tryz.prog w = .ok (167, .agg #[x]) w := by kernel_rfl
theorem m_ask_reg (x y : Value) (w : World) : (method 441 187 (.agg #[x, y]) "aviary/ladder.ask").run Tryz.prog w = .ok (196, .agg #[x, y]) w := by kernel_rfl
theorem m_ask_cnt (x y z : Value) (w : World) : (method 441 188 (.agg #[x, y, z]) "aviary/ladder.ask").run Tryz.prog w = .ok (206, .agg #[x, y, z]) w := by kernel_rfl
theorem m_ask_bkt (x y : Value) (w : World) : (method 441 190 (.agg #[x, y]) "aviary/ladder.ask").run Tryz.prog w = .ok (225, .agg #[x, y]) w := by kernel_rfl
/-- ask, whatever the body is. -/
theorem ask_at {w : World} {v : Value} {B : Bd} {kind level : Nat} (hb : BdAt w v B) (hok : B.Ok kind level) : ∃ T rv f, v = .iface T rv ∧ (∀ W, (method 441 T rv "aviary/ladder.ask").run Tryz.prog W = .ok (f, rv) W) ∧ (∀ args W, (callFunc f args).run Tryz.prog W = .ok (.enter f args) W) ∧
    ∀ W (h : Nat), BdAt W v B → h < 2 ^ 64 → Calls Tryz.prog f #[rv, .int .u64 h] W (AskPost (B.ask h) W) := by
  cases B with
  | num l =>
    obtain ⟨a, len, cap, rfl, -⟩ := hb
    obtain ⟨-, -, o3, o4, -⟩ := hok
    refine ⟨_, _, _, rfl, fun W => m_ask_num _ W, enters_of Tryz.func167 (by kernel_rfl) rfl, fun W h hW hh => ?_⟩
    obtain ⟨a', len', cap', e, hS⟩ := hW
    cases e
    exact ask_num l a len cap h W hS (up_right l o3 o4) (by omega)
  | reg b r =>
    obtain rfl : v = _ := hb
    obtain ⟨-, o2, o3, o4, o5, o6⟩ := hok
    refine ⟨_, _, _, rfl, fun W => m_ask_reg _ _ W, enters_of Tryz.func196 (by kernel_rfl) rfl, fun W h hW hh => ?_⟩
    exact ask_reg b r h W (by omega) (by omega) o5 o6
  | cnt c l =>
    obtain ⟨a, len, cap, rfl, -⟩ := hb
    obtain ⟨-, o2, o3, o4, o5⟩ := hok
    refine ⟨_, _, _, rfl, fun W => m_ask_cnt _ _ _ W, enters_of Tryz.func206 (by kernel_rfl) rfl, fun W h hW hh => ?_⟩
    obtain ⟨a', len', cap', e, hS⟩ := hW
    cases e
    exact ask_cnt c l a len cap h W (cols_of o3 o2) hS o4 o5 hh
  | bkt f l =>
    obtain ⟨a, len, cap, rfl, -⟩ := hb
    obtain ⟨-, o2, o3, o4, o5, o6, o7⟩ := hok
    refine ⟨_, _, _, rfl, fun W => m_ask_bkt _ _ W, enters_of Tryz.func225 (by kernel_rfl) rfl, fun W h hW hh => ?_⟩
    obtain ⟨a', len', cap', e, hS⟩ := hW
    cases e
    have hf : f ≤ 3 := by omega
    exact ask_bkt f l a len cap h W hf hS (hiRight_of f l hf o4 o5 o7) o6 (by have := bins_len f l hf o4 o7; omega) (bins_i64 f l hf o7) hh
set_option maxRecDepth 100000 in
set_option maxHeartbeats 2000000 in
theorem Ask_any {k L : Nat} {h : Nat} {B : Bd} {v : Value} {w : World} (hok : B.Ok k L) (hh : h < 2 ^ 64) (hv : SkB w v k L B) :
    Calls Tryz.prog 33 #[v, .int .u64 h] w (AskPost (B.ask h) w) := by
  obtain ⟨y, s, hy, rfl, hA⟩ := hv
  obtain ⟨W0, hW0, hXp, hB0, hs0⟩ := boxes1 w #[.int .i64 y.kind, .int .i64 y.level, .slice s.ea s.el s.ec, .int .i64 y.hb, .string y.hr, .int .i64 y.cr, .int .i64 y.cc, .slice s.ca s.cl s.cc, .int .i64 y.gf, .slice s.ga s.gl s.gc] 36
  have HO := Lib.hid (open_sk_any (w := W0) hok ⟨y, s, hy, rfl, (hA.go hB0)⟩)
  have HT : Hid (∀ b W, BdAt W b B → ∃ T rv f, b = .iface T rv ∧ (∀ W, (method 441 T rv "aviary/ladder.ask").run Tryz.prog W = .ok (f, rv) W) ∧ (∀ args W, (callFunc f args).run Tryz.prog W = .ok (.enter f args) W) ∧
    ∀ W (h : Nat), BdAt W b B → h < 2 ^ 64 → Calls Tryz.prog f #[rv, .int .u64 h] W (AskPost (B.ask h) W)) := fun b W hb => ask_at hb hok
  have c0 : W0.cell? ⟨w.heap.size, 0, none⟩ = some (.int .i64 y.kind) := cell_of_cells hXp 0
  have c1 : W0.cell? ⟨w.heap.size, 1, none⟩ = some (.int .i64 y.level) := cell_of_cells hXp 1
  have c2 : W0.cell? ⟨w.heap.size, 2, none⟩ = some (.slice s.ea s.el s.ec) := cell_of_cells hXp 2
  have c3 : W0.cell? ⟨w.heap.size, 3, none⟩ = some (.int .i64 y.hb) := cell_of_cells hXp 3
  have c4 : W0.cell? ⟨w.heap.size, 4, none⟩ = some (.string y.hr) := cell_of_cells hXp 4
  have c5 : W0.cell? ⟨w.heap.size, 5, none⟩ = some (.int .i64 y.cr) := cell_of_cells hXp 5
  have c6 : W0.cell? ⟨w.heap.size, 6, none⟩ = some (.int .i64 y.cc) := cell_of_cells hXp 6
  have c7 : W0.cell? ⟨w.heap.size, 7, none⟩ = some (.slice s.ca s.cl s.cc) := cell_of_cells hXp 7
  have c8 : W0.cell? ⟨w.heap.size, 8, none⟩ = some (.int .i64 y.gf) := cell_of_cells hXp 8
  have c9 : W0.cell? ⟨w.heap.size, 9, none⟩ = some (.slice s.ga s.gl s.gc) := cell_of_cells hXp 9
  have HB0 := Lib.hid hB0
  have HH := Lib.hid hh
  clear hXp hB0 hA hy hok hh
  go_enter Tryz.func33, Tryz.ntmps33
  go_wp2_with fail
  refine HO.out.mono ?_
  rintro e w1 ⟨b, rfl, hb, hb1⟩
  obtain ⟨T, rv, f, rfl, hm, he, hC⟩ := HT.out b w1 hb
  obtain ⟨W2, hW2, hX2, hB2, hs2⟩ := boxes1 w1 #[.iface T rv, .int .i64 k, .int .i64 L] 68
  have d0 : W2.cell? ⟨w1.heap.size, 0, none⟩ = some (.iface T rv) := cell_of_cells hX2 0
  have d1 : W2.cell? ⟨w1.heap.size, 1, none⟩ = some (.int .i64 k) := cell_of_cells hX2 1
  have d2 : W2.cell? ⟨w1.heap.size, 2, none⟩ = some (.int .i64 L) := cell_of_cells hX2 2
  have HC2 := Lib.hid (hC W2 h (hb.go hB2) HH.out)
  have HB : Hid (Below w.heap.size w W2) := HB0.out.trans ((hb1.trans (hB2.mono hb1.size)).mono HB0.out.size)
  clear hX2 hB2 hb1 hb hC
  go_wp2_with fail
  refine HC2.out.mono ?_
  rintro e w3 ⟨rfl, hb3⟩
  go_wp2_with fail
  go_ret
  exact ⟨rfl, HB.out.trans (hb3.mono HB.out.size)⟩
end Go.Proofs.YtmkefodaibmkhaaGreatDoor

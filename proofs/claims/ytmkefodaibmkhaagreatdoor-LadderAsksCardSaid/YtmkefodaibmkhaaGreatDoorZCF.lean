/- Package cms: Lower's function. -/
import Derived.Test.YtmkefodaibmkhaaGreatDoorZCC
import Derived.BigRegion
import Derived.Deep.RegionHeld3
import Derived.Deep.Cut
import Derived.Deep.CutRange
import Derived.Deep.DeepCutAuto
namespace Go.Proofs.YtmkefodaibmkhaaGreatDoor
open Go Go.RowKit Go.Shelf

theorem chFold_fix {α : Type} (pl : α → Nat) (F : Nat → Int → Int) (hF : ∀ p x y, F p x = F p y) : ∀ (ps : List α) (l : List Int) (i : Nat), (chFold pl F l ps).getD i 0 = if i ∈ ps.map pl ∧ i < l.length then F i 0 else l.getD i 0
  | [], l, i => by simp [chFold]
  | p :: ps, l, i => by
    show (chFold pl F (l.set (pl p) (F (pl p) (l.getD (pl p) 0))) ps).getD i 0 = _
    rw [chFold_fix pl F hF ps, List.length_set, getD_setI]
    by_cases h1 : i ∈ ps.map pl ∧ i < l.length
    · rw [if_pos h1, if_pos ⟨List.mem_cons_of_mem _ h1.1, h1.2⟩]
    · rw [if_neg h1]
      by_cases h2 : pl p = i ∧ i < l.length
      · rw [if_pos h2, if_pos ⟨by rw [List.map_cons, h2.1]; exact List.mem_cons_self, h2.2⟩, h2.1]
        exact hF _ _ _
      · rw [if_neg h2, if_neg (fun h => ?_)]
        rcases List.mem_cons.1 h.1 with e | e
        · exact h2 ⟨e.symm, h.2⟩
        · exact h1 ⟨e, h.2⟩
def lowF (c : Nat) (l : List Int) (p : Nat) (_ : Int) : Int := satI (l.getD (p / (c / 2) * c + p % (c / 2)) 0) (l.getD (p / (c / 2) * c + p % (c / 2) + c / 2) 0)
theorem chFold_low (c : Nat) (l : List Int) : chFold (fun x : Fin (2 * (c / 2)) => x.1) (lowF c l) (List.replicate (2 * (c / 2)) 0) (List.finRange (2 * (c / 2))) = cmLow c l := by
  refine getD_extI _ _ (by rw [chFold_len, cmLow_len]; simp; omega) (fun i hi => ?_)
  rw [chFold_len, List.length_replicate] at hi
  have hm : i ∈ (List.finRange (2 * (c / 2))).map (fun x : Fin (2 * (c / 2)) => x.1) := List.mem_map.2 ⟨⟨i, hi⟩, List.mem_finRange _, rfl⟩
  rw [chFold_fix _ _ (fun p x y => rfl), cmLow_at _ _ _ (by omega), if_pos ⟨hm, by simpa using hi⟩]
  rfl
set_option maxRecDepth 100000 in
set_option maxHeartbeats 2000000 in
theorem lowF_any (c fb xb p : Nat) (old : Int) (l : List Int) (a : Option Addr) (len cap : Nat) (v : Value) (w : World) (hc : c = 8 ∨ c = 16 ∨ c = 32) (hp : p < 2 * (c / 2)) (hl : l.length = 2 * c) (hlu : U64s l) (hL : SlE encU 1 w.heap.size w a len l)
    (hf : w.heap[fb]? = some (.cells #[.int .i64 2, .int .i64 ((c / 2 : Nat) : Int), v] 165 (0, 0))) (hx : w.heap[xb]? = some (.cells #[.int .i64 2, .int .i64 c, .slice a len cap] 31 (0, 0))) :
    Calls Tryz.prog 220 #[.int .i64 p, .int .u64 old, .pointer (some ⟨fb, 0, none⟩), .pointer (some ⟨xb, 0, none⟩)] w fun e w' => e = .returned (.int .u64 (lowF c l p old)) ∧ Below w.heap.size w w' := by
  obtain ⟨q, hq⟩ : ∃ q, p / (c / 2) * c + p % (c / 2) = q := ⟨_, rfl⟩
  obtain ⟨d, hd⟩ : ∃ d, c / 2 = d := ⟨_, rfl⟩
  have hqd : q + d < len := by rw [hL.1, hl, ← hq, ← hd]; rcases hc with rfl | rfl | rfl <;> simp only [Nat.reduceDiv] at hp ⊢ <;> omega
  have hll := hL.1
  obtain ⟨x, hx1⟩ : ∃ x, l[q]? = some x := ⟨_, List.getElem?_eq_getElem (by omega)⟩
  obtain ⟨y, hy1⟩ : ∃ y, l[q + d]? = some y := ⟨_, List.getElem?_eq_getElem (by omega)⟩
  have hF : lowF c l p old = satI x y := by unfold lowF; rw [hq, hd, List.getD_eq_getElem?_getD, hx1, List.getD_eq_getElem?_getD, hy1]; rfl
  rw [hF]
  have hxu : U64 x := hlu x (List.mem_of_getElem? hx1)
  have hyu : U64 y := hlu y (List.mem_of_getElem? hy1)
  obtain ⟨bb, off, rfl, hbb, hcx⟩ := hL.2 q x hx1
  obtain ⟨bb2, off2, e2, -, hcy⟩ := hL.2 (q + d) y hy1
  cases e2
  have k1 : w.cell? ⟨bb, off + q, none⟩ = some (.int .u64 x) := by have h1 := hcx 0 (by omega); rwa [Nat.mul_one] at h1
  have k2 : w.cell? ⟨bb, off + (q + d), none⟩ = some (.int .u64 y) := by have h1 := hcy 0 (by omega); rwa [Nat.mul_one] at h1
  have hdd : (d = 4 ∧ c = 8) ∨ (d = 8 ∧ c = 16) ∨ (d = 16 ∧ c = 32) := by omega
  have hd1 : 1 ≤ d ∧ d ≤ 16 := by clear hq; omega
  have hc32 : c ≤ 32 := by clear hq; omega
  have hlen : len ≤ 64 := by clear hq; omega
  have hqi : wrap64 (wrap64 (wrap64 ((p : Int) / (d : Int)) * (c : Int)) + (p : Int) % (d : Int)) = (q : Int) := by
    have hb : p / d * c ≤ 32 ∧ p % d ≤ 16 ∧ p / d ≤ 32 := by rcases hdd with ⟨rfl, rfl⟩ | ⟨rfl, rfl⟩ | ⟨rfl, rfl⟩ <;> omega
    rw [show (p : Int) / (d : Int) = ((p / d : Nat) : Int) by rw [Int.natCast_ediv], wrap64_nat (p / d) (by omega), ← Int.natCast_mul, wrap64_nat _ (by omega), show (p : Int) % (d : Int) = ((p % d : Nat) : Int) by rw [Int.natCast_emod], ← Int.natCast_add, wrap64_nat _ (by omega), ← hq, hd]
  rw [hd] at hf
  clear hq hd hc hdd hp hl hll
  have hd0 : (0 : Int) < d := by omega
  have hqn : (q : Int) < len := by omega
  have hqn2 : (q : Int) + d < len := by omega
  have f0 : w.cell? ⟨fb, 0, none⟩ = some (.int .i64 2) := cell_of_cells hf 0
  have f1 : w.cell? ⟨fb, 1, none⟩ = some (.int .i64 d) := cell_of_cells hf 1
  have f2 : w.cell? ⟨fb, 2, none⟩ = some (v) := cell_of_cells hf 2
  have g0 : w.cell? ⟨xb, 0, none⟩ = some (.int .i64 2) := cell_of_cells hx 0
  have g1 : w.cell? ⟨xb, 1, none⟩ = some (.int .i64 c) := cell_of_cells hx 1
  have g2 : w.cell? ⟨xb, 2, none⟩ = some (.slice (some ⟨bb, off, none⟩) len cap) := cell_of_cells hx 2
  clear hcx hcy hf hx hL hF hlu
  go_enter Tryz.func220, Tryz.ntmps220
  go_wp2_with fail
  go_quiet (fail)
  go_wp2_with fail
  rw [hqi]
  have hB1 : Below w.heap.size w (w.drewN nq) := below_drewN (Below.refl _ _) nq
  obtain ⟨W1, hW1⟩ : ∃ W1, w.drewN nq = W1 := ⟨_, rfl⟩
  rw [hW1] at hB1 ⊢
  have k2 : w.cell? ⟨bb, off + ((q : Int) + (d : Int)).toNat, none⟩ = some (.int .u64 y) := by rw [show ((q : Int) + (d : Int)).toNat = q + d by omega]; exact k2
  have HQ : Hid (∀ W, Below W1.heap.size W1 W → W.cell? ⟨fb, 1, none⟩ = some (.int .i64 d) ∧ W.cell? ⟨xb, 2, none⟩ = some (.slice (some ⟨bb, off, none⟩) len cap) ∧ W.cell? ⟨bb, off + q, none⟩ = some (.int .u64 x) ∧ W.cell? ⟨bb, off + ((q : Int) + (d : Int)).toNat, none⟩ = some (.int .u64 y) ∧ Below W1.heap.size W1 W) := fun W h => by
    have h0 := hB1.trans (h.mono hB1.size)
    have hlt : ∀ b o v, w.cell? ⟨b, o, none⟩ = some v → b < w.heap.size := fun b o v hc => World.block_lt_of_cell? w _ hc
    exact ⟨(h0.cell (p := ⟨fb, 1, none⟩) (hlt _ _ _ f1)).trans f1, (h0.cell (p := ⟨xb, 2, none⟩) (hlt _ _ _ g2)).trans g2, (h0.cell (p := ⟨bb, off + q, none⟩) (hlt _ _ _ k1)).trans k1, (h0.cell (p := ⟨bb, off + ((q : Int) + (d : Int)).toNat, none⟩) (hlt _ _ _ k2)).trans k2, h⟩
  obtain ⟨m0, m1, m2, m3, mB⟩ := HQ.out W1 (Below.refl _ _)
  have HT : Hid (Calls Tryz.prog 218 #[.slice (some ⟨W1.heap.size, 0, none⟩) 2 2] (W1.alloc (.cells #[.int .u64 x, .int .u64 y] 50)).drew fun e w' => e = .returned (.int .u64 (satI x y)) ∧ w' = (W1.alloc (.cells #[.int .u64 x, .int .u64 y] 50)).drew) := ctogether_any W1.heap.size x y _ (cell_of_cells (W := W1.alloc _) (World.alloc_heap_new W1 _) 0) (cell_of_cells (W := W1.alloc _) (World.alloc_heap_new W1 _) 1) hxu hyu
  have HB1 := Lib.hid hB1
  have hw1 : IntKind.i64.wrap ((q : Int) + (d : Int)) = (q : Int) + (d : Int) := IntWalk.i64_in _ (by omega)
  have hn0 : (0 : Int) ≤ q := by omega
  have hn1 : (0 : Int) ≤ (q : Int) + d := by omega
  clear hW1 k1 k2 f0 f1 f2 g0 g1 g2 hqi hB1
  go_region_held3 (fun w' => w'.cell? ⟨fb, 1, none⟩ = some (.int .i64 d) ∧ w'.cell? ⟨xb, 2, none⟩ = some (.slice (some ⟨bb, off, none⟩) len cap) ∧ w'.cell? ⟨bb, off + q, none⟩ = some (.int .u64 x) ∧ w'.cell? ⟨bb, off + ((q : Int) + (d : Int)).toNat, none⟩ = some (.int .u64 y) ∧ Below W1.heap.size W1 w')
    (first
      | exact HQ.out _ (Below.refl _ _).drew
      | (go_split_ands; refine HQ.out _ ?_; first | assumption | exact Below.alloc (by assumption) (Below.size (by assumption)) _ | exact Below.drew (by assumption) | exact Below.trans (by assumption) (Below.mono (by assumption) (Below.size (by assumption)))))
    (first
      | (go_at_call 218; refine HT.out.mono ?_; rintro e w5 ⟨rfl, rfl⟩))
  go_wp2_with fail
  go_ret
  exact ⟨rfl, HB1.out.trans (((Below.refl _ W1).alloc (Nat.le_refl _) _).drew.mono HB1.out.size)⟩
end Go.Proofs.YtmkefodaibmkhaaGreatDoor

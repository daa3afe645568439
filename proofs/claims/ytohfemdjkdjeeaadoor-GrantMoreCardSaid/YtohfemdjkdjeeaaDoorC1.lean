/- aviarylaw15.cut, Few. -/
import Derived.Test.YtohfemdjkdjeeaaDoorG6
namespace Go.Proofs.YtohfemdjkdjeeaaDoor
open Go Go.RowKit Go.Shelf

def cutN (n : Int) (s : ByteArray) : ByteArray := s.extract 0 (min (s.size : Int) n).toNat
theorem cutN_size (n : Nat) (s : ByteArray) : (cutN n s).size = min s.size n := by simp [cutN]; omega
theorem cutN_lt (n : Nat) (hn : n < 4294967281) (s : ByteArray) : (cutN n s).size < 4294967281 := by rw [cutN_size]; omega
def cutK (n : Nat) (hn : n < 4294967281) (s : ByteArray) : StrK := ⟨cutN n s, cutN_lt n hn s⟩
theorem cut_any (s : ByteArray) (w : World) :
    Calls Tryd.prog 9 #[.string s] w fun e w' => e = .returned (.string (cutN 200 s)) ∧ Below w.heap.size w w' := by
  go_enter Tryd.func9, Tryd.ntmps9
  go_wp2_with fail
  go_ret
  exact ⟨rfl, Below.refl _ _⟩

structure RGr where
  id : Int
  to : Int
  scope : ByteArray
def RGr.enc (g : RGr) : List Value := [.int .u64 g.id, .int .u64 g.to, .string g.scope]
theorem rgr_enc_len (g : RGr) : g.enc.length = 3 := rfl
def RGr.cut (g : RGr) : Gr := ⟨g.id, g.to, cutK 200 (by decide) g.scope⟩
def RGrs (n₀ : Nat) (w : World) (sv : Value) (l : List RGr) : Prop := SlAt n₀ w sv l.length (l.flatMap RGr.enc)
def few15 (next : Int) (l : List RGr) : Grants := ⟨next, (l.take 12).map RGr.cut⟩
theorem ownsRow_of_heap {w w' : World} {base size n : Nat} {e : TypeId} {v : Value} {xs : List Value} (h : w.ownsRow base e size v n xs) (hk : ∀ g, v.ownBlock = some g → w'.heap[g]? = w.heap[g]?) : w'.ownsRow base e size v n xs := by
  refine ⟨h.1, ?_⟩
  rcases h.2 with h | ⟨g, cap, cur, rfl, h1, h2, h3⟩
  · exact .inl h
  · exact .inr ⟨g, cap, cur, rfl, h1, (hk g rfl).trans h2, h3⟩
theorem few_step {l : List RGr} {k : Nat} {x : RGr} (hx : l[k]? = some x) : ((l.take (k + 1)).map RGr.cut).flatMap Gr.enc = ((l.take k).map RGr.cut).flatMap Gr.enc ++ [.int .u64 x.id, .int .u64 x.to, .string (cutN 200 x.scope)] := by
  rw [take_snoc' hx]
  simp [RGr.cut, Gr.enc, cutK]

set_option maxRecDepth 100000 in
set_option maxHeartbeats 2000000 in
theorem few15_any (next : Int) (l : List RGr) (a : Option Addr) (len cap : Nat) (w : World) (hL : RGrs w.heap.size w (.slice a len cap) l) :
    Calls Tryd.prog 6 #[.agg #[.int .u64 next, .slice a len cap]] w fun e w' => ∃ v, e = .returned v ∧ GrantsAt w.heap.size w'.heap.size w' v (few15 next l) ∧ Below w.heap.size w w' := by
  obtain ⟨hlen, -⟩ := SlAt.elems rgr_enc_len hL
  subst hlen
  have hB1 : Below w.heap.size w (w.alloc (.cells #[.int .u64 next, .slice a l.length cap] 25)) := (Below.refl _ w).alloc (Nat.le_refl _) _
  have hX := World.alloc_heap_new w (.cells #[.int .u64 next, .slice a l.length cap] 25)
  obtain ⟨W0, hW0⟩ : ∃ W0, (w.alloc (.cells #[.int .u64 next, .slice a l.length cap] 25)).alloc (.cells #[.int .u64 0, .slice none 0 0] 25) = W0 := ⟨_, rfl⟩
  have hB0 : Below w.heap.size w W0 := by rw [← hW0]; exact hB1.alloc (by simp) _
  have hs0 : W0.heap.size = w.heap.size + 2 := by rw [← hW0]; simp
  have hX0 : W0.heap[w.heap.size]? = some (.cells #[.int .u64 next, .slice a l.length cap] 25 (0, 0)) := by rw [← hW0]; exact (Below.heap_alloc _ _ _ (by simp)).trans hX
  have hY0 : W0.heap[w.heap.size + 1]? = some (.cells #[.int .u64 0, .slice none 0 0] 25 (0, 0)) := by rw [← hW0]; have := World.alloc_heap_new (w.alloc (.cells #[.int .u64 next, .slice a l.length cap] 25)) (.cells #[.int .u64 0, .slice none 0 0] 25); rwa [World.size_alloc] at this
  obtain ⟨W1, hW1⟩ : ∃ W1, W0.alloc (.cells #[.int .u64 next, .slice none 0 0] 25) = W1 := ⟨_, rfl⟩
  have hB2 : Below w.heap.size w W1 := by rw [← hW1]; exact hB0.alloc (by omega) _
  have hs1 : W1.heap.size = w.heap.size + 3 := by rw [← hW1]; simp; omega
  have hX1 : W1.heap[w.heap.size]? = some (.cells #[.int .u64 next, .slice a l.length cap] 25 (0, 0)) := by rw [← hW1]; exact (Below.heap_alloc _ _ _ (by omega)).trans hX0
  have hY1 : W1.heap[w.heap.size + 1]? = some (.cells #[.int .u64 0, .slice none 0 0] 25 (0, 0)) := by rw [← hW1]; exact (Below.heap_alloc _ _ _ (by omega)).trans hY0
  have hZ1 : W1.heap[w.heap.size + 2]? = some (.cells #[.int .u64 next, .slice none 0 0] 25 (0, 0)) := by rw [← hW1, ← hs0]; exact World.alloc_heap_new W0 _
  have HW1 := Lib.hid hW1
  have c0 := cell_of_cells hX0 0
  simp at c0
  clear hB1 hX hW1
  go_enter Tryd.func6, Tryd.ntmps6
  go_wp2_with fail
  rw [HW1.out]
  have hown0 : W1.ownsRow (w.heap.size + 3) 46 3 (.slice none 0 0) 0 [] := World.ownsRow_nil _ _ _ _
  clear hW0 HW1 c0 hX0 hY0
  go_loopw [4] (fun i wr => ∃ (k : Nat) (v : Value), i = .int .i64 k ∧ k ≤ l.length ∧ k ≤ 12 ∧ Below w.heap.size w wr ∧ w.heap.size + 3 ≤ wr.heap.size ∧
    wr.heap[w.heap.size]? = some (.cells #[.int .u64 next, .slice a l.length cap] 25 (0, 0)) ∧ wr.heap[w.heap.size + 1]? = some (.cells #[.int .u64 0, .slice none 0 0] 25 (0, 0)) ∧
    wr.heap[w.heap.size + 2]? = some (.cells #[.int .u64 next, v] 25 (0, 0)) ∧ wr.ownsRow (w.heap.size + 3) 46 3 v k (((l.take k).map RGr.cut).flatMap Gr.enc)) (fun i _ => l.length - (intOf i).toNat)
  case atStart => exact ⟨0, _, rfl, Nat.zero_le _, by omega, hB2, by omega, hX1, hY1, hZ1, hown0⟩
  case round =>
    obtain ⟨k, v, rfl, hk, hk12, hB, hsz, hX, hY, hZ, hown⟩ := hrel
    clear hX1 hY1 hZ1 hown0 hB0 hB2 hs0 hs1
    have q1 := cell_of_cells hX 1
    simp at q1
    by_cases hlt : k < l.length ∧ k < 12
    · obtain ⟨hlt, hlt12⟩ := hlt
      obtain ⟨x, hx⟩ : ∃ x, l[k]? = some x := ⟨_, List.getElem?_eq_getElem hlt⟩
      obtain ⟨b, off, rfl, hbb, hc⟩ := (SlAt.elems rgr_enc_len (SlAt.below hB hL)).2 k x hx
      have c0 : wr.cell? ⟨b, off + k * 3, none⟩ = some (.int .u64 x.id) := hc 0 (by omega)
      have c1 : wr.cell? ⟨b, off + k * 3 + 1, none⟩ = some (.int .u64 x.to) := hc 1 (by omega)
      have c2 : wr.cell? ⟨b, off + k * 3 + 2, none⟩ = some (.string x.scope) := hc 2 (by omega)
      obtain ⟨va, vc, rfl⟩ := owns_form hown
      have HS := Lib.hid (few_step hx)
      have q2 := cell_of_cells hZ 1
      simp at q2
      obtain ⟨X, hXe⟩ : ∃ X, X = wr.alloc (.cells #[.int .u64 x.id, .int .u64 x.to, .string (x.scope.extract 0 (min (x.scope.size : Int) 200).toNat)] 46) := ⟨_, rfl⟩
      have hszX : X.heap.size = wr.heap.size + 1 := by rw [hXe, World.size_alloc]
      have hBX : Below wr.heap.size wr X := by rw [hXe]; exact (Below.refl _ _).alloc (Nat.le_refl _) _
      have hownX : X.ownsRow (w.heap.size + 3) 46 3 (.slice va k vc) k (((l.take k).map RGr.cut).flatMap Gr.enc) := ownsRow_of_heap hown (fun g hg => hBX.block g (hown.lt g hg).2)
      obtain ⟨g5, cap5, w5, hap5, hown5, hB5, hz5, hbl5, -⟩ := append_one Tryd.prog 23 und_grants info_grant rfl (by decide) hownX (hB.trans (hBX.mono (by omega))) (by omega) (by omega) [.int .u64 x.id, .int .u64 x.to, .string (x.scope.extract 0 (min (x.scope.size : Int) 200).toNat)] rfl (by simp [Value.oneCell']) (by omega) (by decide)
      rw [hszX, hXe] at hap5
      have hX5 := (hbl5 w.heap.size (by omega)).trans ((hBX.block _ (by omega)).trans hX)
      have hY5 := (hbl5 (w.heap.size + 1) (by omega)).trans ((hBX.block _ (by omega)).trans hY)
      have hZ5 := (hbl5 (w.heap.size + 2) (by omega)).trans ((hBX.block _ (by omega)).trans hZ)
      have d1 := cell_of_cells hZ5 1
      have d2 := frozen_of_cells hZ5 1
      simp at d1
      have e1 : w.heap.size + 2 < wr.heap.size := by omega
      have e2 : w.heap.size < wr.heap.size := by omega
      have e3 : w.heap.size + 3 ≤ w5.heap.size := by omega
      have e4 : (k : Int) < 12 := by omega
      have HO := Lib.hid hown5
      clear hc hx hL hown hownX hBX hXe hszX hown5 hbl5 hz5 hsz
      go_wp2_with (at_builtin; refine wp_append_eq rfl (.tmp 34) (.tmp 36) _ rfl rfl rfl hap5 ?_)
      go_roundw
      case rel =>
        refine ⟨k + 1, _, by go_num, by omega, by omega, hB5.setCell (p := ⟨w.heap.size + 2, 1, none⟩) (by show _ ≤ w.heap.size + 2; omega) _, by simpa [World.setCell] using e3, ?_, ?_, heap_set_known hZ5 _, ?_⟩
        · exact (Below.block (B := w.heap.size + 2) ((Below.refl _ w5).setCell (p := ⟨w.heap.size + 2, 1, none⟩) (Nat.le_refl _) _) _ (by omega)).trans hX5
        · exact (Below.block (B := w.heap.size + 2) ((Below.refl _ w5).setCell (p := ⟨w.heap.size + 2, 1, none⟩) (Nat.le_refl _) _) _ (by omega)).trans hY5
        · rw [HS.out]
          exact ownsRow_setCell_below HO.out (a := ⟨w.heap.size + 2, 1, none⟩) (by show w.heap.size + 2 < _; omega) _
      case measure => simp [intOf]; omega
    · have HK : Hid (k = min l.length 12) := by rw [Hid]; omega
      have hT : Hid (((l.take k).map RGr.cut) = (few15 next l).l) := by
        rw [HK.out, few15, Hid]
        show List.map RGr.cut (l.take (min l.length 12)) = List.map RGr.cut (l.take 12)
        rw [Nat.min_comm]
        exact congrArg _ List.take_eq_take_min.symm
      have HL : Hid (((l.take k).map RGr.cut).length = k) := by rw [Hid, List.length_map, List.length_take]; omega
      obtain ⟨va, vc, rfl⟩ := owns_form hown
      have HO := Lib.hid hown
      clear hL hown
      have z0 := cell_of_cells hZ 0
      have z1 := cell_of_cells hZ 1
      have y0 := cell_of_cells hY 0
      have y1 := cell_of_cells hY 1
      have y2 := frozen_of_cells hY 0
      have y3 := frozen_of_cells hY 1
      simp at z0 z1 y0 y1
      clear HK
      have fin : ∀ tm : Array Value, tm[2]?.getD undef = .pointer (some ⟨w.heap.size + 1, 0, none⟩) → bodyPost Tryd.prog Tryd.f6 (fun e w' => ∃ v, e = Ending.returned v ∧ GrantsAt w.heap.size w'.heap.size w' v (few15 next l) ∧ Below w.heap.size w w') Exit.ret { tmps := tm, defers := [] } ((wr.setCell ⟨w.heap.size + 1, 0, none⟩ (.int .u64 next)).setCell ⟨w.heap.size + 1, 1, none⟩ (.slice va k vc)) := by
        intro tm ht
        have hf := set_cells2 (u := .int .u64 next) (v := .slice va k vc) hY
        have f0 := cell_of_cells hf 0
        have f1 := cell_of_cells hf 1
        simp at f0 f1
        have hq := ownsRow_setCell_below (ownsRow_setCell_below HO.out (a := ⟨w.heap.size + 1, 0, none⟩) (by show w.heap.size + 1 < _; omega) (.int .u64 next)) (a := ⟨w.heap.size + 1, 1, none⟩) (by show w.heap.size + 1 < _; omega) (.slice va k vc)
        have hsl := slAt_of_owns hq
        refine bodyPost_ret (v := .agg #[.int .u64 next, .slice va k vc]) (by simp [results, Tryd.f6, go_sem, f0, f1, ht]) rfl ⟨_, rfl, ⟨_, _, _, rfl, ?_, fun x h => by subst h; have := (HO.out.lt x.block rfl).1; omega⟩, (hB.setCell (p := ⟨w.heap.size + 1, 0, none⟩) (Nat.le_succ _) _).setCell (p := ⟨w.heap.size + 1, 1, none⟩) (Nat.le_succ _) _⟩
        unfold Grs
        rw [← hT.out, HL.out]
        exact hsl
      have FI := Lib.hid fin
      clear fin
      go_wp2_with fail
      all_goals exact FI.out _ rfl
end Go.Proofs.YtohfemdjkdjeeaaDoor

/- The laws of grants: what their bodies know of memory. -/
import Derived.Test.YtohfemdjkdjeeaaDoorC3
import Derived.Test.YtohfemdjkdjeeaaDoorA5
namespace Go.Proofs.YtohfemdjkdjeeaaDoor
open Go Go.RowKit Go.Shelf

/-- What a law's body knows once its inputs are cut. -/
structure HeadAt (w : World) (g : Grants) (a1 : Option Addr) (l1 c1 : Nat) (ls : List LabK) (a0 : Option Addr) (lc : Nat) (W : World) : Prop where
  below : Below w.heap.size w W
  box : W.heap[w.heap.size]? = some (.cells #[.int .u64 g.next, .slice a1 l1 c1] 25 (0, 0))
  grs : Grs W.heap.size W (.slice a1 l1 c1) g.l
  labs : Labs W.heap.size W (.slice a0 ls.length lc) (ls.map (·.1))
theorem HeadAt.go {w : World} {g : Grants} {a1 : Option Addr} {l1 c1 : Nat} {ls : List LabK} {a0 : Option Addr} {lc : Nat} {W W' : World} (h : HeadAt w g a1 l1 c1 ls a0 lc W) (hb : Below W.heap.size W W') : HeadAt w g a1 l1 c1 ls a0 lc W' :=
  ⟨h.below.trans (hb.mono h.below.size), (hb.block _ (Array.getElem?_eq_some_iff.1 h.box).1).trans h.box, (SlAt.below hb h.grs).mono hb.size, (SlAt.below hb h.labs).mono hb.size⟩

theorem slAt_far2 {n₀ m m' cap : Nat} {a : Option Addr} {w : World} {cs : List Value} {p : Addr} (hp : ∀ x, a = some x → p.block ≠ x.block) (v : Value) : SlAt n₀ w (.slice a m cap) m' cs → SlAt n₀ (w.setCell p v) (.slice a m cap) m' cs
  | .inl h => .inl h
  | .inr ⟨b, o, c, e, hb, hc⟩ => .inr ⟨b, o, c, e, hb, fun j hj => by
      have ea : a = some ⟨b, o, none⟩ := by injection e
      rw [World.cell?_setCell_other (h := fun h => hp _ ea (by rw [h]))]; exact hc j hj⟩

/-- Grants in a box of their own. -/
def GBox (W : World) (b : Nat) (g : Grants) : Prop := ∃ a len cap, W.heap[b]? = some (.cells #[.int .u64 g.next, .slice a len cap] 25 (0, 0)) ∧ Grs W.heap.size W (.slice a len cap) g.l
theorem GBox.go {W W' : World} {b : Nat} {g : Grants} (h : GBox W b g) (hb : Below W.heap.size W W') : GBox W' b g :=
  let ⟨a, len, cap, h1, h2⟩ := h; ⟨a, len, cap, (hb.block _ (Array.getElem?_eq_some_iff.1 h1).1).trans h1, (SlAt.below hb h2).mono hb.size⟩
theorem gbox_alloc {w6 : World} {a6 : Option Addr} {len6 cap6 : Nat} {g : Grants} (hg : Grs w6.heap.size w6 (.slice a6 len6 cap6) g.l) : GBox (w6.alloc (.cells #[.int .u64 g.next, .slice a6 len6 cap6] 25)) w6.heap.size g :=
  ⟨a6, len6, cap6, World.alloc_heap_new _ _, (SlAt.below ((Below.refl _ _).alloc (Nat.le_refl _) _) hg).mono (by simp)⟩
theorem gbox_store {W w6 : World} {b : Nat} {x y : Value} {a6 : Option Addr} {len6 cap6 : Nat} {g : Grants} (hb6 : Below W.heap.size W w6) (hW : W.heap[b]? = some (.cells #[x, y] 25 (0, 0)))
    (hg : Grs w6.heap.size w6 (.slice a6 len6 cap6) g.l) (hlo : ∀ x, a6 = some x → W.heap.size ≤ x.block) :
    GBox ((w6.setCell ⟨b, 0, none⟩ (.int .u64 g.next)).setCell ⟨b, 1, none⟩ (.slice a6 len6 cap6)) b g := by
  have hlt := (Array.getElem?_eq_some_iff.1 hW).1
  have hne : ∀ x, a6 = some x → b ≠ x.block := fun x h => by have := hlo x h; omega
  refine ⟨a6, len6, cap6, set_cells2 ((hb6.block _ hlt).trans hW), ?_⟩
  have hz : ((w6.setCell ⟨b, 0, none⟩ (.int .u64 g.next)).setCell ⟨b, 1, none⟩ (.slice a6 len6 cap6)).heap.size = w6.heap.size := by simp [World.setCell]
  rw [hz]
  exact slAt_far2 (p := ⟨b, 1, none⟩) hne _ (slAt_far2 (p := ⟨b, 0, none⟩) hne _ hg)
theorem alloc_at {W wc : World} {cs : Array Value} {t : TypeId} (hb : Below (W.alloc (.cells cs t)).drew.heap.size (W.alloc (.cells cs t)).drew wc) : wc.heap[W.heap.size]? = some (.cells cs t (0, 0)) :=
  (hb.block _ (by show _ < (W.alloc (.cells cs t)).heap.size; simp)).trans (World.alloc_heap_new _ _)

/-- What GrantOnce knows: the grants, one more (A), and that one taken back (B). -/
structure OnceAt (w : World) (g : Grants) (a1 : Option Addr) (l1 c1 : Nat) (ls : List LabK) (a0 : Option Addr) (lc : Nat) (bA : Nat) (A : Grants) (aA : Option Addr) (lA cA : Nat) (bB : Nat) (B : Grants) (aB : Option Addr) (lB cB : Nat) (W : World) : Prop where
  head : HeadAt w g a1 l1 c1 ls a0 lc W
  boxA : W.heap[bA]? = some (.cells #[.int .u64 A.next, .slice aA lA cA] 25 (0, 0))
  grsA : Grs W.heap.size W (.slice aA lA cA) A.l
  boxB : W.heap[bB]? = some (.cells #[.int .u64 B.next, .slice aB lB cB] 25 (0, 0))
  grsB : Grs W.heap.size W (.slice aB lB cB) B.l
theorem OnceAt.go {w : World} {g : Grants} {a1 : Option Addr} {l1 c1 : Nat} {ls : List LabK} {a0 : Option Addr} {lc bA : Nat} {A : Grants} {aA : Option Addr} {lA cA bB : Nat} {B : Grants} {aB : Option Addr} {lB cB : Nat} {W W' : World}
    (h : OnceAt w g a1 l1 c1 ls a0 lc bA A aA lA cA bB B aB lB cB W) (hb : Below W.heap.size W W') : OnceAt w g a1 l1 c1 ls a0 lc bA A aA lA cA bB B aB lB cB W' :=
  ⟨h.head.go hb, (hb.block _ (Array.getElem?_eq_some_iff.1 h.boxA).1).trans h.boxA, (SlAt.below hb h.grsA).mono hb.size, (hb.block _ (Array.getElem?_eq_some_iff.1 h.boxB).1).trans h.boxB, (SlAt.below hb h.grsB).mono hb.size⟩
theorem once_at {w : World} {g : Grants} {a1 : Option Addr} {l1 c1 : Nat} {ls : List LabK} {a0 : Option Addr} {lc bA : Nat} {A : Grants} {aA : Option Addr} {lA cA : Nat} {B : Grants} {aB : Option Addr} {lB cB : Nat} {W : World}
    (h : HeadAt w g a1 l1 c1 ls a0 lc W) (hA : W.heap[bA]? = some (.cells #[.int .u64 A.next, .slice aA lA cA] 25 (0, 0))) (hgA : Grs W.heap.size W (.slice aA lA cA) A.l) (hgB : Grs W.heap.size W (.slice aB lB cB) B.l) :
    OnceAt w g a1 l1 c1 ls a0 lc bA A aA lA cA W.heap.size B aB lB cB (W.alloc (.cells #[.int .u64 B.next, .slice aB lB cB] 25)) :=
  have hb : Below W.heap.size W (W.alloc (.cells #[.int .u64 B.next, .slice aB lB cB] 25)) := (Below.refl _ _).alloc (Nat.le_refl _) _
  ⟨h.go hb, (hb.block _ (Array.getElem?_eq_some_iff.1 hA).1).trans hA, (SlAt.below hb hgA).mono hb.size, World.alloc_heap_new _ _, (SlAt.below hb hgB).mono hb.size⟩
end Go.Proofs.YtohfemdjkdjeeaaDoor

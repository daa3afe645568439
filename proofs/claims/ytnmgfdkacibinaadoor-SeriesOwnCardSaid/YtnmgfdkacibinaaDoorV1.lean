/- What SeriesOrders and SeriesOwn have in common: boxes of series that are stored into; Put as a function. -/
import Derived.Test.YtnmgfdkacibinaaDoorT9
import Derived.Test.YtnmgfdkacibinaaDoorP1
namespace Go.Proofs.YtnmgfdkacibinaaDoor
open Go Go.RowKit Go.Shelf

theorem SerP.At.apart {B : Nat} {A A' : World} {x : Ser} {p : SerP} (h : p.At A.heap.size A x) (ho : p.Off (· ≠ B)) (ha : Apart B A A') : p.At A'.heap.size A' x := (h.frame ho ha.2).mono ha.1
theorem Tab.apart {B : Nat} {A A' : World} {a : Option Addr} {len cap : Nat} {l : List (Ser × SerP)} (h : Tab A.heap.size A a len cap l) (hr : ∀ z, a = some z → 0 < cap → z.block ≠ B) (ho : ∀ e ∈ l, e.2.Off (· ≠ B)) (ha : Apart B A A') : Tab A'.heap.size A' a len cap l :=
  ⟨h.row.apart hr ha, fun e he => (h.at_ e he).apart (ho e he) ha⟩
theorem box12 {W : World} {B : Nat} {x0 x1 x2 x3 x4 x5 x6 x7 x8 x9 x10 x11 : Value} {t : TypeId} (h : W.heap[B]? = some (.cells #[x0, x1, x2, x3, x4, x5, x6, x7, x8, x9, x10, x11] t (0, 0))) (v0 v1 v2 v3 v4 v5 v6 v7 v8 v9 v10 v11 : Value) :
    ∃ V, ((((((((((((W.setCell ⟨B, 0, none⟩ v0).setCell ⟨B, 1, none⟩ v1).setCell ⟨B, 2, none⟩ v2).setCell ⟨B, 3, none⟩ v3).setCell ⟨B, 4, none⟩ v4).setCell ⟨B, 5, none⟩ v5).setCell ⟨B, 6, none⟩ v6).setCell ⟨B, 7, none⟩ v7).setCell ⟨B, 8, none⟩ v8).setCell ⟨B, 9, none⟩ v9).setCell ⟨B, 10, none⟩ v10).setCell ⟨B, 11, none⟩ v11) = V ∧
      V.heap[B]? = some (.cells #[v0, v1, v2, v3, v4, v5, v6, v7, v8, v9, v10, v11] t (0, 0)) ∧ Apart B W V ∧ (∀ n w0, n ≤ B → Below n w0 W → Below n w0 V) ∧ V.heap.size ≤ W.heap.size ∧ W.heap.size ≤ V.heap.size :=
  ⟨_, rfl, set12 h, (((((((((((Apart.set 0 v0).trans (Apart.set 1 v1)).trans (Apart.set 2 v2)).trans (Apart.set 3 v3)).trans (Apart.set 4 v4)).trans (Apart.set 5 v5)).trans (Apart.set 6 v6)).trans (Apart.set 7 v7)).trans (Apart.set 8 v8)).trans (Apart.set 9 v9)).trans (Apart.set 10 v10)).trans (Apart.set 11 v11),
    fun _ _ hn hb => below_sets12 hb hn .., Nat.le_of_eq (sets12_size W B ..), Nat.le_of_eq (sets12_size W B ..).symm⟩
theorem cut_off {p p' : SerP} {n m : Nat} (h : p.Off (· < n)) (e : p'.ss = p.ss.cut) (hl : ∀ z, p'.la = some z → m ≤ z.block) : p'.Off (fun b => b < n ∨ m ≤ b) := by
  obtain ⟨la, ll, lc, s⟩ := p'
  dsimp only at e hl
  subst e
  exact ⟨fun z hz _ => .inr (hl z hz), fun z h1 h2 => .inl (h.e z h1 h2), fun z h1 h2 => .inl (h.c z h1 h2), fun z h1 h2 => .inl (h.g z h1 h2)⟩

def putE (L : List Ser) (x : Ser) : Int := if putOk L x then 0 else 120
def putR (L : List Ser) (x : Ser) : List Ser := if putOk L x then putL L x else []
theorem putE_or (L : List Ser) (x : Ser) : putE L x = 0 ∨ putE L x = 120 := by unfold putE; split; exact .inl rfl; exact .inr rfl
theorem putE_ok {L : List Ser} {x : Ser} (h : putE L x = 0) : putOk L x = true := by
  unfold putE at h
  split at h
  · assumption
  · cases h
theorem putR_ok {L : List Ser} {x : Ser} (h : putOk L x = true) : putR L x = putL L x := if_pos h
theorem putE_of {L : List Ser} {x : Ser} (h : putOk L x = true) : putE L x = 0 := if_pos h
theorem fine_putR {L : List Ser} {x : Ser} (h : ∀ y ∈ L, y.fine) (hx : x.fine) : ∀ y ∈ putR L x, y.fine := by
  unfold putR
  split
  · exact fine_put h hx
  · intro y hy; cases hy
theorem orders_same {L : List Ser} {a b : Ser} (h : a.l = b.l) (h1 : putE L a = 0) (h2 : putE (putR L a) b = 0) : putE L b = 0 ∧ putR (putR L a) b = putR L b := by
  have k1 := putE_ok h1
  rw [putR_ok k1] at h2 ⊢
  obtain ⟨h3, h4⟩ := put_same h k1 (putE_ok h2)
  exact ⟨putE_of h3, by rw [putR_ok (putE_ok h2), putR_ok h3, h4]⟩
theorem orders_swap {L : List Ser} {a b : Ser} (h : a.l ≠ b.l) (h1 : putE L a = 0) (h2 : putE (putR L a) b = 0) : putE L b = 0 ∧ putE (putR L b) a = 0 ∧ putR (putR L a) b = putR (putR L b) a := by
  have k1 := putE_ok h1
  rw [putR_ok k1] at h2 ⊢
  obtain ⟨h3, h4, h5⟩ := put_swap h k1 (putE_ok h2)
  rw [putR_ok h3]
  exact ⟨putE_of h3, putE_of h4, by rw [putR_ok (putE_ok h2), putR_ok h4, h5]⟩

theorem series_Put_fn (l : List (Ser × SerP)) (a : Option Addr) (len cap : Nat) (x : Ser) (p : SerP) (w : World) (hT : Tab w.heap.size w a len cap l) (hF : ∀ y ∈ l.map (·.1), y.fine) (hP : p.At w.heap.size w x) (hx : x.fine) (hG : GW w) :
    Calls Tryd.prog 24 #[.slice a len cap, .agg #[.slice p.la p.ll p.lc, .int .i64 x.sk.kind, .int .i64 x.sk.level, .slice p.ss.ea p.ss.el p.ss.ec, .int .i64 x.sk.hb, .string x.sk.hr, .int .i64 x.sk.cr, .int .i64 x.sk.cc, .slice p.ss.ca p.ss.cl p.ss.cc, .int .i64 x.sk.gf, .slice p.ss.ga p.ss.gl p.ss.gc, .int .u64 x.seen]] w fun e w' => ∃ a' cap' m, e = .returned (.tuple #[.slice a' (List.length m) cap', .int .i64 (putE (l.map (·.1)) x)]) ∧ Tab w'.heap.size w' a' m.length cap' m ∧ m.map (·.1) = putR (l.map (·.1)) x ∧ Below w.heap.size w w' ∧ (∀ z, a' = some z → w.heap.size ≤ z.block) ∧ (∀ e ∈ m, e.2.Off (fun b => w.heap.size ≤ b ∧ ∀ z, a' = some z → b ≠ z.block)) ∧ (∀ z, a' = some z → Loose w' z.block) ∧ (∀ e ∈ m, LabFree w' e) :=
  (series_Put_any l a len cap x p w hT (tabFit_of hT hF) hP (hx.serFit hP) hG).mono fun e w' h => by
    obtain ⟨hb, ⟨h1, rfl⟩ | ⟨h1, a', cap', m, rfl, h2, h3, h4, h5, h6, h7⟩⟩ := h
    · exact ⟨none, 0, [], by rw [putE, h1]; rfl, Tab.nil, by rw [putR, h1]; rfl, hb, (fun z h => by cases h), (fun e h => by cases h), (fun z h => by cases h), (fun e h => by cases h)⟩
    · exact ⟨a', cap', m, by rw [putE, h1]; rfl, h2, by rw [putR, h1]; exact h3, hb, h4, h5, h6, h7⟩
end Go.Proofs.YtnmgfdkacibinaaDoor

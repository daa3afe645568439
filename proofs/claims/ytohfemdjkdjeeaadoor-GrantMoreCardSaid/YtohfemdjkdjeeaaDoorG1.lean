/- Package grant: the data; Right. -/
import Derived.Test.YtohfemdjkdjeeaaDoorS7
import Derived.Test.YtohfemdjkdjeeaaDoorA3
namespace Go.Proofs.YtohfemdjkdjeeaaDoor
open Go Go.RowKit Go.Shelf

def U64 (n : Int) : Prop := 0 ≤ n ∧ n ≤ 18446744073709551615
structure Gr where
  id : Int
  to : Int
  scope : StrK
def Gr.enc (g : Gr) : List Value := [.int .u64 g.id, .int .u64 g.to, .string g.scope.1]
def Gr.agg (g : Gr) : Value := .agg #[.int .u64 g.id, .int .u64 g.to, .string g.scope.1]
def Gr.ok (g : Gr) : Prop := U64 g.id ∧ U64 g.to
theorem gr_enc_len (g : Gr) : g.enc.length = 3 := rfl
def Grs (n₀ : Nat) (w : World) (sv : Value) (l : List Gr) : Prop := SlAt n₀ w sv l.length (l.flatMap Gr.enc)
structure Grants where
  next : Int
  l : List Gr

def grStep (next : Int) (last : Int) (x : Gr) : Option Int := if x.id ≤ last || next ≤ x.id || !scRight x.scope then none else some x.id
def grRight (g : Grants) : Bool := !decide (g.next < 1) && decide (g.l.length ≤ 10) && (foldO (grStep g.next) 0 g.l).isSome

set_option maxRecDepth 100000 in
set_option maxHeartbeats 2000000 in
theorem grant_Right_mid (g : Grants) (a : Option Addr) (len cap : Nat) (w : World) (hL : Grs w.heap.size w (.slice a len cap) g.l) (hG : GW w) (h1 : 1 ≤ g.next) (h10 : g.l.length ≤ 10) :
    Calls Tryd.prog 11 #[.agg #[.int .u64 g.next, .slice a len cap]] w fun e w' => e = .returned (.bool (foldO (grStep g.next) 0 g.l).isSome) ∧ Below w.heap.size w w' := by
  obtain ⟨hlen, -⟩ := SlAt.elems gr_enc_len hL
  subst hlen
  obtain ⟨next, l⟩ := g
  dsimp only at *
  have t1 : decide (next < 1) = false := by simp; omega
  have t2 : decide ((10 : Int) < l.length) = false := by simp; omega
  go_enter Tryd.func11, Tryd.ntmps11
  go_wp2_with fail
  have hB0 : Below w.heap.size w (w.alloc (.cells #[.int .u64 next, .slice a l.length cap] 25)) := (Below.refl _ w).alloc (Nat.le_refl _) _
  have hsz0 : (w.alloc (.cells #[.int .u64 next, .slice a l.length cap] 25)).heap.size = w.heap.size + 1 := by simp
  have q0 := cell_of_cells (World.alloc_heap_new w (.cells #[.int .u64 next, .slice a l.length cap] 25)) 0
  generalize (w.alloc (.cells #[.int .u64 next, .slice a l.length cap] 25)) = W0 at hB0 hsz0 q0 ⊢
  have hL0 : Grs w.heap.size W0 _ l := SlAt.below hB0 hL
  have hG0 := hG.below hB0
  have q0' : W0.cell? ⟨w.heap.size, 0, none⟩ = some (.int .u64 next) := q0
  clear q0 hL
  go_loopw [3, 18] (fun la i wr => ∃ (k : Nat) (last : Int), i = .int .i64 k ∧ la = .int .u64 last ∧ k ≤ l.length ∧ Below W0.heap.size W0 wr ∧ Hid (foldO (grStep next) 0 (l.take k) = some last)) (fun _ i _ => l.length - (intOf i).toNat)
  case atStart => exact ⟨0, 0, rfl, rfl, Nat.zero_le _, Below.refl _ _, rfl⟩
  case round =>
    obtain ⟨k, last, rfl, rfl, hk, hB, HF⟩ := hrel
    have hszB := hB.size
    by_cases hlt : k < l.length
    · obtain ⟨x, hx⟩ : ∃ x, l[k]? = some x := ⟨_, List.getElem?_eq_getElem hlt⟩
      obtain ⟨b, off, rfl, hbb, hc⟩ := (SlAt.elems gr_enc_len (SlAt.below (hB.mono (by omega)) hL0)).2 k x hx
      have HS := Lib.hid (foldO_step hx HF.out)
      have c0 : wr.cell? ⟨b, off + k * 3, none⟩ = some (.int .u64 x.id) := hc 0 (by omega)
      have c1 : wr.cell? ⟨b, off + k * 3 + 1, none⟩ = some (.int .u64 x.to) := hc 1 (by omega)
      have c2 : wr.cell? ⟨b, off + k * 3 + 2, none⟩ = some (.string x.scope.1) := hc 2 (by omega)
      have qr : wr.cell? ⟨w.heap.size, 0, none⟩ = some (.int .u64 next) := (hB.cell (p := ⟨w.heap.size, 0, none⟩) (by show w.heap.size < _; omega)).trans q0'
      clear hc hx q0' hL0 HF
      have hwl : w.heap.size < wr.heap.size := by omega
      have hBa : Below W0.heap.size W0 (wr.alloc (.cells #[.int .u64 x.id, .int .u64 x.to, .string x.scope.1] 46)) := hB.alloc hszB _
      have hr := scRight_any x.scope _ (hG0.below hBa)
      have cy := cell_of_cells (World.alloc_heap_new wr (.cells #[.int .u64 x.id, .int .u64 x.to, .string x.scope.1] 46)) 0
      have HS' : Hid (∀ bb, (decide (x.id ≤ last) || decide (next ≤ x.id) || !scRight x.scope) = bb → foldO (grStep next) 0 (l.take (k + 1)) = if bb then none else some x.id) := fun bb h => by rw [HS.out, ← h]; rfl
      by_cases u1 : x.id ≤ last
      · go_wp2_with fail
        go_ret
        have h9 : foldO (grStep next) 0 l = none := foldO_none (HS'.out true (by simp [u1]))
        exact ⟨by rw [h9]; rfl, hB0.trans (hBa.mono (by omega))⟩
      have u1' : last < x.id := by omega
      have U1 := Lib.hid u1
      clear u1
      by_cases u2 : next ≤ x.id
      · go_wp2_with fail
        go_ret
        have h9 : foldO (grStep next) 0 l = none := foldO_none (HS'.out true (by simp [u2]))
        exact ⟨by rw [h9]; rfl, hB0.trans (hBa.mono (by omega))⟩
      have u2' : x.id < next := by omega
      have U2 := Lib.hid u2
      clear u2
      cases u3 : scRight x.scope with
      | false =>
        have U3 := Lib.hid u3
        rw [u3] at hr
        clear u3
        go_wp2_with (go_at_call 15; refine hr.mono ?_; rintro e w4 ⟨rfl, hb4⟩)
        go_ret
        have h9 : foldO (grStep next) 0 l = none := foldO_none (HS'.out true (by simp [U3.out]))
        exact ⟨by rw [h9]; rfl, hB0.trans ((hBa.trans (hb4.mono (by simp; omega))).mono (by omega))⟩
      | true =>
        have U3 := Lib.hid u3
        rw [u3] at hr
        clear u3
        go_wp2_with fail
        refine hr.mono ?_
        rintro e w4 ⟨rfl, hb4⟩
        rw [World.size_alloc] at hb4
        have cz : w4.cell? ⟨wr.heap.size, 0, none⟩ = some (.int .u64 x.id) := (hb4.cell (p := ⟨wr.heap.size, 0, none⟩) (Nat.lt_succ_self _)).trans cy
        clear cy hr
        go_wp2_with fail
        go_roundw
        case rel => exact ⟨k + 1, x.id, by go_num, rfl, by omega, hBa.trans (hb4.mono (by omega)), HS'.out false (by simp [U3.out]; have := U1.out; have := U2.out; omega)⟩
        case measure => simp [intOf]; omega
    · obtain rfl : k = l.length := by omega
      clear q0' hL0
      go_wp2_with fail
      go_ret
      have h9 := HF.out
      rw [List.take_length] at h9
      exact ⟨by rw [h9]; rfl, hB0.trans (hB.mono (by omega))⟩
end Go.Proofs.YtohfemdjkdjeeaaDoor

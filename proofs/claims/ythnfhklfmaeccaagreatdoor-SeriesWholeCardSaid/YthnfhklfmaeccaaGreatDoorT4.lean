/- series.add. -/
import Derived.Test.YthnfhklfmaeccaaGreatDoorT3
namespace Go.Proofs.YthnfhklfmaeccaaGreatDoor
open Go Go.RowKit Go.Shelf

/-- A block that may be stored into. -/
def Loose (w : World) (b : Nat) : Prop := ∃ c t, w.heap[b]? = some (.cells c t (0, 0))
theorem Loose.of_heap {A B : World} {b : Nat} (h : Loose A b) (e : B.heap[b]? = A.heap[b]?) : Loose B b := by obtain ⟨c, t, h⟩ := h; exact ⟨c, t, e.trans h⟩
theorem Loose.lt {A : World} {b : Nat} (h : Loose A b) : b < A.heap.size := by obtain ⟨c, t, h⟩ := h; exact (Array.getElem?_eq_some_iff.1 h).1
theorem Loose.go {A B : World} {b : Nat} (h : Loose A b) (hb : Below A.heap.size A B) : Loose B b := h.of_heap (hb.block b h.lt)
theorem owns_loose {w : World} {base e size n m : Nat} {v : Value} {xs : List Value} (h : w.ownsRow base e size v n xs) {a : Option Addr} {c : Nat} (hv : v = .slice a m c) {x : Addr} (hx : a = some x) : Loose w x.block := by
  subst hx
  rcases h.2 with ⟨rfl, _⟩ | ⟨g, cap, cur, rfl, _, hg, _⟩
  · cases hv
  · injection hv with h1 h2 h3
    injection h1 with h1
    subst h1
    exact ⟨_, _, hg⟩
/-- The label list may be stored into. -/
def LabFree (w : World) (e : Ser × SerP) : Prop := ∀ z, e.2.la = some z → 0 < e.2.lc → Loose w z.block
set_option maxHeartbeats 1000000 in
/-- slices.Clone at []api.Label: a slice of its own (nil of nil), that may be stored into. -/
theorem clone_lab_f (a : Option Addr) (len cap : Nat) (l : List Lab) (w : World) (hL : SlE Lab.enc 2 w.heap.size w a len l) (hll : len < 2147483648) :
    Calls Tryz.prog 29 #[.slice a len cap] w fun e w' => ∃ a' cap', e = .returned (.slice a' len cap') ∧ SlC Lab.enc 2 w'.heap.size w' a' len cap' l ∧ (∀ x, a' = some x → w.heap.size ≤ x.block) ∧ Below w.heap.size w w' ∧ (∀ x, a' = some x → Loose w' x.block) := by
  have he := eqlnil_lab a len cap
  have hlen := hL.1
  cases a with
  | none =>
    have hl0 : l = [] := by
      cases l with
      | nil => rfl
      | cons y ys => obtain ⟨b, off, e, _⟩ := hL.2 0 y rfl; cases e
    subst hl0
    obtain rfl : len = 0 := hlen
    clear hL
    go_enter Tryz.func29, Tryz.ntmps29
    go_wp2_with fail
    go_ret
    exact ⟨none, 0, rfl, SlC.nil, (fun x h => by cases h), Below.refl _ _, (fun x h => by cases h)⟩
  | some a =>
    have hB1 : Below w.heap.size w (w.alloc (.cells #[] 32)) := (Below.refl _ w).alloc (Nat.le_refl _) _
    have hown : (w.alloc (.cells #[] 32)).ownsRow w.heap.size 32 2 (.slice (some ⟨w.heap.size, 0, none⟩) 0 0) 0 [] := ⟨rfl, .inr ⟨w.heap.size, 0, #[], rfl, Nat.le_refl _, World.alloc_heap_new _ _, Nat.le_refl _, by unfold maxLen; omega, rfl, rfl⟩⟩
    have hL1 := hL.go hB1
    obtain ⟨v4, w4, hap4, hown4, hB4, hz4, -, -⟩ := append_elems Tryz.prog (cap := cap) 33 und_lab info_lab rfl (by decide) hown hB1 (Nat.le_refl _) (by simp) (fun _ => rfl) hL1 one_lab (by omega) hll (by decide)
    rw [Nat.zero_add, List.nil_append, hlen] at hown4
    have hlo4 : ∀ a c, v4 = .slice a l.length c → ∀ x, a = some x → Loose w4 x.block := fun a c hv x hx => owns_loose hown4 hv hx
    obtain ⟨a4, c4, hv4, hs4, hb4⟩ := slC_of_owns (enc := Lab.enc) (fun _ => rfl) hown4
    have HLo := Lib.hid (hlo4 a4 c4 hv4)
    have HS : Hid (SlC Lab.enc 2 w4.heap.size w4 a4 len c4 l) := by rw [Hid, hlen]; exact hs4
    rw [← hlen] at hv4
    subst hv4
    clear hL hL1 hown hs4 hown4 hlen hlo4
    go_enter Tryz.func29, Tryz.ntmps29
    go_wp2_with (at_builtin; refine wp_append_eq rfl _ _ _ rfl rfl rfl hap4 ?_)
    go_ret
    exact ⟨_, _, rfl, HS.out, hb4, hB4, HLo.out⟩

attribute [-go_sem] Builtin.append_
/-- Nothing but one block changes, and new blocks. -/
def Apart (B : Nat) (A A' : World) : Prop := A.heap.size ≤ A'.heap.size ∧ ∀ b, b < A.heap.size → b ≠ B → A'.heap[b]? = A.heap[b]?
section
variable {B : Nat} {A A' A'' : World}
theorem Apart.of_below (h : Below A.heap.size A A') : Apart B A A' := ⟨h.size, fun b hb _ => h.block b hb⟩
theorem Apart.trans (h : Apart B A A') (h' : Apart B A' A'') : Apart B A A'' := ⟨Nat.le_trans h.1 h'.1, fun b hb hn => (h'.2 b (Nat.lt_of_lt_of_le hb h.1) hn).trans (h.2 b hb hn)⟩
theorem Apart.set (i : Nat) (v : Value) : Apart B A (A.setCell ⟨B, i, none⟩ v) := ⟨by rw [World.size_setCell]; exact Nat.le_refl _, fun b _ hn => heap_set_other (fun h => hn h.symm) v⟩
theorem SlC.apart {α : Type} {enc : α → List Value} {k : Nat} {a : Option Addr} {len cap : Nat} {l : List α} (hs : SlC enc k A.heap.size A a len cap l) (hn : ∀ z, a = some z → 0 < cap → z.block ≠ B) (h : Apart B A A') : SlC enc k A'.heap.size A' a len cap l :=
  (hs.frame (q := (· ≠ B)) hn h.2).mono h.1
end
/-- A store into a block of the call's own. -/
theorem box_set {W : World} {B i : Nat} {c : Array Value} {t : TypeId} (h : W.heap[B]? = some (.cells c t (0, 0))) (v : Value) : ∃ V, W.setCell ⟨B, i, none⟩ v = V ∧ V.heap[B]? = some (.cells (c.setIfInBounds i v) t (0, 0)) ∧ Apart B W V ∧ (∀ n w0, n ≤ B → Below n w0 W → Below n w0 V) ∧ V.heap.size ≤ W.heap.size ∧ W.heap.size ≤ V.heap.size :=
  ⟨_, rfl, heap_set_known h v, Apart.set i v, fun _ _ hn hb => hb.setCell (p := ⟨B, i, none⟩) hn v, Nat.le_of_eq (World.size_setCell ..), Nat.le_of_eq (World.size_setCell ..).symm⟩
theorem GrowS.push_own {base : Nat} {q : Nat → Prop} {W w1 : World} {v v' : Value} {l : List (Ser × SerP)} (h : GrowS base q W v l) (hn : l.length < 4294967) {x : Ser} {p : SerP}
    (hap : (Builtin.append_ #[22, 22] 22 #[v, .slice (some ⟨W.heap.size, 0, none⟩) 1 1]).run Tryz.prog (W.alloc (.cells (serVals x p).toArray 48)) = .ok v' w1) : v'.ownBlock = v.ownBlock ∨ ∃ g, v'.ownBlock = some g ∧ W.heap.size ≤ g := by
  have hcell : ∀ j u, (serVals x p)[j]? = some u → (W.alloc (.cells (serVals x p).toArray 48)).cell? ((⟨W.heap.size, 0, none⟩ : Addr).add j) = some u := fun j u hj => by
    have := cell_of_cells (World.alloc_heap_new W (.cells (serVals x p).toArray 48)) j
    have ea : (⟨W.heap.size, 0, none⟩ : Addr).add j = ⟨W.heap.size, j, none⟩ := by unfold Addr.add; split <;> simp_all
    rw [ea, this]
    simpa using hj
  rcases append_where 22 und_table info_series (h.own.alloc _) (n := l.length) (m := 1) rfl hcell (serEnc_one (x, p)) (by omega) (by unfold maxLen; omega) (by omega) hap with e | ⟨g, e, hg⟩
  · exact .inl e
  · refine .inr ⟨g, e, ?_⟩
    simp at hg
    omega

/-- What the source of an append of copies must be: of Go's sizes. -/
def AddFit (l : List (Ser × SerP)) : Prop := ∀ e ∈ l, e.2.ll < 2147483648 ∧ e.2.ss.Short

set_option maxRecDepth 100000 in
set_option maxHeartbeats 4000000 in
theorem series_add_any (base : Nat) (m : List (Ser × SerP)) (v : Value) (l : List (Ser × SerP)) (a : Option Addr) (len cap : Nat) (w : World) (hbase : base ≤ w.heap.size) (hM : GrowS base (base ≤ ·) w v m) (hT : Tab w.heap.size w a len cap l) (hA : AddFit l) (hn : m.length + l.length < 4294967) (hfar : ∀ z, a = some z → 0 < cap → some z.block ≠ v.ownBlock) (hoff : ∀ e ∈ l, e.2.Off (fun b => some b ≠ v.ownBlock)) (hfree : ∀ e ∈ m, LabFree w e) :
    Calls Tryz.prog 17 #[v, .slice a len cap] w fun e w' => ∃ v' m', e = .returned v' ∧ GrowS base (base ≤ ·) w' v' (m ++ m') ∧ m'.map (·.1) = l.map (·.1) ∧ Below base w w' ∧ (∀ e ∈ m ++ m', LabFree w' e) := by
  have hlen := hT.row.1.1
  subst hlen
  have HT := Lib.hid hT
  have HA := Lib.hid hA
  have HM := Lib.hid hM
  have HO := Lib.hid (And.intro hfar hoff)
  have hm : l.length ≤ maxLen := Nat.le_trans hT.row.2.1 hT.row.2.2.1
  unfold maxLen at hm
  obtain ⟨va, vc, rfl⟩ := hM.form
  have HFree := Lib.hid hfree
  clear hT hA hM hfar hoff hfree
  go_enter Tryz.func17, Tryz.ntmps17
  go_wp2_with fail
  go_loopw [0, 9] (fun v i wr => ∃ (k : Nat) (m' : List (Ser × SerP)), i = .int .i64 k ∧ k ≤ l.length ∧ GrowS base (base ≤ ·) wr v (m ++ m') ∧ Hid (m'.length = k) ∧ Hid (m'.map (·.1) = (l.map (·.1)).take k) ∧ Below base w wr ∧ w.heap.size ≤ wr.heap.size ∧ Hid (∀ b, b < w.heap.size → some b ≠ Value.ownBlock (.slice va m.length vc) → wr.heap[b]? = w.heap[b]? ∧ some b ≠ v.ownBlock) ∧ Hid (∀ e ∈ m ++ m', LabFree wr e)) (fun _ i _ => l.length - (intOf i).toNat)
  case atStart => exact ⟨0, [], rfl, Nat.zero_le _, by rw [List.append_nil]; exact HM.out, rfl, rfl, Below.refl _ _, Nat.le_refl _, (fun b _ h => ⟨rfl, h⟩), by rw [List.append_nil]; exact HFree.out⟩
  case round =>
    obtain ⟨k, m', rfl, hk, hG, HL, HMP, hB, hsz, HFr, HFe⟩ := hrel
    have HG := Lib.hid hG
    obtain ⟨ua, uc, hu⟩ := hG.form
    subst hu
    have hnn : (m ++ m').length < 4294967 := by rw [List.length_append, HL.out]; omega
    obtain ⟨nn, hnE⟩ : ∃ nn, (m ++ m').length = nn := ⟨_, rfl⟩
    have HN := Lib.hid hnE
    rw [hnE] at HG HFr hnn ⊢
    clear hG hnE
    by_cases hlt : k < l.length
    · obtain ⟨⟨x, p⟩, hx⟩ : ∃ x, l[k]? = some x := ⟨_, List.getElem?_eq_getElem hlt⟩
      obtain ⟨b, off, rfl, hbb, hc⟩ := HT.out.row.1.2 k (x, p) hx
      have hblk : wr.heap[b]? = w.heap[b]? := (HFr.out b hbb (HO.out.1 _ rfl (by have := HT.out.row.2.1; omega))).1
      replace hc : ∀ i, i < 12 → wr.cell? ⟨b, off + k * 12 + i, none⟩ = (serEnc (x, p))[i]? := fun i hi => (cell_heap (p := ⟨b, off + k * 12 + i, none⟩) hblk).trans (hc i hi)
      have c0 : wr.cell? ⟨b, off + k * 12, none⟩ = some (.slice p.la p.ll p.lc) := hc 0 (by omega)
      have c1 : wr.cell? ⟨b, off + k * 12 + 1, none⟩ = some (.int .i64 x.sk.kind) := hc 1 (by omega)
      have c2 : wr.cell? ⟨b, off + k * 12 + 2, none⟩ = some (.int .i64 x.sk.level) := hc 2 (by omega)
      have c3 : wr.cell? ⟨b, off + k * 12 + 3, none⟩ = some (.slice p.ss.ea p.ss.el p.ss.ec) := hc 3 (by omega)
      have c4 : wr.cell? ⟨b, off + k * 12 + 4, none⟩ = some (.int .i64 x.sk.hb) := hc 4 (by omega)
      have c5 : wr.cell? ⟨b, off + k * 12 + 5, none⟩ = some (.string x.sk.hr) := hc 5 (by omega)
      have c6 : wr.cell? ⟨b, off + k * 12 + 6, none⟩ = some (.int .i64 x.sk.cr) := hc 6 (by omega)
      have c7 : wr.cell? ⟨b, off + k * 12 + 7, none⟩ = some (.int .i64 x.sk.cc) := hc 7 (by omega)
      have c8 : wr.cell? ⟨b, off + k * 12 + 8, none⟩ = some (.slice p.ss.ca p.ss.cl p.ss.cc) := hc 8 (by omega)
      have c9 : wr.cell? ⟨b, off + k * 12 + 9, none⟩ = some (.int .i64 x.sk.gf) := hc 9 (by omega)
      have c10 : wr.cell? ⟨b, off + k * 12 + 10, none⟩ = some (.slice p.ss.ga p.ss.gl p.ss.gc) := hc 10 (by omega)
      have c11 : wr.cell? ⟨b, off + k * 12 + 11, none⟩ = some (.int .u64 x.seen) := hc 11 (by omega)
      have HX : Hid ((l.map (·.1))[k]? = some x) := by rw [Hid, List.getElem?_map, hx]; rfl
      have HAx := Lib.hid (HA.out _ (List.mem_of_getElem? hx))
      have HP : Hid (p.At wr.heap.size wr x) := ((HT.out.at_ _ (List.mem_of_getElem? hx)).frame (HO.out.2 _ (List.mem_of_getElem? hx)) (fun b hb hq => (HFr.out b hb hq).1)).mono hsz
      obtain ⟨W1, hW1, hX1, hB1, hs1⟩ := boxes1 wr #[.slice p.la p.ll p.lc, .int .i64 x.sk.kind, .int .i64 x.sk.level, .slice p.ss.ea p.ss.el p.ss.ec, .int .i64 x.sk.hb, .string x.sk.hr, .int .i64 x.sk.cr, .int .i64 x.sk.cc, .slice p.ss.ca p.ss.cl p.ss.cc, .int .i64 x.sk.gf, .slice p.ss.ga p.ss.gl p.ss.gc, .int .u64 x.seen] 48
      have r0 : W1.cell? ⟨wr.heap.size, 0, none⟩ = some (.slice p.la p.ll p.lc) := cell_of_cells hX1 0
      have r1 : W1.cell? ⟨wr.heap.size, 1, none⟩ = some (.int .i64 x.sk.kind) := cell_of_cells hX1 1
      have r2 : W1.cell? ⟨wr.heap.size, 2, none⟩ = some (.int .i64 x.sk.level) := cell_of_cells hX1 2
      have r3 : W1.cell? ⟨wr.heap.size, 3, none⟩ = some (.slice p.ss.ea p.ss.el p.ss.ec) := cell_of_cells hX1 3
      have r4 : W1.cell? ⟨wr.heap.size, 4, none⟩ = some (.int .i64 x.sk.hb) := cell_of_cells hX1 4
      have r5 : W1.cell? ⟨wr.heap.size, 5, none⟩ = some (.string x.sk.hr) := cell_of_cells hX1 5
      have r6 : W1.cell? ⟨wr.heap.size, 6, none⟩ = some (.int .i64 x.sk.cr) := cell_of_cells hX1 6
      have r7 : W1.cell? ⟨wr.heap.size, 7, none⟩ = some (.int .i64 x.sk.cc) := cell_of_cells hX1 7
      have r8 : W1.cell? ⟨wr.heap.size, 8, none⟩ = some (.slice p.ss.ca p.ss.cl p.ss.cc) := cell_of_cells hX1 8
      have r9 : W1.cell? ⟨wr.heap.size, 9, none⟩ = some (.int .i64 x.sk.gf) := cell_of_cells hX1 9
      have r10 : W1.cell? ⟨wr.heap.size, 10, none⟩ = some (.slice p.ss.ga p.ss.gl p.ss.gc) := cell_of_cells hX1 10
      have r11 : W1.cell? ⟨wr.heap.size, 11, none⟩ = some (.int .u64 x.seen) := cell_of_cells hX1 11
      have HP1 : Hid (p.At W1.heap.size W1 x) := HP.out.go hB1
      have hz1 : wr.heap.size < W1.heap.size := by omega
      have HN5 : Hid (p.Off (· ≠ wr.heap.size)) := HP.out.off.imp (fun b hb => Nat.ne_of_lt hb)
      clear hc hx hblk
      go_wp2_with fail
      have HA0 : Hid (p.ss.Short) := HAx.out.2
      refine (clone_lab_f p.la p.ll p.lc x.l W1 HP1.out.l.1 HAx.out.1).mono ?_
      rintro e w2 ⟨la', lc', rfl, hl2, hlo2, hb2, hlf2⟩
      have HLf2 := Lib.hid hlf2
      clear hlf2
      have hX2 := known hb2 (Nat.le_refl _) hX1
      have hZ2 := hb2.size
      have g2 : w2.cell? ⟨wr.heap.size, 0, none⟩ = some (.slice p.la p.ll p.lc) := cell_of_cells hX2 0
      have f2 : w2.frozen? ⟨wr.heap.size, 0, none⟩ = false := frozen_of_cells hX2 0
      obtain ⟨V2, hV2, hXV2, hAp2, hBV2, hs2, ht2⟩ := box_set (i := 0) hX2 (.slice la' p.ll lc')
      have d3 : V2.cell? ⟨wr.heap.size, 3, none⟩ = some (.slice p.ss.ea p.ss.el p.ss.ec) := cell_of_cells hXV2 3
      have HPe : Hid (SlC encU 1 V2.heap.size V2 p.ss.ea p.ss.el p.ss.ec x.sk.e) := ((HP1.out.go hb2).s.e).apart (HN5.out.e) hAp2
      have HPc : Hid (SlC encU 1 V2.heap.size V2 p.ss.ca p.ss.cl p.ss.cc x.sk.cl) := ((HP1.out.go hb2).s.c).apart (HN5.out.c) hAp2
      have HPg : Hid (SlC encB 2 V2.heap.size V2 p.ss.ga p.ss.gl p.ss.gc x.sk.gl) := ((HP1.out.go hb2).s.g).apart (HN5.out.g) hAp2
      have HL2 : Hid (SlC Lab.enc 2 V2.heap.size V2 la' p.ll lc' x.l) := hl2.apart (fun z hz _ => by have := hlo2 z hz; omega) hAp2
      have HB2 : Hid (Below wr.heap.size wr V2) := hBV2 _ _ (Nat.le_refl _) (hB1.trans (hb2.mono (by omega)))
      clear r0 r1 r2 r3 r4 r5 r6 r7 r8 r9 r10 r11 c0 c1 c2 c3 c4 c5 c6 c7 c8 c9 c10 c11 hX1 hW1 hX2 hl2
      go_wp2_with fail
      refine (clone_u64 p.ss.ea p.ss.el p.ss.ec x.sk.e V2 HPe.out.1 HA0.out.1).mono ?_
      rintro e w3 ⟨ea', ec', rfl, hl3, hlo3, hb3⟩
      have hX3 := known hb3 (Nat.le_refl _) hXV2
      have hZ3 := hb3.size
      have g3 : w3.cell? ⟨wr.heap.size, 3, none⟩ = some (.slice p.ss.ea p.ss.el p.ss.ec) := cell_of_cells hX3 3
      have f3 : w3.frozen? ⟨wr.heap.size, 3, none⟩ = false := frozen_of_cells hX3 3
      obtain ⟨V3, hV3, hXV3, hAp3, hBV3, hs3, ht3⟩ := box_set (i := 3) hX3 (.slice ea' p.ss.el ec')
      have d8 : V3.cell? ⟨wr.heap.size, 8, none⟩ = some (.slice p.ss.ca p.ss.cl p.ss.cc) := cell_of_cells hXV3 8
      have HPc3 : Hid (SlC encU 1 V3.heap.size V3 p.ss.ca p.ss.cl p.ss.cc x.sk.cl) := (HPc.out.go hb3).apart (HN5.out.c) hAp3
      have HPg3 : Hid (SlC encB 2 V3.heap.size V3 p.ss.ga p.ss.gl p.ss.gc x.sk.gl) := (HPg.out.go hb3).apart (HN5.out.g) hAp3
      have HL3 : Hid (SlC Lab.enc 2 V3.heap.size V3 la' p.ll lc' x.l) := (HL2.out.go hb3).apart (fun z hz _ => by have := hlo2 z hz; omega) hAp3
      have HE3 : Hid (SlC encU 1 V3.heap.size V3 ea' p.ss.el ec' x.sk.e) := hl3.apart (fun z hz _ => by have := hlo3 z hz; omega) hAp3
      have HB3 : Hid (Below wr.heap.size wr V3) := hBV3 _ _ (Nat.le_refl _) (HB2.out.trans (hb3.mono (by omega)))
      clear hV2 hXV2 g2 f2 d3 hX3 hl3
      go_wp2_with fail
      refine (clone_u64 p.ss.ca p.ss.cl p.ss.cc x.sk.cl V3 HPc3.out.1 HA0.out.2.1).mono ?_
      rintro e w4 ⟨ca', cc', rfl, hl4, hlo4, hb4⟩
      have hX4 := known hb4 (Nat.le_refl _) hXV3
      have hZ4 := hb4.size
      have g4 : w4.cell? ⟨wr.heap.size, 8, none⟩ = some (.slice p.ss.ca p.ss.cl p.ss.cc) := cell_of_cells hX4 8
      have f4 : w4.frozen? ⟨wr.heap.size, 8, none⟩ = false := frozen_of_cells hX4 8
      obtain ⟨V4, hV4, hXV4, hAp4, hBV4, hs4, ht4⟩ := box_set (i := 8) hX4 (.slice ca' p.ss.cl cc')
      have d10 : V4.cell? ⟨wr.heap.size, 10, none⟩ = some (.slice p.ss.ga p.ss.gl p.ss.gc) := cell_of_cells hXV4 10
      have HPg4 : Hid (SlC encB 2 V4.heap.size V4 p.ss.ga p.ss.gl p.ss.gc x.sk.gl) := (HPg3.out.go hb4).apart (HN5.out.g) hAp4
      have HL4 : Hid (SlC Lab.enc 2 V4.heap.size V4 la' p.ll lc' x.l) := (HL3.out.go hb4).apart (fun z hz _ => by have := hlo2 z hz; omega) hAp4
      have HE4 : Hid (SlC encU 1 V4.heap.size V4 ea' p.ss.el ec' x.sk.e) := (HE3.out.go hb4).apart (fun z hz _ => by have := hlo3 z hz; omega) hAp4
      have HC4 : Hid (SlC encU 1 V4.heap.size V4 ca' p.ss.cl cc' x.sk.cl) := hl4.apart (fun z hz _ => by have := hlo4 z hz; omega) hAp4
      have HB4 : Hid (Below wr.heap.size wr V4) := hBV4 _ _ (Nat.le_refl _) (HB3.out.trans (hb4.mono (by omega)))
      clear hV3 hXV3 g3 f3 d8 hX4 hl4
      go_wp2_with fail
      refine (clone_bin p.ss.ga p.ss.gl p.ss.gc x.sk.gl V4 HPg4.out.1 HA0.out.2.2).mono ?_
      rintro e w5 ⟨ga', gc', rfl, hl5, hlo5, hb5⟩
      have hX5 := known hb5 (Nat.le_refl _) hXV4
      have hZ5 := hb5.size
      have g5 : w5.cell? ⟨wr.heap.size, 10, none⟩ = some (.slice p.ss.ga p.ss.gl p.ss.gc) := cell_of_cells hX5 10
      have f5 : w5.frozen? ⟨wr.heap.size, 10, none⟩ = false := frozen_of_cells hX5 10
      obtain ⟨V5, hV5, hXV5, hAp5, hBV5, hs5, ht5⟩ := box_set (i := 10) hX5 (.slice ga' p.ss.gl gc')
      have HL5 := (HL4.out.go hb5).apart (fun z hz _ => by have := hlo2 z hz; omega) hAp5
      have HE5 := (HE4.out.go hb5).apart (fun z hz _ => by have := hlo3 z hz; omega) hAp5
      have HC5 := (HC4.out.go hb5).apart (fun z hz _ => by have := hlo4 z hz; omega) hAp5
      have HG5 := hl5.apart (fun z hz _ => by have := hlo5 z hz; omega) hAp5
      have hB5 : Below wr.heap.size wr V5 := hBV5 _ _ (Nat.le_refl _) (HB4.out.trans (hb5.mono (by omega)))
      have hApp : Apart wr.heap.size w2 V5 := (((((hAp2.trans (Apart.of_below hb3)).trans hAp3).trans (Apart.of_below hb4)).trans hAp4).trans (Apart.of_below hb5)).trans hAp5
      have HLf5 : Hid (∀ z, la' = some z → Loose V5 z.block) := fun z hz => (HLf2.out z hz).of_heap (hApp.2 _ (HLf2.out z hz).lt (by have := hlo2 z hz; omega))
      clear hApp
      obtain ⟨p', hp'⟩ : ∃ p' : SerP, p' = ⟨la', p.ll, lc', ⟨ea', p.ss.el, ec', ca', p.ss.cl, cc', ga', p.ss.gl, gc'⟩⟩ := ⟨_, rfl⟩
      have HAt : p'.At V5.heap.size V5 x := by subst hp'; exact ⟨HL5, HE5, HC5, HG5⟩
      have HOf : p'.Off (fun b => base ≤ b ∧ some b ≠ Value.ownBlock (.slice ua nn uc)) := by
        have hlt := HG.out.own.lt
        have hk0 : ∀ z, wr.heap.size ≤ z → base ≤ z ∧ some z ≠ Value.ownBlock (.slice ua nn uc) := fun z hz => ⟨by have := hB.size; omega, fun h => by have := (hlt z h.symm).2; omega⟩
        subst hp'
        exact ⟨fun z h1 _ => hk0 _ (by have := hlo2 z h1; omega), fun z h1 _ => hk0 _ (by have := hlo3 z h1; omega), fun z h1 _ => hk0 _ (by have := hlo4 z h1; omega), fun z h1 _ => hk0 _ (by have := hlo5 z h1; omega)⟩
      obtain ⟨g6, cap6, w6, hap6, hG6, hB6, hz6, hfr6⟩ := (HG.out.go hB5).push (hB.trans (hB5.mono (by omega))) (Nat.le_refl _) (by have := hB5.size; omega) (by rw [HN.out]; exact hnn) HAt HOf
      have hown6 := (HG.out.go hB5).push_own (by rw [HN.out]; exact hnn) hap6
      rw [HN.out] at hap6 hG6 hown6
      have s0 : V5.cell? ⟨wr.heap.size, 0, none⟩ = some (.slice la' p.ll lc') := cell_of_cells hXV5 0
      have s1 : V5.cell? ⟨wr.heap.size, 1, none⟩ = some (.int .i64 x.sk.kind) := cell_of_cells hXV5 1
      have s2 : V5.cell? ⟨wr.heap.size, 2, none⟩ = some (.int .i64 x.sk.level) := cell_of_cells hXV5 2
      have s3 : V5.cell? ⟨wr.heap.size, 3, none⟩ = some (.slice ea' p.ss.el ec') := cell_of_cells hXV5 3
      have s4 : V5.cell? ⟨wr.heap.size, 4, none⟩ = some (.int .i64 x.sk.hb) := cell_of_cells hXV5 4
      have s5 : V5.cell? ⟨wr.heap.size, 5, none⟩ = some (.string x.sk.hr) := cell_of_cells hXV5 5
      have s6 : V5.cell? ⟨wr.heap.size, 6, none⟩ = some (.int .i64 x.sk.cr) := cell_of_cells hXV5 6
      have s7 : V5.cell? ⟨wr.heap.size, 7, none⟩ = some (.int .i64 x.sk.cc) := cell_of_cells hXV5 7
      have s8 : V5.cell? ⟨wr.heap.size, 8, none⟩ = some (.slice ca' p.ss.cl cc') := cell_of_cells hXV5 8
      have s9 : V5.cell? ⟨wr.heap.size, 9, none⟩ = some (.int .i64 x.sk.gf) := cell_of_cells hXV5 9
      have s10 : V5.cell? ⟨wr.heap.size, 10, none⟩ = some (.slice ga' p.ss.gl gc') := cell_of_cells hXV5 10
      have s11 : V5.cell? ⟨wr.heap.size, 11, none⟩ = some (.int .u64 x.seen) := cell_of_cells hXV5 11
      have FI : Hid (∃ m'' : List (Ser × SerP), GrowS base (base ≤ ·) w6 (.slice (some ⟨g6, 0, none⟩) (nn + 1) cap6) (m ++ m'') ∧ m''.length = k + 1 ∧ m''.map (·.1) = (l.map (·.1)).take (k + 1) ∧ Below base w w6 ∧ w.heap.size ≤ w6.heap.size ∧ (∀ b, b < w.heap.size → some b ≠ Value.ownBlock (.slice va m.length vc) → w6.heap[b]? = w.heap[b]? ∧ some b ≠ Value.ownBlock (.slice (some ⟨g6, 0, none⟩) (nn + 1) cap6)) ∧ (∀ e ∈ m ++ m'', LabFree w6 e)) := by
        have hz5 := hB5.size
        refine ⟨m' ++ [(x, p')], by rw [← List.append_assoc]; exact hG6, by rw [List.length_append, HL.out]; rfl, ?_, hB6, by omega, fun c hc hc2 => ?_, fun e he z hz hz0 => ?_⟩
        · rw [List.map_append, HMP.out, take_snoc' HX.out]; rfl
        · obtain ⟨h1, h2⟩ := HFr.out c hc hc2
          refine ⟨(hfr6 c (by omega) h2).trans ((hB5.block c (by omega)).trans h1), ?_⟩
          rcases hown6 with h | ⟨g, h, hg⟩
          · rw [h]; exact h2
          · rw [h]; intro h3; injection h3 with h3; omega
        · rw [← List.append_assoc] at he
          rcases List.mem_append.1 he with he | he
          · have h1 := HFe.out e he z hz hz0
            have h2 := h1.lt
            exact (h1.of_heap (hB5.block _ h2)).of_heap (hfr6 _ (by omega) ((HG.out.off e he).l z hz hz0).2)
          · rw [List.mem_singleton] at he
            subst he
            have h3 := HOf.l z hz hz0
            subst hp'
            have h1 := HLf5.out z hz
            exact h1.of_heap (hfr6 _ h1.lt h3.2)
      unfold serVals at hap6
      clear hs1
      subst hp'
      dsimp only at hap6
      clear hV4 hXV4 g4 f4 d10 hX5 hl5 HL5 HE5 HC5 HG5 hAp5 hAp4 hAp3 hAp2 hG6 hfr6 hown6 HOf HAt hXV5 hBV5 hBV4 hBV3 hBV2
      go_wp2_with fail
      go_roundw
      case rel =>
        obtain ⟨m'', h1, h2, h3, h4, h5, h6, h7⟩ := FI.out
        exact ⟨k + 1, m'', by go_num, by omega, h1, h2, h3, h4, h5, h6, h7⟩
      case measure => simp [intOf]; omega
    · have H9 : Hid (m'.map (·.1) = l.map (·.1)) := by rw [Hid, HMP.out, List.take_of_length_le (by rw [List.length_map]; omega)]
      go_wp2_with fail
      go_ret
      exact ⟨_, rfl, m', HG.out, H9.out, hB, fun a b h => HFe.out (a, b) (List.mem_append.2 h)⟩
end Go.Proofs.YthnfhklfmaeccaaGreatDoor

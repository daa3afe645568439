/- series.add. series.Put: printed by wip/tools/gen_t5.py. series.Put. Series of Go's sizes; aviarylaw12.shown. A series as an argument has it. The plain law of tables: labels are in a strict order; a series put in is inserted; two of different labels may be put in either way about. No program. -/
import Derived.Test.YtpnlmfilmbodfaaGreatDoorVT7
import Derived.Test.YtpnlmfilmbodfaaGreatDoorVH0
namespace Go.Proofs.YtpnlmfilmbodfaaGreatDoor
open Go Go.RowKit Go.Shelf
def Loose (w : World) (b : Nat) : Prop := ∃ c t, w.heap[b]? = some (.cells c t (0, 0))
theorem Loose.of_heap {A B : World} {b : Nat} (h : Loose A b) (e : B.heap[b]? = A.heap[b]?) : Loose B b := by obtain ⟨c, t, h⟩ := h; exact ⟨c, t, e.trans h⟩
theorem Loose.lt {A : World} {b : Nat} (h : Loose A b) : b < A.heap.size := by obtain ⟨c, t, h⟩ := h; exact (Array.getElem?_eq_some_iff.1 h).1
theorem Loose.go {A B : World} {b : Nat} (h : Loose A b) (hb : Below A.heap.size A B) : Loose B b := h.of_heap (hb.block b h.lt)
theorem owns_loose {w : World} {base e size n m : Nat} {v : Value} {xs : List Value} (h : w.ownsRow base e size v n xs) {a : Option Addr} {c : Nat} (hv : v = .slice a m c) {x : Addr} (hx : a = some x) : Loose w x.block := by
  subst hx
  rcases h.2 with ⟨rfl, _⟩ | ⟨g, cap, cur, rfl, _, hg, _⟩
  · cases hv
  · injection hv with h1 h2 h3
    injection h1 with h1
    subst h1
    exact ⟨_, _, hg⟩
def LabFree (w : World) (e : Ser × SerP) : Prop := ∀ z, e.2.la = some z → 0 < e.2.lc → Loose w z.block
set_option maxHeartbeats 1000000 in
theorem clone_lab_f (a : Option Addr) (len cap : Nat) (l : List Lab) (w : World) (hL : SlE Lab.enc 2 w.heap.size w a len l) (hll : len < 2147483648) :
    Calls Tryz.prog 165 #[.slice a len cap] w fun e w' => ∃ a' cap', e = .returned (.slice a' len cap') ∧ SlC Lab.enc 2 w'.heap.size w' a' len cap' l ∧ (∀ x, a' = some x → w.heap.size ≤ x.block) ∧ Below w.heap.size w w' ∧ (∀ x, a' = some x → Loose w' x.block) := by
  have he := eqlnil_lab a len cap
  have hlen := hL.1
  cases a with
  | none =>
    have hl0 : l = [] := by
      cases l with
      | nil => rfl
      | cons y ys => obtain ⟨b, off, e, _⟩ := hL.2 0 y rfl; cases e
    subst hl0
    obtain rfl : len = 0 := hlen
    clear hL
    go_enter Tryz.func165, Tryz.ntmps165
    go_wp2_with fail
    go_ret
    exact ⟨none, 0, rfl, SlC.nil, (fun x h => by cases h), Below.refl _ _, (fun x h => by cases h)⟩
  | some a =>
    have hB1 : Below w.heap.size w (w.alloc (.cells #[] 148)) := (Below.refl _ w).alloc (Nat.le_refl _) _
    have hown : (w.alloc (.cells #[] 148)).ownsRow w.heap.size 148 2 (.slice (some ⟨w.heap.size, 0, none⟩) 0 0) 0 [] := ⟨rfl, .inr ⟨w.heap.size, 0, #[], rfl, Nat.le_refl _, World.alloc_heap_new _ _, Nat.le_refl _, by unfold maxLen; omega, rfl, rfl⟩⟩
    have hL1 := hL.go hB1
    obtain ⟨v4, w4, hap4, hown4, hB4, hz4, -, -⟩ := append_elems Tryz.prog (cap := cap) 62 und_lab info_lab rfl (by decide) hown hB1 (Nat.le_refl _) (by simp) (fun _ => rfl) hL1 one_lab (by omega) hll (by decide)
    rw [Nat.zero_add, List.nil_append, hlen] at hown4
    have hlo4 : ∀ a c, v4 = .slice a l.length c → ∀ x, a = some x → Loose w4 x.block := fun a c hv x hx => owns_loose hown4 hv hx
    obtain ⟨a4, c4, hv4, hs4, hb4⟩ := slC_of_owns (enc := Lab.enc) (fun _ => rfl) hown4
    have HLo := Lib.hid (hlo4 a4 c4 hv4)
    have HS : Hid (SlC Lab.enc 2 w4.heap.size w4 a4 len c4 l) := by rw [Hid, hlen]; exact hs4
    rw [← hlen] at hv4
    subst hv4
    clear hL hL1 hown hs4 hown4 hlen hlo4
    go_enter Tryz.func165, Tryz.ntmps165
    go_wp2_with (at_builtin; refine wp_append_eq rfl _ _ _ rfl rfl rfl hap4 ?_)
    go_ret
    exact ⟨_, _, rfl, HS.out, hb4, hB4, HLo.out⟩
attribute [-go_sem] Builtin.append_
def Apart (B : Nat) (A A' : World) : Prop := A.heap.size ≤ A'.heap.size ∧ ∀ b, b < A.heap.size → b ≠ B → A'.heap[b]? = A.heap[b]?
section
variable {B : Nat} {A A' A'' : World}
theorem Apart.of_below (h : Below A.heap.size A A') : Apart B A A' := ⟨h.size, fun b hb _ => h.block b hb⟩
theorem Apart.trans (h : Apart B A A') (h' : Apart B A' A'') : Apart B A A'' := ⟨Nat.le_trans h.1 h'.1, fun b hb hn => (h'.2 b (Nat.lt_of_lt_of_le hb h.1) hn).trans (h.2 b hb hn)⟩
theorem Apart.set (i : Nat) (v : Value) : Apart B A (A.setCell ⟨B, i, none⟩ v) := ⟨by rw [World.size_setCell]; exact Nat.le_refl _, fun b _ hn => heap_set_other (fun h => hn h.symm) v⟩
theorem SlC.apart {α : Type} {enc : α → List Value} {k : Nat} {a : Option Addr} {len cap : Nat} {l : List α} (hs : SlC enc k A.heap.size A a len cap l) (hn : ∀ z, a = some z → 0 < cap → z.block ≠ B) (h : Apart B A A') : SlC enc k A'.heap.size A' a len cap l :=
  (hs.frame (q := (· ≠ B)) hn h.2).mono h.1
end
theorem box_set {W : World} {B i : Nat} {c : Array Value} {t : TypeId} (h : W.heap[B]? = some (.cells c t (0, 0))) (v : Value) : ∃ V, W.setCell ⟨B, i, none⟩ v = V ∧ V.heap[B]? = some (.cells (c.setIfInBounds i v) t (0, 0)) ∧ Apart B W V ∧ (∀ n w0, n ≤ B → Below n w0 W → Below n w0 V) ∧ V.heap.size ≤ W.heap.size ∧ W.heap.size ≤ V.heap.size :=
  ⟨_, rfl, hSk h v, Apart.set i v, fun _ _ hn hb => hb.setCell (p := ⟨B, i, none⟩) hn v, Nat.le_of_eq (World.size_setCell ..), Nat.le_of_eq (World.size_setCell ..).symm⟩
theorem GrowS.push_own {base : Nat} {q : Nat → Prop} {W w1 : World} {v v' : Value} {l : List (Ser × SerP)} (h : GrowS base q W v l) (hn : l.length < 4294967) {x : Ser} {p : SerP}
    (hap : (Builtin.append_ #[57, 57] 57 #[v, .slice (some ⟨W.heap.size, 0, none⟩) 1 1]).run Tryz.prog (W.alloc (.cells (serVals x p).toArray 64)) = .ok v' w1) : v'.ownBlock = v.ownBlock ∨ ∃ g, v'.ownBlock = some g ∧ W.heap.size ≤ g := by
  have hcell : ∀ j u, (serVals x p)[j]? = some u → (W.alloc (.cells (serVals x p).toArray 64)).cell? ((⟨W.heap.size, 0, none⟩ : Addr).add j) = some u := fun j u hj => by
    have := cCc (World.alloc_heap_new W (.cells (serVals x p).toArray 64)) j
    have ea : (⟨W.heap.size, 0, none⟩ : Addr).add j = ⟨W.heap.size, j, none⟩ := by unfold Addr.add; split <;> simp_all
    rw [ea, this]
    simpa using hj
  rcases append_where 57 und_table info_series (h.own.alloc _) (n := l.length) (m := 1) rfl hcell (serEnc_one (x, p)) (by omega) (by unfold maxLen; omega) (by omega) hap with e | ⟨g, e, hg⟩
  · exact .inl e
  · refine .inr ⟨g, e, ?_⟩
    simp at hg
    omega
def AddFit (l : List (Ser × SerP)) : Prop := ∀ e ∈ l, e.2.ll < 2147483648 ∧ e.2.ss.Short
set_option maxRecDepth 100000 in
set_option maxHeartbeats 4000000 in
theorem series_add_any (base : Nat) (m : List (Ser × SerP)) (v : Value) (l : List (Ser × SerP)) (a : Option Addr) (len cap : Nat) (w : World) (hbase : base ≤ w.heap.size) (hM : GrowS base (base ≤ ·) w v m) (hT : Tab w.heap.size w a len cap l) (hA : AddFit l) (hn : m.length + l.length < 4294967) (hfar : ∀ z, a = some z → 0 < cap → some z.block ≠ v.ownBlock) (hoff : ∀ e ∈ l, e.2.Off (fun b => some b ≠ v.ownBlock)) (hfree : ∀ e ∈ m, LabFree w e) :
    Calls Tryz.prog 158 #[v, .slice a len cap] w fun e w' => ∃ v' m', e = .returned v' ∧ GrowS base (base ≤ ·) w' v' (m ++ m') ∧ m'.map (·.1) = l.map (·.1) ∧ Below base w w' ∧ (∀ e ∈ m ++ m', LabFree w' e) := by
  have hlen := hT.row.1.1
  subst hlen
  have HT := Lib.hid hT
  have HA := Lib.hid hA
  have HM := Lib.hid hM
  have HO := Lib.hid (And.intro hfar hoff)
  have hm : l.length ≤ maxLen := Nat.le_trans hT.row.2.1 hT.row.2.2.1
  unfold maxLen at hm
  obtain ⟨va, vc, rfl⟩ := hM.form
  have HFree := Lib.hid hfree
  clear hT hA hM hfar hoff hfree
  go_enter Tryz.func158, Tryz.ntmps158
  go_wp2_with fail
  go_loopw [0, 9] (fun v i wr => ∃ (k : Nat) (m' : List (Ser × SerP)), i = .int .i64 k ∧ k ≤ l.length ∧ GrowS base (base ≤ ·) wr v (m ++ m') ∧ Hid (m'.length = k) ∧ Hid (m'.map (·.1) = (l.map (·.1)).take k) ∧ Below base w wr ∧ w.heap.size ≤ wr.heap.size ∧ Hid (∀ b, b < w.heap.size → some b ≠ Value.ownBlock (.slice va m.length vc) → wr.heap[b]? = w.heap[b]? ∧ some b ≠ v.ownBlock) ∧ Hid (∀ e ∈ m ++ m', LabFree wr e)) (fun _ i _ => l.length - (intOf i).toNat)
  case atStart => exact ⟨0, [], rfl, Nat.zero_le _, by rw [List.append_nil]; exact HM.out, rfl, rfl, Below.refl _ _, Nat.le_refl _, (fun b _ h => ⟨rfl, h⟩), by rw [List.append_nil]; exact HFree.out⟩
  case round =>
    obtain ⟨k, m', rfl, hk, hG, HL, HMP, hB, hsz, HFr, HFe⟩ := hrel
    have HG := Lib.hid hG
    obtain ⟨ua, uc, hu⟩ := hG.form
    subst hu
    have hnn : (m ++ m').length < 4294967 := by rw [List.length_append, HL.out]; omega
    obtain ⟨nn, hnE⟩ : ∃ nn, (m ++ m').length = nn := ⟨_, rfl⟩
    have HN := Lib.hid hnE
    rw [hnE] at HG HFr hnn ⊢
    clear hG hnE
    by_cases hlt : k < l.length
    · obtain ⟨⟨x, p⟩, hx⟩ : ∃ x, l[k]? = some x := ⟨_, List.getElem?_eq_getElem hlt⟩
      obtain ⟨b, off, rfl, hbb, hc⟩ := HT.out.row.1.2 k (x, p) hx
      have hblk : wr.heap[b]? = w.heap[b]? := (HFr.out b hbb (HO.out.1 _ rfl (by have := HT.out.row.2.1; omega))).1
      replace hc : ∀ i, i < 12 → wr.cell? ⟨b, off + k * 12 + i, none⟩ = (serEnc (x, p))[i]? := fun i hi => (cell_heap (p := ⟨b, off + k * 12 + i, none⟩) hblk).trans (hc i hi)
      have c0 : wr.cell? ⟨b, off + k * 12, none⟩ = some (.slice p.la p.ll p.lc) := hc 0 (by omega)
      have c1 : wr.cell? ⟨b, off + k * 12 + 1, none⟩ = some (.int .i64 x.sk.kind) := hc 1 (by omega)
      have c2 : wr.cell? ⟨b, off + k * 12 + 2, none⟩ = some (.int .i64 x.sk.level) := hc 2 (by omega)
      have c3 : wr.cell? ⟨b, off + k * 12 + 3, none⟩ = some (.slice p.ss.ea p.ss.el p.ss.ec) := hc 3 (by omega)
      have c4 : wr.cell? ⟨b, off + k * 12 + 4, none⟩ = some (.int .i64 x.sk.hb) := hc 4 (by omega)
      have c5 : wr.cell? ⟨b, off + k * 12 + 5, none⟩ = some (.string x.sk.hr) := hc 5 (by omega)
      have c6 : wr.cell? ⟨b, off + k * 12 + 6, none⟩ = some (.int .i64 x.sk.cr) := hc 6 (by omega)
      have c7 : wr.cell? ⟨b, off + k * 12 + 7, none⟩ = some (.int .i64 x.sk.cc) := hc 7 (by omega)
      have c8 : wr.cell? ⟨b, off + k * 12 + 8, none⟩ = some (.slice p.ss.ca p.ss.cl p.ss.cc) := hc 8 (by omega)
      have c9 : wr.cell? ⟨b, off + k * 12 + 9, none⟩ = some (.int .i64 x.sk.gf) := hc 9 (by omega)
      have c10 : wr.cell? ⟨b, off + k * 12 + 10, none⟩ = some (.slice p.ss.ga p.ss.gl p.ss.gc) := hc 10 (by omega)
      have c11 : wr.cell? ⟨b, off + k * 12 + 11, none⟩ = some (.int .u64 x.seen) := hc 11 (by omega)
      have HX : Hid ((l.map (·.1))[k]? = some x) := by rw [Hid, List.getElem?_map, hx]; rfl
      have HAx := Lib.hid (HA.out _ (List.mem_of_getElem? hx))
      have HP : Hid (p.At wr.heap.size wr x) := ((HT.out.at_ _ (List.mem_of_getElem? hx)).frame (HO.out.2 _ (List.mem_of_getElem? hx)) (fun b hb hq => (HFr.out b hb hq).1)).mono hsz
      obtain ⟨W1, hW1, hX1, hB1, hs1⟩ := boxes1 wr #[.slice p.la p.ll p.lc, .int .i64 x.sk.kind, .int .i64 x.sk.level, .slice p.ss.ea p.ss.el p.ss.ec, .int .i64 x.sk.hb, .string x.sk.hr, .int .i64 x.sk.cr, .int .i64 x.sk.cc, .slice p.ss.ca p.ss.cl p.ss.cc, .int .i64 x.sk.gf, .slice p.ss.ga p.ss.gl p.ss.gc, .int .u64 x.seen] 64
      have r0 : W1.cell? ⟨wr.heap.size, 0, none⟩ = some (.slice p.la p.ll p.lc) := cCc hX1 0
      have r1 : W1.cell? ⟨wr.heap.size, 1, none⟩ = some (.int .i64 x.sk.kind) := cCc hX1 1
      have r2 : W1.cell? ⟨wr.heap.size, 2, none⟩ = some (.int .i64 x.sk.level) := cCc hX1 2
      have r3 : W1.cell? ⟨wr.heap.size, 3, none⟩ = some (.slice p.ss.ea p.ss.el p.ss.ec) := cCc hX1 3
      have r4 : W1.cell? ⟨wr.heap.size, 4, none⟩ = some (.int .i64 x.sk.hb) := cCc hX1 4
      have r5 : W1.cell? ⟨wr.heap.size, 5, none⟩ = some (.string x.sk.hr) := cCc hX1 5
      have r6 : W1.cell? ⟨wr.heap.size, 6, none⟩ = some (.int .i64 x.sk.cr) := cCc hX1 6
      have r7 : W1.cell? ⟨wr.heap.size, 7, none⟩ = some (.int .i64 x.sk.cc) := cCc hX1 7
      have r8 : W1.cell? ⟨wr.heap.size, 8, none⟩ = some (.slice p.ss.ca p.ss.cl p.ss.cc) := cCc hX1 8
      have r9 : W1.cell? ⟨wr.heap.size, 9, none⟩ = some (.int .i64 x.sk.gf) := cCc hX1 9
      have r10 : W1.cell? ⟨wr.heap.size, 10, none⟩ = some (.slice p.ss.ga p.ss.gl p.ss.gc) := cCc hX1 10
      have r11 : W1.cell? ⟨wr.heap.size, 11, none⟩ = some (.int .u64 x.seen) := cCc hX1 11
      have HP1 : Hid (p.At W1.heap.size W1 x) := HP.out.go hB1
      have hz1 : wr.heap.size < W1.heap.size := by omega
      have HN5 : Hid (p.Off (· ≠ wr.heap.size)) := HP.out.off.imp (fun b hb => Nat.ne_of_lt hb)
      clear hc hx hblk
      go_wp2_with fail
      have HA0 : Hid (p.ss.Short) := HAx.out.2
      refine (clone_lab_f p.la p.ll p.lc x.l W1 HP1.out.l.1 HAx.out.1).mono ?_
      rintro e w2 ⟨la', lc', rfl, hl2, hlo2, hb2, hlf2⟩
      have HLf2 := Lib.hid hlf2
      clear hlf2
      have hX2 := known hb2 (Nat.le_refl _) hX1
      have hZ2 := hb2.size
      have g2 : w2.cell? ⟨wr.heap.size, 0, none⟩ = some (.slice p.la p.ll p.lc) := cCc hX2 0
      have f2 : w2.frozen? ⟨wr.heap.size, 0, none⟩ = false := cFz hX2 0
      obtain ⟨V2, hV2, hXV2, hAp2, hBV2, hs2, ht2⟩ := box_set (i := 0) hX2 (.slice la' p.ll lc')
      have d3 : V2.cell? ⟨wr.heap.size, 3, none⟩ = some (.slice p.ss.ea p.ss.el p.ss.ec) := cCc hXV2 3
      have HPe : Hid (SlC encU 1 V2.heap.size V2 p.ss.ea p.ss.el p.ss.ec x.sk.e) := ((HP1.out.go hb2).s.e).apart (HN5.out.e) hAp2
      have HPc : Hid (SlC encU 1 V2.heap.size V2 p.ss.ca p.ss.cl p.ss.cc x.sk.cl) := ((HP1.out.go hb2).s.c).apart (HN5.out.c) hAp2
      have HPg : Hid (SlC encB 2 V2.heap.size V2 p.ss.ga p.ss.gl p.ss.gc x.sk.gl) := ((HP1.out.go hb2).s.g).apart (HN5.out.g) hAp2
      have HL2 : Hid (SlC Lab.enc 2 V2.heap.size V2 la' p.ll lc' x.l) := hl2.apart (fun z hz _ => by have := hlo2 z hz; omega) hAp2
      have HB2 : Hid (Below wr.heap.size wr V2) := hBV2 _ _ (Nat.le_refl _) (hB1.trans (hb2.mono (by omega)))
      clear r0 r1 r2 r3 r4 r5 r6 r7 r8 r9 r10 r11 c0 c1 c2 c3 c4 c5 c6 c7 c8 c9 c10 c11 hX1 hW1 hX2 hl2
      go_wp2_with fail
      refine (clone_u64 p.ss.ea p.ss.el p.ss.ec x.sk.e V2 HPe.out.1 HA0.out.1).mono ?_
      rintro e w3 ⟨ea', ec', rfl, hl3, hlo3, hb3⟩
      have hX3 := known hb3 (Nat.le_refl _) hXV2
      have hZ3 := hb3.size
      have g3 : w3.cell? ⟨wr.heap.size, 3, none⟩ = some (.slice p.ss.ea p.ss.el p.ss.ec) := cCc hX3 3
      have f3 : w3.frozen? ⟨wr.heap.size, 3, none⟩ = false := cFz hX3 3
      obtain ⟨V3, hV3, hXV3, hAp3, hBV3, hs3, ht3⟩ := box_set (i := 3) hX3 (.slice ea' p.ss.el ec')
      have d8 : V3.cell? ⟨wr.heap.size, 8, none⟩ = some (.slice p.ss.ca p.ss.cl p.ss.cc) := cCc hXV3 8
      have HPc3 : Hid (SlC encU 1 V3.heap.size V3 p.ss.ca p.ss.cl p.ss.cc x.sk.cl) := (HPc.out.go hb3).apart (HN5.out.c) hAp3
      have HPg3 : Hid (SlC encB 2 V3.heap.size V3 p.ss.ga p.ss.gl p.ss.gc x.sk.gl) := (HPg.out.go hb3).apart (HN5.out.g) hAp3
      have HL3 : Hid (SlC Lab.enc 2 V3.heap.size V3 la' p.ll lc' x.l) := (HL2.out.go hb3).apart (fun z hz _ => by have := hlo2 z hz; omega) hAp3
      have HE3 : Hid (SlC encU 1 V3.heap.size V3 ea' p.ss.el ec' x.sk.e) := hl3.apart (fun z hz _ => by have := hlo3 z hz; omega) hAp3
      have HB3 : Hid (Below wr.heap.size wr V3) := hBV3 _ _ (Nat.le_refl _) (HB2.out.trans (hb3.mono (by omega)))
      clear hV2 hXV2 g2 f2 d3 hX3 hl3
      go_wp2_with fail
      refine (clone_u64 p.ss.ca p.ss.cl p.ss.cc x.sk.cl V3 HPc3.out.1 HA0.out.2.1).mono ?_
      rintro e w4 ⟨ca', cc', rfl, hl4, hlo4, hb4⟩
      have hX4 := known hb4 (Nat.le_refl _) hXV3
      have hZ4 := hb4.size
      have g4 : w4.cell? ⟨wr.heap.size, 8, none⟩ = some (.slice p.ss.ca p.ss.cl p.ss.cc) := cCc hX4 8
      have f4 : w4.frozen? ⟨wr.heap.size, 8, none⟩ = false := cFz hX4 8
      obtain ⟨V4, hV4, hXV4, hAp4, hBV4, hs4, ht4⟩ := box_set (i := 8) hX4 (.slice ca' p.ss.cl cc')
      have d10 : V4.cell? ⟨wr.heap.size, 10, none⟩ = some (.slice p.ss.ga p.ss.gl p.ss.gc) := cCc hXV4 10
      have HPg4 : Hid (SlC encB 2 V4.heap.size V4 p.ss.ga p.ss.gl p.ss.gc x.sk.gl) := (HPg3.out.go hb4).apart (HN5.out.g) hAp4
      have HL4 : Hid (SlC Lab.enc 2 V4.heap.size V4 la' p.ll lc' x.l) := (HL3.out.go hb4).apart (fun z hz _ => by have := hlo2 z hz; omega) hAp4
      have HE4 : Hid (SlC encU 1 V4.heap.size V4 ea' p.ss.el ec' x.sk.e) := (HE3.out.go hb4).apart (fun z hz _ => by have := hlo3 z hz; omega) hAp4
      have HC4 : Hid (SlC encU 1 V4.heap.size V4 ca' p.ss.cl cc' x.sk.cl) := hl4.apart (fun z hz _ => by have := hlo4 z hz; omega) hAp4
      have HB4 : Hid (Below wr.heap.size wr V4) := hBV4 _ _ (Nat.le_refl _) (HB3.out.trans (hb4.mono (by omega)))
      clear hV3 hXV3 g3 f3 d8 hX4 hl4
      go_wp2_with fail
      refine (clone_bin p.ss.ga p.ss.gl p.ss.gc x.sk.gl V4 HPg4.out.1 HA0.out.2.2).mono ?_
      rintro e w5 ⟨ga', gc', rfl, hl5, hlo5, hb5⟩
      have hX5 := known hb5 (Nat.le_refl _) hXV4
      have hZ5 := hb5.size
      have g5 : w5.cell? ⟨wr.heap.size, 10, none⟩ = some (.slice p.ss.ga p.ss.gl p.ss.gc) := cCc hX5 10
      have f5 : w5.frozen? ⟨wr.heap.size, 10, none⟩ = false := cFz hX5 10
      obtain ⟨V5, hV5, hXV5, hAp5, hBV5, hs5, ht5⟩ := box_set (i := 10) hX5 (.slice ga' p.ss.gl gc')
      have HL5 := (HL4.out.go hb5).apart (fun z hz _ => by have := hlo2 z hz; omega) hAp5
      have HE5 := (HE4.out.go hb5).apart (fun z hz _ => by have := hlo3 z hz; omega) hAp5
      have HC5 := (HC4.out.go hb5).apart (fun z hz _ => by have := hlo4 z hz; omega) hAp5
      have HG5 := hl5.apart (fun z hz _ => by have := hlo5 z hz; omega) hAp5
      have hB5 : Below wr.heap.size wr V5 := hBV5 _ _ (Nat.le_refl _) (HB4.out.trans (hb5.mono (by omega)))
      have hApp : Apart wr.heap.size w2 V5 := (((((hAp2.trans (Apart.of_below hb3)).trans hAp3).trans (Apart.of_below hb4)).trans hAp4).trans (Apart.of_below hb5)).trans hAp5
      have HLf5 : Hid (∀ z, la' = some z → Loose V5 z.block) := fun z hz => (HLf2.out z hz).of_heap (hApp.2 _ (HLf2.out z hz).lt (by have := hlo2 z hz; omega))
      clear hApp
      obtain ⟨p', hp'⟩ : ∃ p' : SerP, p' = ⟨la', p.ll, lc', ⟨ea', p.ss.el, ec', ca', p.ss.cl, cc', ga', p.ss.gl, gc'⟩⟩ := ⟨_, rfl⟩
      have HAt : p'.At V5.heap.size V5 x := by subst hp'; exact ⟨HL5, HE5, HC5, HG5⟩
      have HOf : p'.Off (fun b => base ≤ b ∧ some b ≠ Value.ownBlock (.slice ua nn uc)) := by
        have hlt := HG.out.own.lt
        have hk0 : ∀ z, wr.heap.size ≤ z → base ≤ z ∧ some z ≠ Value.ownBlock (.slice ua nn uc) := fun z hz => ⟨by have := hB.size; omega, fun h => by have := (hlt z h.symm).2; omega⟩
        subst hp'
        exact ⟨fun z h1 _ => hk0 _ (by have := hlo2 z h1; omega), fun z h1 _ => hk0 _ (by have := hlo3 z h1; omega), fun z h1 _ => hk0 _ (by have := hlo4 z h1; omega), fun z h1 _ => hk0 _ (by have := hlo5 z h1; omega)⟩
      obtain ⟨g6, cap6, w6, hap6, hG6, hB6, hz6, hfr6⟩ := (HG.out.go hB5).push (hB.trans (hB5.mono (by omega))) (Nat.le_refl _) (by have := hB5.size; omega) (by rw [HN.out]; exact hnn) HAt HOf
      have hown6 := (HG.out.go hB5).push_own (by rw [HN.out]; exact hnn) hap6
      rw [HN.out] at hap6 hG6 hown6
      have s0 : V5.cell? ⟨wr.heap.size, 0, none⟩ = some (.slice la' p.ll lc') := cCc hXV5 0
      have s1 : V5.cell? ⟨wr.heap.size, 1, none⟩ = some (.int .i64 x.sk.kind) := cCc hXV5 1
      have s2 : V5.cell? ⟨wr.heap.size, 2, none⟩ = some (.int .i64 x.sk.level) := cCc hXV5 2
      have s3 : V5.cell? ⟨wr.heap.size, 3, none⟩ = some (.slice ea' p.ss.el ec') := cCc hXV5 3
      have s4 : V5.cell? ⟨wr.heap.size, 4, none⟩ = some (.int .i64 x.sk.hb) := cCc hXV5 4
      have s5 : V5.cell? ⟨wr.heap.size, 5, none⟩ = some (.string x.sk.hr) := cCc hXV5 5
      have s6 : V5.cell? ⟨wr.heap.size, 6, none⟩ = some (.int .i64 x.sk.cr) := cCc hXV5 6
      have s7 : V5.cell? ⟨wr.heap.size, 7, none⟩ = some (.int .i64 x.sk.cc) := cCc hXV5 7
      have s8 : V5.cell? ⟨wr.heap.size, 8, none⟩ = some (.slice ca' p.ss.cl cc') := cCc hXV5 8
      have s9 : V5.cell? ⟨wr.heap.size, 9, none⟩ = some (.int .i64 x.sk.gf) := cCc hXV5 9
      have s10 : V5.cell? ⟨wr.heap.size, 10, none⟩ = some (.slice ga' p.ss.gl gc') := cCc hXV5 10
      have s11 : V5.cell? ⟨wr.heap.size, 11, none⟩ = some (.int .u64 x.seen) := cCc hXV5 11
      have FI : Hid (∃ m'' : List (Ser × SerP), GrowS base (base ≤ ·) w6 (.slice (some ⟨g6, 0, none⟩) (nn + 1) cap6) (m ++ m'') ∧ m''.length = k + 1 ∧ m''.map (·.1) = (l.map (·.1)).take (k + 1) ∧ Below base w w6 ∧ w.heap.size ≤ w6.heap.size ∧ (∀ b, b < w.heap.size → some b ≠ Value.ownBlock (.slice va m.length vc) → w6.heap[b]? = w.heap[b]? ∧ some b ≠ Value.ownBlock (.slice (some ⟨g6, 0, none⟩) (nn + 1) cap6)) ∧ (∀ e ∈ m ++ m'', LabFree w6 e)) := by
        have hz5 := hB5.size
        refine ⟨m' ++ [(x, p')], by rw [← List.append_assoc]; exact hG6, by rw [List.length_append, HL.out]; rfl, ?_, hB6, by omega, fun c hc hc2 => ?_, fun e he z hz hz0 => ?_⟩
        · rw [List.map_append, HMP.out, take_snoc' HX.out]; rfl
        · obtain ⟨h1, h2⟩ := HFr.out c hc hc2
          refine ⟨(hfr6 c (by omega) h2).trans ((hB5.block c (by omega)).trans h1), ?_⟩
          rcases hown6 with h | ⟨g, h, hg⟩
          · rw [h]; exact h2
          · rw [h]; intro h3; injection h3 with h3; omega
        · rw [← List.append_assoc] at he
          rcases List.mem_append.1 he with he | he
          · have h1 := HFe.out e he z hz hz0
            have h2 := h1.lt
            exact (h1.of_heap (hB5.block _ h2)).of_heap (hfr6 _ (by omega) ((HG.out.off e he).l z hz hz0).2)
          · rw [List.mem_singleton] at he
            subst he
            have h3 := HOf.l z hz hz0
            subst hp'
            have h1 := HLf5.out z hz
            exact h1.of_heap (hfr6 _ h1.lt h3.2)
      unfold serVals at hap6
      clear hs1
      subst hp'
      dsimp only at hap6
      clear hV4 hXV4 g4 f4 d10 hX5 hl5 HL5 HE5 HC5 HG5 hAp5 hAp4 hAp3 hAp2 hG6 hfr6 hown6 HOf HAt hXV5 hBV5 hBV4 hBV3 hBV2
      go_wp2_with fail
      go_roundw
      case rel =>
        obtain ⟨m'', h1, h2, h3, h4, h5, h6, h7⟩ := FI.out
        exact ⟨k + 1, m'', by go_num, by omega, h1, h2, h3, h4, h5, h6, h7⟩
      case measure => simp [intOf]; omega
    · have H9 : Hid (m'.map (·.1) = l.map (·.1)) := by rw [Hid, HMP.out, List.take_of_length_le (by rw [List.length_map]; omega)]
      go_wp2_with fail
      go_ret
      exact ⟨_, rfl, m', HG.out, H9.out, hB, fun a b h => HFe.out (a, b) (List.mem_append.2 h)⟩
end Go.Proofs.YtpnlmfilmbodfaaGreatDoor
namespace Go.Proofs.YtpnlmfilmbodfaaGreatDoor
open Go Go.RowKit Go.Shelf
theorem Tab.drop {n₀ : Nat} {w : World} {a : Option Addr} {len cap : Nat} {l : List (Ser × SerP)} (h : Tab n₀ w a len cap l) (m : Nat) (hm : m ≤ len) : Tab n₀ w (dropA a cap m 12) (len - m) (cap - m) (l.drop m) := ⟨h.row.drop m hm, fun e he => h.at_ e (List.mem_of_mem_drop he)⟩
theorem slice_to (a : Option Addr) (len cap m : Nat) (w : World) (h : m ≤ cap) : (Instr.slice 57 (.slice a len cap) none (some (.int .i64 (m : Int))) none).run Tryz.prog w = .ok (.slice a m cap) w := by
  have hz := dropA_zero a cap 12
  unfold dropA at hz
  have hs : (sizeOf 64).run Tryz.prog w = .ok 12 w := by kernel_rfl
  have he : Tryz.prog.elem 57 = 64 := by kernel_rfl
  rw [run_slice_h (t := 57) (a := a) (len := len) (cap := cap) (w := w) (ht := by rw [he]; exact und_table) (kh := .i64) (h := (m : Int)) (by omega) (by omega), he, hs]
  simp only [Result.andThen, sliced, Int.toNat_natCast, Nat.sub_zero, hz]
theorem slice_from (a : Option Addr) (len cap m : Nat) (w : World) (h : m ≤ len) : (Instr.slice 57 (.slice a len cap) (some (.int .i64 (m : Int))) none none).run Tryz.prog w = .ok (.slice (dropA a cap m 12) (len - m) (cap - m)) w := by
  have hs : (sizeOf 64).run Tryz.prog w = .ok 12 w := by kernel_rfl
  have he : Tryz.prog.elem 57 = 64 := by kernel_rfl
  rw [run_slice_l (t := 57) (a := a) (len := len) (cap := cap) (w := w) (ht := by rw [he]; exact und_table) (kl := .i64) (l := (m : Int)) (by omega) (by omega), he, hs]
  simp only [Result.andThen, sliced, Int.toNat_natCast, dropA]
theorem tab_one {w : World} {x : Ser} {p : SerP} (h : p.At w.heap.size w x) : Tab (w.alloc (.cells (serVals x p).toArray 64)).heap.size (w.alloc (.cells (serVals x p).toArray 64)) (some ⟨w.heap.size, 0, none⟩) 1 1 [(x, p)] := by
  have hB : Below w.heap.size w (w.alloc (.cells (serVals x p).toArray 64)) := (Below.refl _ w).alloc (Nat.le_refl _) _
  have hz : w.heap.size < (w.alloc (.cells (serVals x p).toArray 64)).heap.size := by simp
  refine ⟨⟨⟨rfl, fun j y hy => ?_⟩, Nat.le_refl _, by unfold maxLen; omega, (fun h => by cases h), fun z hz1 _ => ?_⟩, fun e he => ?_⟩
  · have hj : j = 0 := by have := (List.getElem?_eq_some_iff.1 hy).1; simp at this; exact this
    subst hj
    obtain rfl : (x, p) = y := by simpa using hy
    refine ⟨w.heap.size, 0, rfl, hz, fun i hi => ?_⟩
    have := cCc (World.alloc_heap_new w (.cells (serVals x p).toArray 64)) i
    simp [serEnc]
  · injection hz1 with hz1
    subst hz1
    exact ⟨rfl, hz⟩
  · rw [List.mem_singleton] at he
    subst he
    exact h.go hB
theorem make_table (w : World) (c : Nat) (hc : c ≤ 1000) : ∃ w', (Instr.makeSlice 57 (.int .i64 0) (.int .i64 (c : Int))).run Tryz.prog w = .ok (.slice (some ⟨w.heap.size, 0, none⟩) 0 c) w' ∧ GrowS w.heap.size (w.heap.size ≤ ·) w' (.slice (some ⟨w.heap.size, 0, none⟩) 0 c) [] ∧ Below w.heap.size w w' := by
  obtain ⟨i, hi, hz, hsize, hby⟩ := info_parts info_series
  obtain ⟨w', h1, h2, h3⟩ := run_makeSlice_owned (P := Tryz.prog) w w.heap.size 57 64 i _ 12 und_table hi hz hsize .i64 .i64 c (by omega) (by rw [hby]; omega) (by unfold maxLen; omega) (Nat.le_refl _)
  exact ⟨w', h1, ⟨h2, (fun e h => by cases h), (fun e h => by cases h)⟩, ⟨h3.os, h3.tape, h3.output, h3.size, fun k hk => h3.block k hk (fun h => by cases h)⟩⟩
def putL (l : List Ser) (x : Ser) : List Ser := l.take (findAt l x.l) ++ x :: l.drop (findAt l x.l + (if thereAt l x.l then 1 else 0))
def putOk (l : List Ser) (x : Ser) : Bool := tabRight l && serRight x && (thereAt l x.l || !(l.length == 20))
def PutPost (l : List Ser) (x : Ser) (w : World) (e : Ending) (w' : World) : Prop :=
  Below w.heap.size w w' ∧ ((putOk l x = false ∧ e = .returned (.tuple #[.slice none 0 0, .int .i64 120])) ∨
    (putOk l x = true ∧ ∃ a' cap' m, e = .returned (.tuple #[.slice a' (List.length m) cap', .int .i64 0]) ∧ Tab w'.heap.size w' a' m.length cap' m ∧ m.map (·.1) = putL l x ∧ (∀ z, a' = some z → w.heap.size ≤ z.block) ∧ (∀ e ∈ m, e.2.Off (fun b => w.heap.size ≤ b ∧ ∀ z, a' = some z → b ≠ z.block)) ∧ (∀ z, a' = some z → Loose w' z.block) ∧ (∀ e ∈ m, LabFree w' e)))
theorem SerFit.add {x : Ser} {p : SerP} (h : SerFit x p) (hr : labRight x.l = true) {n : Nat} {w : World} (ha : p.At n w x) : p.ll < 2147483648 ∧ p.ss.Short := by
  refine ⟨?_, h.short⟩
  have h1 := ha.l.1.1
  have h2 : x.l.length ≤ 6 := by simp [labRight] at hr; exact hr.1.2
  omega
theorem tabGo_all : ∀ (l : List Ser) (p : Option (List Lab)), tabGo p l = true → ∀ x ∈ l, serRight x = true
  | [], _, _, x, h => by cases h
  | y :: r, p, h, x, hx => by
    simp only [tabGo, Bool.and_eq_true] at h
    rcases List.mem_cons.1 hx with rfl | hx
    · exact h.1.1
    · exact tabGo_all r _ h.2 x hx
theorem addFit_of {l : List (Ser × SerP)} {n : Nat} {w : World} {a : Option Addr} {len cap : Nat} (hr : tabRight (l.map (·.1)) = true) (hF : TabFit l) (hT : Tab n w a len cap l) : AddFit l := fun e he => by
  simp only [tabRight, Bool.and_eq_true] at hr
  have h1 := tabGo_all _ _ hr.2 e.1 (List.mem_map_of_mem he)
  simp only [serRight, Bool.and_eq_true] at h1
  exact (hF e he).add h1.1 (hT.at_ e he)
end Go.Proofs.YtpnlmfilmbodfaaGreatDoor
namespace Go.Proofs.YtpnlmfilmbodfaaGreatDoor
open Go Go.RowKit Go.Shelf
theorem put_close {base : Nat} {L : List Ser} {x : Ser} {w w' : World} {v : Value} {M : List (Ser × SerP)} (hok : putOk L x = true) (hB : Below w.heap.size w w') (hb : w.heap.size ≤ base) (h : GrowS base (base ≤ ·) w' v M) (hM : M.map (·.1) = putL L x) (hfr : ∀ e ∈ M, LabFree w' e) : PutPost L x w (.returned (.tuple #[v, .int .i64 0])) w' := by
  have hown := h.own
  obtain ⟨a', cap', rfl, hT', hlo, hof⟩ := h.tab
  exact ⟨hB, .inr ⟨hok, a', cap', M, rfl, hT', hM, fun z hz => Nat.le_trans hb (hlo z hz), fun e he => (hof e he).imp fun b hb' => ⟨Nat.le_trans hb hb'.1, hb'.2⟩, fun z hz => owns_loose hown rfl hz, hfr⟩⟩
theorem make_table1 (w : World) (c : Nat) (hc : c ≤ 900) : ∃ w', (Instr.makeSlice 57 (.int .i64 0) (.int .i64 ((c : Int) + 1))).run Tryz.prog w = .ok (.slice (some ⟨w.heap.size, 0, none⟩) 0 (c + 1)) w' ∧ GrowS w.heap.size (w.heap.size ≤ ·) w' (.slice (some ⟨w.heap.size, 0, none⟩) 0 (c + 1)) [] ∧ Below w.heap.size w w' := by
  have h := make_table w (c + 1) (by omega)
  rw [show ((c + 1 : Nat) : Int) = (c : Int) + 1 by omega] at h
  exact h
theorem slice_from1 (a : Option Addr) (len cap m : Nat) (w : World) (h : m < len) : (Instr.slice 57 (.slice a len cap) (some (.int .i64 ((m : Int) + 1))) none none).run Tryz.prog w = .ok (.slice (dropA a cap (m + 1) 12) (len - (m + 1)) (cap - (m + 1))) w := by
  have h := slice_from a len cap (m + 1) w h
  rw [show ((m + 1 : Nat) : Int) = (m : Int) + 1 by omega] at h
  exact h
theorem add_old (base : Nat) (m : List (Ser × SerP)) (v : Value) (l : List (Ser × SerP)) (a : Option Addr) (len cap : Nat) (W w : World) (hW : W.heap.size ≤ base) (hb : Below W.heap.size W w) (hbase : base ≤ w.heap.size) (hM : GrowS base (base ≤ ·) w v m) (hT : Tab W.heap.size W a len cap l) (hA : AddFit l) (hn : m.length + l.length < 4294967) (hfree : ∀ e ∈ m, LabFree w e) :
    Calls Tryz.prog 158 #[v, .slice a len cap] w fun e w' => ∃ v' m', e = .returned v' ∧ GrowS base (base ≤ ·) w' v' (m ++ m') ∧ m'.map (·.1) = l.map (·.1) ∧ Below base w w' ∧ (∀ e ∈ m ++ m', LabFree w' e) := by
  have hlt := hM.own.lt
  refine series_add_any base m v l a len cap w hbase hM ((hT.below hb).mono hb.size) hA hn (fun z hz h0 h => ?_) (fun e he => (hT.at_ e he).off.imp fun b hb h => ?_) hfree
  · have h1 := (hT.row.2.2.2.2 z hz h0).2
    have h2 := (hlt _ h.symm).1
    omega
  · have h2 := (hlt _ h.symm).1
    omega
theorem add_new (base : Nat) (m : List (Ser × SerP)) (v : Value) (x : Ser) (p : SerP) (W w : World) (hW : W.heap.size ≤ base) (hb : Below W.heap.size W w) (hbase : base ≤ w.heap.size) (hM : GrowS base (base ≤ ·) w v m) (hP : p.At W.heap.size W x) (hA : AddFit [(x, p)]) (hn : m.length + 1 < 4294967) (hfree : ∀ e ∈ m, LabFree w e) :
    Calls Tryz.prog 158 #[v, .slice (some ⟨w.heap.size, 0, none⟩) 1 1] (w.alloc (.cells #[.slice p.la p.ll p.lc, .int .i64 x.sk.kind, .int .i64 x.sk.level, .slice p.ss.ea p.ss.el p.ss.ec, .int .i64 x.sk.hb, .string x.sk.hr, .int .i64 x.sk.cr, .int .i64 x.sk.cc, .slice p.ss.ca p.ss.cl p.ss.cc, .int .i64 x.sk.gf, .slice p.ss.ga p.ss.gl p.ss.gc, .int .u64 x.seen] 64)) fun e w' => ∃ v' m', e = .returned v' ∧ GrowS base (base ≤ ·) w' v' (m ++ m') ∧ m'.map (·.1) = [(x, p)].map (·.1) ∧ Below base w w' ∧ (∀ e ∈ m ++ m', LabFree w' e) := by
  have hlt := hM.own.lt
  have hB : Below w.heap.size w (w.alloc (.cells #[.slice p.la p.ll p.lc, .int .i64 x.sk.kind, .int .i64 x.sk.level, .slice p.ss.ea p.ss.el p.ss.ec, .int .i64 x.sk.hb, .string x.sk.hr, .int .i64 x.sk.cr, .int .i64 x.sk.cc, .slice p.ss.ca p.ss.cl p.ss.cc, .int .i64 x.sk.gf, .slice p.ss.ga p.ss.gl p.ss.gc, .int .u64 x.seen] 64)) := (Below.refl _ w).alloc (Nat.le_refl _) _
  have hz := hB.size
  refine (series_add_any base m v [(x, p)] (some ⟨w.heap.size, 0, none⟩) 1 1 (w.alloc (.cells #[.slice p.la p.ll p.lc, .int .i64 x.sk.kind, .int .i64 x.sk.level, .slice p.ss.ea p.ss.el p.ss.ec, .int .i64 x.sk.hb, .string x.sk.hr, .int .i64 x.sk.cr, .int .i64 x.sk.cc, .slice p.ss.ca p.ss.cl p.ss.cc, .int .i64 x.sk.gf, .slice p.ss.ga p.ss.gl p.ss.gc, .int .u64 x.seen] 64)) (by omega) (hM.go hB) (tab_one ((hP.below hb).mono hb.size)) hA hn (fun z hz h0 h => ?_) (fun e he => ?_) (fun e he z hz h0 => (hfree e he z hz h0).go hB)).mono ?_
  · injection hz with hz
    subst hz
    have h2 := (hlt _ h.symm).2
    dsimp only at h2
    omega
  · rw [List.mem_singleton] at he
    subst he
    refine hP.off.imp fun b hb h => ?_
    have h2 := (hlt _ h.symm).1
    omega
  · rintro e w' ⟨v', m', h1, h2, h3, h4, h5⟩
    exact ⟨v', m', h1, h2, h3, (hB.mono hbase).trans h4, h5⟩
set_option maxRecDepth 100000 in
set_option maxHeartbeats 4000000 in
theorem series_Put_any (l : List (Ser × SerP)) (a : Option Addr) (len cap : Nat) (x : Ser) (p : SerP) (w : World) (hT : Tab w.heap.size w a len cap l) (hF : TabFit l) (hP : p.At w.heap.size w x) (hS : SerFit x p) (hG : GW w) :
    Calls Tryz.prog 106 #[.slice a len cap, .agg #[.slice p.la p.ll p.lc, .int .i64 x.sk.kind, .int .i64 x.sk.level, .slice p.ss.ea p.ss.el p.ss.ec, .int .i64 x.sk.hb, .string x.sk.hr, .int .i64 x.sk.cr, .int .i64 x.sk.cc, .slice p.ss.ca p.ss.cl p.ss.cc, .int .i64 x.sk.gf, .slice p.ss.ga p.ss.gl p.ss.gc, .int .u64 x.seen]] w (PutPost (l.map (·.1)) x w) := by
  have hlen := hT.row.1.1
  subst hlen
  obtain ⟨W0, hW0, hX0, hB0, hs0⟩ := boxes1 w #[.slice p.la p.ll p.lc, .int .i64 x.sk.kind, .int .i64 x.sk.level, .slice p.ss.ea p.ss.el p.ss.ec, .int .i64 x.sk.hb, .string x.sk.hr, .int .i64 x.sk.cr, .int .i64 x.sk.cc, .slice p.ss.ca p.ss.cl p.ss.cc, .int .i64 x.sk.gf, .slice p.ss.ga p.ss.gl p.ss.gc, .int .u64 x.seen] 64
  have c0 : W0.cell? ⟨w.heap.size, 0, none⟩ = some (.slice p.la p.ll p.lc) := cCc hX0 0
  have c1 : W0.cell? ⟨w.heap.size, 1, none⟩ = some (.int .i64 x.sk.kind) := cCc hX0 1
  have c2 : W0.cell? ⟨w.heap.size, 2, none⟩ = some (.int .i64 x.sk.level) := cCc hX0 2
  have c3 : W0.cell? ⟨w.heap.size, 3, none⟩ = some (.slice p.ss.ea p.ss.el p.ss.ec) := cCc hX0 3
  have c4 : W0.cell? ⟨w.heap.size, 4, none⟩ = some (.int .i64 x.sk.hb) := cCc hX0 4
  have c5 : W0.cell? ⟨w.heap.size, 5, none⟩ = some (.string x.sk.hr) := cCc hX0 5
  have c6 : W0.cell? ⟨w.heap.size, 6, none⟩ = some (.int .i64 x.sk.cr) := cCc hX0 6
  have c7 : W0.cell? ⟨w.heap.size, 7, none⟩ = some (.int .i64 x.sk.cc) := cCc hX0 7
  have c8 : W0.cell? ⟨w.heap.size, 8, none⟩ = some (.slice p.ss.ca p.ss.cl p.ss.cc) := cCc hX0 8
  have c9 : W0.cell? ⟨w.heap.size, 9, none⟩ = some (.int .i64 x.sk.gf) := cCc hX0 9
  have c10 : W0.cell? ⟨w.heap.size, 10, none⟩ = some (.slice p.ss.ga p.ss.gl p.ss.gc) := cCc hX0 10
  have c11 : W0.cell? ⟨w.heap.size, 11, none⟩ = some (.int .u64 x.seen) := cCc hX0 11
  have HT := Lib.hid hT
  have HT0 : Hid (Tab W0.heap.size W0 a l.length cap l) := hT.go hB0
  have HF := Lib.hid hF
  have HP := Lib.hid hP
  have HP0 : Hid (p.At W0.heap.size W0 x) := hP.go hB0
  have HS := Lib.hid hS
  have HG0 : Hid (GW W0) := hG.below hB0
  have hz0 : w.heap.size < W0.heap.size := by omega
  have hR := series_Right_any l a l.length cap W0 HT0.out HF.out HG0.out
  clear hT hF hP hS hG hs0
  cases hr : tabRight (l.map (·.1)) with
  | false =>
    rw [hr] at hR
    have H9 : Hid (putOk (l.map (·.1)) x = false) := by rw [Hid, putOk, hr]; rfl
    clear hr
    generalize l.map (·.1) = L at H9 ⊢
    go_enter Tryz.func106, Tryz.ntmps106
    go_wp2_with (go_at_call 43; refine hR.mono ?_; rintro e w1 ⟨rfl, hb1⟩)
    go_ret2
    exact ⟨hB0.trans (hb1.mono (by omega)), .inl ⟨H9.out, rfl⟩⟩
  | true =>
    rw [hr] at hR
    have HR2 : Hid (∀ w', Below W0.heap.size W0 w' → Calls Tryz.prog 108 #[.agg #[.slice p.la p.ll p.lc, .int .i64 x.sk.kind, .int .i64 x.sk.level, .slice p.ss.ea p.ss.el p.ss.ec, .int .i64 x.sk.hb, .string x.sk.hr, .int .i64 x.sk.cr, .int .i64 x.sk.cc, .slice p.ss.ca p.ss.cl p.ss.cc, .int .i64 x.sk.gf, .slice p.ss.ga p.ss.gl p.ss.gc, .int .u64 x.seen]] w' fun e w'' => e = .returned (.bool (serRight x)) ∧ Below w'.heap.size w' w'') := fun w' hb => rightSeries_any x p w' (HP0.out.go hb) HS.out (HG0.out.below hb)
    cases hsr : serRight x with
    | false =>
      have H9 : Hid (putOk (l.map (·.1)) x = false) := by rw [Hid, putOk, hr, hsr]; rfl
      rw [hsr] at HR2
      clear hr hsr
      generalize l.map (·.1) = L at H9 ⊢
      go_enter Tryz.func106, Tryz.ntmps106
      go_wp2_with (first
        | (go_at_call 43; refine hR.mono ?_; rintro e w1 ⟨rfl, hb1⟩; obtain ⟨hc1, hd1⟩ := bcell hb1)
        | (go_at_call 108; refine (HR2.out _ hb1).mono ?_; rintro e w2 ⟨rfl, hb2⟩))
      go_ret2
      exact ⟨hB0.trans ((hb1.trans (hb2.mono hb1.size)).mono (by omega)), .inl ⟨H9.out, rfl⟩⟩
    | true =>
      rw [hsr] at HR2
      have hk := findAt_le (l.map (·.1)) x.l
      rw [List.length_map] at hk
      have h20 : l.length ≤ 20 := by simp [tabRight] at hr; exact hr.1
      have hcap : l.length ≤ cap := HT.out.row.2.1
      have hpl : p.ll ≤ maxLen := Nat.le_trans HP.out.l.2.1 HP.out.l.2.2.1
      have HFd : Hid (∀ w', Below W0.heap.size W0 w' → Calls Tryz.prog 49 #[.slice a l.length cap, .slice p.la p.ll p.lc] w' fun e w'' => e = .returned (.tuple #[.int .i64 (findAt (l.map (·.1)) x.l : Int), .bool (thereAt (l.map (·.1)) x.l)]) ∧ Below w'.heap.size w' w'') := fun w' hb => by
        have := series_Find_any l a l.length cap x.l p.la p.ll p.lc w' (HT0.out.go hb) HF.out (HG0.out.below hb) (HP0.out.go hb).l.1 hpl
        rw [hr, if_pos rfl, Bool.true_and] at this
        exact this
      have HAF : Hid (AddFit l) := addFit_of hr HF.out HT.out
      have HAF1 : Hid (AddFit [(x, p)]) := fun e he => by
        rw [List.mem_singleton] at he
        subst he
        simp only [serRight, Bool.and_eq_true] at hsr
        exact HS.out.add hsr.1 HP.out
      have HOK : Hid (putOk (l.map (·.1)) x = (thereAt (l.map (·.1)) x.l || !((l.map (·.1)).length == 20))) := by rw [Hid, putOk, hr, hsr]; rfl
      have HPL : Hid (∀ m1 m2 m3 : List (Ser × SerP), m1.map (·.1) = (l.take (findAt (l.map (·.1)) x.l)).map (·.1) → m2.map (·.1) = [(x, p)].map (·.1) → m3.map (·.1) = (l.drop (findAt (l.map (·.1)) x.l + (if thereAt (l.map (·.1)) x.l then 1 else 0))).map (·.1) → ((([] ++ m1) ++ m2) ++ m3).map (fun e : Ser × SerP => e.1) = putL (l.map (·.1)) x) := fun m1 m2 m3 h1 h2 h3 => by
        rw [List.map_append, List.map_append, List.nil_append, h1, h2, h3, putL, List.map_take, List.map_drop]
        simp
      have HLL : Hid ((l.map (·.1)).length = l.length) := List.length_map ..
      have HK1 : Hid (thereAt (l.map (·.1)) x.l = true → findAt (l.map (·.1)) x.l < l.length) := fun h => by
        unfold thereAt at h
        cases hx : (l.map (·.1))[findAt (l.map (·.1)) x.l]? with
        | none => rw [hx] at h; cases h
        | some y => have := (List.getElem?_eq_some_iff.1 hx).1; rw [List.length_map] at this; exact this
      clear hr hsr
      generalize hkT : findAt (l.map (·.1)) x.l = kT at *
      generalize hbT : thereAt (l.map (·.1)) x.l = bT at *
      generalize l.map (·.1) = L at *
      clear hkT hbT
      cases bT with
      | false =>
        by_cases h19 : l.length = 20
        · have H9 : Hid (putOk L x = false) := by rw [Hid, HOK.out, HLL.out, h19]; rfl
          have h19' : (l.length : Int) = 20 := by omega
          clear h19
          go_enter Tryz.func106, Tryz.ntmps106
          go_wp2_with (first
            | (go_at_call 43; refine hR.mono ?_; rintro e w1 ⟨rfl, hb1⟩; obtain ⟨hc1, hd1⟩ := bcell hb1)
            | (go_at_call 108; refine (HR2.out _ hb1).mono ?_; rintro e w2 ⟨rfl, hb2⟩; have hb02 := hb1.trans (hb2.mono hb1.size); obtain ⟨hc2, hd2⟩ := bcell hb02)
            | (go_at_call 49; refine (HFd.out _ hb02).mono ?_; rintro e w3 ⟨rfl, hb3⟩))
          go_ret2
          exact ⟨hB0.trans ((hb02.trans (hb3.mono hb02.size)).mono (by omega)), .inl ⟨H9.out, rfl⟩⟩
        · have H9 : Hid (putOk L x = true) := by rw [Hid, HOK.out, HLL.out]; simp; omega
          have h19' : ¬ ((l.length : Int) = 20) := by omega
          clear h19
          go_enter Tryz.func106, Tryz.ntmps106
          go_wp2_with (first
            | (go_at_call 43; refine hR.mono ?_; rintro e w1 ⟨rfl, hb1⟩; obtain ⟨hc1, hd1⟩ := bcell hb1)
            | (go_at_call 108; refine (HR2.out _ hb1).mono ?_; rintro e w2 ⟨rfl, hb2⟩; have hb02 := hb1.trans (hb2.mono hb1.size); obtain ⟨hc2, hd2⟩ := bcell hb02)
            | (go_at_call 49; refine (HFd.out _ hb02).mono ?_; rintro e w3 ⟨rfl, hb3⟩; have hb03 := hb02.trans (hb3.mono hb02.size); obtain ⟨w4, hmk, hG4, hb4⟩ := make_table1 w3 l.length (by omega); have hsl := slice_to a l.length cap kT w4 (by omega); have hb04 := hb03.trans (hb4.mono hb03.size); obtain ⟨hc4, hd4⟩ := bcell hb04))
          have hz4 := hb04.size
          have hz3 := hb03.size
          have hz34 := hb4.size
          go_at_call 158
          refine (add_old w3.heap.size [] _ (l.take kT) a kT cap W0 w4 hz3 hb04 hz34 hG4 (HT0.out.take kT hk) (fun e he => HAF.out e (List.mem_of_mem_take he)) (by simp; omega) (fun e h => by cases h)).mono ?_
          rintro e w5 ⟨v5, m1, rfl, hG5, hm1, hb5, hf5⟩
          have hb05 : Below W0.heap.size W0 w5 := hb04.trans (hb5.mono hz3)
          obtain ⟨hc5, hd5⟩ := bcell hb05
          have hz5 := hb5.size
          have HG5 := Lib.hid hG5
          have HF5 := Lib.hid hf5
          clear hf5
          have HM1 := Lib.hid hm1
          clear hG4 hG5 hm1
          have hlm1 : m1.length ≤ 20 := by have := congrArg List.length HM1.out; simp at this; omega
          go_wp2_with fail
          refine (add_new w3.heap.size _ _ x p W0 w5 hz3 hb05 (by omega) HG5.out HP0.out HAF1.out (by simp; omega) HF5.out).mono ?_
          rintro e w6 ⟨v6, m2, rfl, hG6, hm2, hb6, hf6⟩
          have hb06 : Below W0.heap.size W0 w6 := hb05.trans (hb6.mono hz3)
          have hz6 := hb6.size
          have HG6 := Lib.hid hG6
          have HF6 := Lib.hid hf6
          clear hf6
          have HM2 := Lib.hid hm2
          have hlm2 : m2.length = 1 := by have := congrArg List.length hm2; simpa using this
          have HL2 := Lib.hid hlm2
          have hsl6 := slice_from a l.length cap kT w6 hk
          clear hG6 hm2 hlm2 hsl
          go_wp2_with fail
          refine (add_old w3.heap.size _ _ (l.drop kT) _ _ _ W0 w6 hz3 hb06 (by omega) HG6.out (HT0.out.drop kT (by omega)) (fun e he => HAF.out e (List.mem_of_mem_drop he)) (by simp [HL2.out]; omega) HF6.out).mono ?_
          rintro e w7 ⟨v7, m3, rfl, hG7, hm3, hb7, hf7⟩
          have hb07 : Below W0.heap.size W0 w7 := hb06.trans (hb7.mono hz3)
          have HG7 := Lib.hid hG7
          have HF7 := Lib.hid hf7
          clear hf7
          have HM3 := Lib.hid hm3
          clear hG7 hm3
          go_wp2_with fail
          go_ret2
          exact put_close H9.out (hB0.trans (hb07.mono (by omega))) (by omega) HG7.out (HPL.out m1 m2 m3 HM1.out HM2.out HM3.out) HF7.out
      | true =>
        have H9 : Hid (putOk L x = true) := HOK.out
        have hk1 : kT < l.length := HK1.out rfl
        go_enter Tryz.func106, Tryz.ntmps106
        go_wp2_with (first
          | (go_at_call 43; refine hR.mono ?_; rintro e w1 ⟨rfl, hb1⟩; obtain ⟨hc1, hd1⟩ := bcell hb1)
          | (go_at_call 108; refine (HR2.out _ hb1).mono ?_; rintro e w2 ⟨rfl, hb2⟩; have hb02 := hb1.trans (hb2.mono hb1.size); obtain ⟨hc2, hd2⟩ := bcell hb02)
          | (go_at_call 49; refine (HFd.out _ hb02).mono ?_; rintro e w3 ⟨rfl, hb3⟩; have hb03 := hb02.trans (hb3.mono hb02.size); obtain ⟨w4, hmk, hG4, hb4⟩ := make_table1 w3 l.length (by omega); have hsl := slice_to a l.length cap kT w4 (by omega); have hb04 := hb03.trans (hb4.mono hb03.size); obtain ⟨hc4, hd4⟩ := bcell hb04))
        have hz4 := hb04.size
        have hz3 := hb03.size
        have hz34 := hb4.size
        go_at_call 158
        refine (add_old w3.heap.size [] _ (l.take kT) a kT cap W0 w4 hz3 hb04 hz34 hG4 (HT0.out.take kT hk) (fun e he => HAF.out e (List.mem_of_mem_take he)) (by simp; omega) (fun e h => by cases h)).mono ?_
        rintro e w5 ⟨v5, m1, rfl, hG5, hm1, hb5, hf5⟩
        have hb05 : Below W0.heap.size W0 w5 := hb04.trans (hb5.mono hz3)
        obtain ⟨hc5, hd5⟩ := bcell hb05
        have hz5 := hb5.size
        have HG5 := Lib.hid hG5
        have HF5 := Lib.hid hf5
        clear hf5
        have HM1 := Lib.hid hm1
        clear hG4 hG5 hm1
        have hlm1 : m1.length ≤ 20 := by have := congrArg List.length HM1.out; simp at this; omega
        go_wp2_with fail
        refine (add_new w3.heap.size _ _ x p W0 w5 hz3 hb05 (by omega) HG5.out HP0.out HAF1.out (by simp; omega) HF5.out).mono ?_
        rintro e w6 ⟨v6, m2, rfl, hG6, hm2, hb6, hf6⟩
        have hb06 : Below W0.heap.size W0 w6 := hb05.trans (hb6.mono hz3)
        have hz6 := hb6.size
        have HG6 := Lib.hid hG6
        have HF6 := Lib.hid hf6
        clear hf6
        have HM2 := Lib.hid hm2
        have hlm2 : m2.length = 1 := by have := congrArg List.length hm2; simpa using this
        have HL2 := Lib.hid hlm2
        have hsl6 := slice_from1 a l.length cap kT w6 hk1
        clear hG6 hm2 hlm2 hsl
        go_wp2_with fail
        refine (add_old w3.heap.size _ _ (l.drop (kT + 1)) _ _ _ W0 w6 hz3 hb06 (by omega) HG6.out (HT0.out.drop (kT + 1) (by omega)) (fun e he => HAF.out e (List.mem_of_mem_drop he)) (by simp [HL2.out]; omega) HF6.out).mono ?_
        rintro e w7 ⟨v7, m3, rfl, hG7, hm3, hb7, hf7⟩
        have hb07 : Below W0.heap.size W0 w7 := hb06.trans (hb7.mono hz3)
        have HG7 := Lib.hid hG7
        have HF7 := Lib.hid hf7
        clear hf7
        have HM3 := Lib.hid hm3
        clear hG7 hm3
        go_wp2_with fail
        go_ret2
        exact put_close H9.out (hB0.trans (hb07.mono (by omega))) (by omega) HG7.out (HPL.out m1 m2 m3 HM1.out HM2.out HM3.out) HF7.out
end Go.Proofs.YtpnlmfilmbodfaaGreatDoor
namespace Go.Proofs.YtpnlmfilmbodfaaGreatDoor
open Go Go.RowKit Go.Shelf
def Ser.wf (x : Ser) : Prop := x.sk.fit ∧ U64 x.seen
structure Ser.fine (x : Ser) : Prop where
  lab : LabsOk x.l
  ll : x.l.length ≤ 10
  e : x.sk.e.length ≤ 70
  c : x.sk.cl.length ≤ 200
  g : x.sk.gl.length ≤ 300
  fit : x.sk.fit
  hr : x.sk.hr.size ≤ 260
  seen : U64 x.seen
theorem Ser.fine.serFit {x : Ser} {p : SerP} {n : Nat} {w : World} (h : x.fine) (hp : p.At n w x) : SerFit x p := by
  have h1 := hp.l.1.1
  have h2 := hp.s.e.1.1
  have h3 := hp.s.c.1.1
  have h4 := hp.s.g.1.1
  have h5 := h.ll
  have h6 := h.e
  have h7 := h.c
  have h8 := h.g
  have h9 := h.hr
  exact ⟨h.lab, by omega, ⟨by omega, by omega, by omega⟩, h.fit, by omega, h.seen⟩
theorem Ser.wf.cut {x : Ser} (h : x.wf) : x.cut.fine := by
  refine ⟨fun y hy => ?_, ?_, ?_, ?_, ?_, fun b hb => h.1 b (List.mem_of_mem_take hb), ?_, h.2⟩
  · simp only [Ser.cut, List.mem_map] at hy
    obtain ⟨u, _, rfl⟩ := hy
    exact u.2
  · simp only [Ser.cut, few04, List.length_map, List.length_take]; omega
  · simp only [Ser.cut, Sk.cut, List.length_take]; omega
  · simp only [Ser.cut, Sk.cut, List.length_take]; omega
  · simp only [Ser.cut, Sk.cut, List.length_take]; omega
  · simp only [Ser.cut, Sk.cut]
    show (cutN ((260 : Nat) : Int) x.sk.hr).size ≤ 260
    rw [cutN_size]; omega
theorem tabFit_of {l : List (Ser × SerP)} {n : Nat} {w : World} {a : Option Addr} {len cap : Nat} (hT : Tab n w a len cap l) (h : ∀ x ∈ l.map (·.1), Ser.fine x) : TabFit l := fun e he => (h e.1 (List.mem_map_of_mem he)).serFit (hT.at_ e he)
theorem fine_few {l : List Ser} (h : ∀ x ∈ l, x.wf) : ∀ x ∈ few12 l, x.fine := fun x hx => by
  simp only [few12, List.mem_map] at hx
  obtain ⟨y, hy, rfl⟩ := hx
  exact (h y (List.mem_of_mem_take hy)).cut
theorem slC_one {α : Type} {enc : α → List Value} {k b : Nat} {W : World} {x : α} {t : TypeId} (h : W.heap[b]? = some (.cells (enc x).toArray t (0, 0))) : SlC enc k W.heap.size W (some ⟨b, 0, none⟩) 1 1 [x] := by
  have hb := (Array.getElem?_eq_some_iff.1 h).1
  refine ⟨⟨rfl, fun j y hy => ?_⟩, Nat.le_refl _, by unfold maxLen; omega, (fun h => by cases h), fun z hz _ => ?_⟩
  · have hj : j = 0 := by have := (List.getElem?_eq_some_iff.1 hy).1; simp at this; exact this
    subst hj
    obtain rfl : x = y := by simpa using hy
    refine ⟨b, 0, rfl, hb, fun i hi => ?_⟩
    have := cCc h i
    simpa using this
  · injection hz with hz
    subst hz
    exact ⟨rfl, hb⟩
end Go.Proofs.YtpnlmfilmbodfaaGreatDoor
namespace Go.Proofs.YtpnlmfilmbodfaaGreatDoor
open Go Go.RowKit Go.Shelf
def Ser.wn (x : Ser) : Prop := x.sk.arg ∧ U64 x.seen
theorem Ser.wn.wf {x : Ser} (h : x.wn) : x.wf := ⟨fun b hb => (h.1.g b hb).1.2, h.2⟩
end Go.Proofs.YtpnlmfilmbodfaaGreatDoor
namespace Go.Proofs.YtpnlmfilmbodfaaGreatDoor
open Go Go.RowKit Go.Shelf
theorem bl_irr : ∀ a : List UInt8, Op.bytesLess a a = false
  | [] => rfl
  | a :: x => by simp [Op.bytesLess, bl_irr x]
theorem bl_tr : ∀ a b c : List UInt8, Op.bytesLess a b = true → Op.bytesLess b c = true → Op.bytesLess a c = true
  | _, [], _, h, _ => by rename_i x _; cases x <;> simp [Op.bytesLess] at h
  | _, _ :: _, [], _, h => by simp [Op.bytesLess] at h
  | [], _ :: _, _ :: _, _, _ => by simp [Op.bytesLess]
  | a :: x, b :: y, c :: z, h1, h2 => by
    simp only [Op.bytesLess, Bool.or_eq_true, Bool.and_eq_true, decide_eq_true_eq, beq_iff_eq] at h1 h2 ⊢
    rcases h1 with h1 | ⟨rfl, h1⟩
    · rcases h2 with h2 | ⟨rfl, h2⟩
      · exact .inl (UInt8.lt_trans h1 h2)
      · exact .inl h1
    · rcases h2 with h2 | ⟨rfl, h2⟩
      · exact .inl h2
      · exact .inr ⟨rfl, bl_tr x y z h1 h2⟩
theorem bl_tri : ∀ a b : List UInt8, Op.bytesLess a b = false → Op.bytesLess b a = false → a = b
  | [], [], _, _ => rfl
  | [], _ :: _, h, _ => by simp [Op.bytesLess] at h
  | _ :: _, [], _, h => by simp [Op.bytesLess] at h
  | a :: x, b :: y, h1, h2 => by
    simp only [Op.bytesLess, Bool.or_eq_false_iff, decide_eq_false_iff_not] at h1 h2
    have hab : a = b := UInt8.le_antisymm (UInt8.not_lt.1 h2.1) (UInt8.not_lt.1 h1.1)
    subst hab
    simp only [BEq.rfl, Bool.true_and] at h1 h2
    rw [bl_tri x y h1.2 h2.2]
theorem ba_list {a b : ByteArray} (h : a.toList = b.toList) : a = b := by
  rw [Lib.toList_data, Lib.toList_data] at h
  cases a; cases b
  simp only [ByteArray.mk.injEq]
  exact Array.toList_inj.1 h
theorem lab_eq {x y : Lab} (h1 : x.name = y.name) (h2 : x.value = y.value) : x = y := by cases x; cases y; simp_all
theorem ll_irr : ∀ a : List Lab, labLess a a = false
  | [] => rfl
  | x :: a => by simp [labLess, ll_irr a]
theorem ll_tri : ∀ a b : List Lab, labLess a b = false → labLess b a = false → a = b
  | [], [], _, _ => rfl
  | [], _ :: _, h, _ => by simp [labLess] at h
  | _ :: _, [], _, h => by simp [labLess] at h
  | x :: a, y :: b, h1, h2 => by
    simp only [labLess] at h1 h2
    by_cases h : x.name = y.name ∧ x.value = y.value
    · rw [if_pos h] at h1
      rw [if_pos ⟨h.1.symm, h.2.symm⟩] at h2
      rw [ll_tri a b h1 h2, lab_eq h.1 h.2]
    · rw [if_neg h] at h1
      rw [if_neg (fun k => h ⟨k.1.symm, k.2.symm⟩)] at h2
      by_cases hn : x.name = y.name
      · rw [if_neg (by simp [hn])] at h1
        rw [if_neg (by simp [hn])] at h2
        exact absurd ⟨hn, ba_list (bl_tri _ _ h1 h2)⟩ h
      · rw [if_pos hn] at h1
        rw [if_pos (fun k => hn k.symm)] at h2
        exact absurd (ba_list (bl_tri _ _ h1 h2)) hn
theorem ll_tr : ∀ a b c : List Lab, labLess a b = true → labLess b c = true → labLess a c = true
  | _ :: _, [], _, h, _ => by simp [labLess] at h
  | [], [], _, h, _ => by simp [labLess] at h
  | _, _ :: _, [], _, h => by simp [labLess] at h
  | [], _ :: _, _ :: _, _, _ => by simp [labLess]
  | x :: a, y :: b, z :: c, h1, h2 => by
    simp only [labLess] at h1 h2 ⊢
    by_cases hxy : x.name = y.name
    · by_cases hxv : x.value = y.value
      · rw [if_pos ⟨hxy, hxv⟩] at h1
        rw [hxy, hxv]
        by_cases hyz : y.name = z.name ∧ y.value = z.value
        · rw [if_pos hyz] at h2 ⊢
          exact ll_tr a b c h1 h2
        · rw [if_neg hyz] at h2 ⊢
          exact h2
      · rw [if_neg (fun k => hxv k.2), if_neg (by simp [hxy])] at h1
        rw [hxy]
        by_cases hyn : y.name = z.name
        · by_cases hyv : y.value = z.value
          · rw [← hyv, if_neg (fun k => hxv k.2), if_neg (by simp [hyn])]
            exact h1
          · rw [if_neg (fun k => hyv k.2), if_neg (by simp [hyn])] at h2
            have h3 := bl_tr _ _ _ h1 h2
            rw [if_neg (fun k => by rw [k.2, bl_irr] at h3; cases h3), if_neg (by simp [hyn])]
            exact h3
        · rw [if_neg (fun k => hyn k.1), if_pos hyn] at h2
          rw [if_neg (fun k => hyn k.1), if_pos hyn]
          exact h2
    · rw [if_neg (fun k => hxy k.1), if_pos hxy] at h1
      by_cases hyn : y.name = z.name
      · rw [← hyn, if_neg (fun k => hxy k.1), if_pos hxy]
        exact h1
      · rw [if_neg (fun k => hyn k.1), if_pos hyn] at h2
        have h3 := bl_tr _ _ _ h1 h2
        have h4 : x.name ≠ z.name := fun k => by rw [k, bl_irr] at h3; cases h3
        rw [if_neg (fun k => h4 k.1), if_pos h4]
        exact h3
theorem ll_asym {a b : List Lab} (h : labLess a b = true) : labLess b a = false := by
  cases h2 : labLess b a with
  | false => rfl
  | true => have := ll_tr _ _ _ h h2; rw [ll_irr] at this; cases this
theorem decide_beq (a b : List Lab) : (a == b) = decide (a = b) := by
  by_cases h : a = b <;> simp [h]
def Sorted (l : List Ser) : Prop := l.Pairwise (fun x y => labLess x.l y.l = true)
theorem tabGo_some : ∀ (l : List Ser) (q : List Lab), tabGo (some q) l = true ↔ (∀ x ∈ l, serRight x = true) ∧ (∀ x ∈ l, labLess q x.l = true) ∧ Sorted l
  | [], q => by simp [tabGo, Sorted]
  | y :: r, q => by
    simp only [tabGo, Bool.and_eq_true, tabGo_some r, Sorted, List.pairwise_cons, List.mem_cons, forall_eq_or_imp]
    constructor
    · rintro ⟨⟨h1, h2⟩, h3, h4, h5⟩
      exact ⟨⟨h1, h3⟩, ⟨h2, fun x hx => ll_tr _ _ _ h2 (h4 x hx)⟩, h4, h5⟩
    · rintro ⟨⟨h1, h3⟩, ⟨h2, h6⟩, h4, h5⟩
      exact ⟨⟨h1, h2⟩, h3, h4, h5⟩
theorem tabRight_iff (l : List Ser) : tabRight l = true ↔ l.length ≤ 20 ∧ (∀ x ∈ l, serRight x = true) ∧ Sorted l := by
  unfold tabRight
  rw [Bool.and_eq_true, decide_eq_true_eq]
  cases l with
  | nil => simp [tabGo, Sorted]
  | cons y r => simp only [tabGo, Bool.and_eq_true, tabGo_some r, Sorted, List.pairwise_cons, List.mem_cons, forall_eq_or_imp, and_true]; constructor <;> (intro h; simp_all)
theorem find_sorted (q : List Lab) : ∀ l : List Ser, Sorted l → l.take (findAt l q) = l.filter (fun y => labLess y.l q) ∧ l.drop (findAt l q + (if thereAt l q then 1 else 0)) = l.filter (fun y => labLess q y.l) ∧ (thereAt l q = true ↔ ∃ x ∈ l, x.l = q)
  | [], _ => by simp [findAt, thereAt]
  | y :: r, h => by
    obtain ⟨hy, hr⟩ := List.pairwise_cons.1 h
    by_cases hl : labLess y.l q = true
    · obtain ⟨i1, i2, i3⟩ := find_sorted q r hr
      have hf : findAt (y :: r) q = findAt r q + 1 := by simp [findAt, hl]
      have ht : thereAt (y :: r) q = thereAt r q := by unfold thereAt; rw [hf, List.getElem?_cons_succ]
      have hne : y.l ≠ q := fun e => by rw [e, ll_irr] at hl; cases hl
      refine ⟨?_, ?_, ?_⟩
      · rw [hf, List.take_succ_cons, i1, List.filter_cons, if_pos hl]
      · rw [hf, ht, List.filter_cons_of_neg (by rw [ll_asym hl]; simp), ← i2, show findAt r q + 1 + (if thereAt r q = true then 1 else 0) = (findAt r q + (if thereAt r q = true then 1 else 0)) + 1 by omega, List.drop_succ_cons]
      · rw [ht, i3]; simp [hne]
    · have hl' : labLess y.l q = false := by simpa using hl
      have hf : findAt (y :: r) q = 0 := by simp [findAt, hl']
      have ht : thereAt (y :: r) q = decide (y.l = q) := by unfold thereAt; rw [hf, List.getElem?_cons_zero]; exact decide_beq _ _
      have hnone : ∀ z ∈ r, labLess z.l q = false := fun z hz => by
        cases hz2 : labLess z.l q with
        | false => rfl
        | true => exact absurd (ll_tr _ _ _ (hy z hz) hz2) hl
      have hF : r.filter (fun y => labLess y.l q) = [] := List.filter_eq_nil_iff.2 (fun z hz => by rw [hnone z hz]; simp)
      by_cases he : y.l = q
      · have hA : r.filter (fun y => labLess q y.l) = r := List.filter_eq_self.2 (fun z hz => by rw [← he]; exact hy z hz)
        refine ⟨by rw [hf, List.filter_cons, if_neg hl, hF]; rfl, ?_, by rw [ht]; simp [he]⟩
        rw [hf, ht, List.filter_cons_of_neg (by rw [he, ll_irr]; simp), hA]; simp [he]
      · have hq : labLess q y.l = true := by
          cases h2 : labLess q y.l with
          | true => rfl
          | false => exact absurd (ll_tri _ _ hl' h2) he
        have hA : r.filter (fun y => labLess q y.l) = r := List.filter_eq_self.2 (fun z hz => ll_tr _ _ _ hq (hy z hz))
        refine ⟨by rw [hf, List.filter_cons, if_neg hl, hF]; rfl, ?_, ?_⟩
        · rw [hf, ht, List.filter_cons_of_pos (by exact hq), hA]; simp [he]
        · rw [ht]
          simp only [he, decide_false, Bool.false_eq_true, List.mem_cons, exists_eq_or_imp, false_or, false_iff]
          rintro ⟨z, hz, e⟩
          have := ll_tr _ _ _ hq (hy z hz)
          rw [e, ll_irr] at this
          cases this
end Go.Proofs.YtpnlmfilmbodfaaGreatDoor

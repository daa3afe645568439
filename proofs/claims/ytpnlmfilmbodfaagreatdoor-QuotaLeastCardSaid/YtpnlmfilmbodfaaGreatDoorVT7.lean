/- Tables of series in memory. aviarylaw12.Few. series.rightSeries, series.Right. series.Right. series.Find. series.Cost. -/
import Derived.Test.YtpnlmfilmbodfaaGreatDoorVF8
namespace Go.Proofs.YtpnlmfilmbodfaaGreatDoor
open Go Go.RowKit Go.Shelf
theorem cell_heap {A B : World} {p : Addr} (h : B.heap[p.block]? = A.heap[p.block]?) : B.cell? p = A.cell? p := by unfold World.cell?; rw [h]
theorem SlC.frame {α : Type} {enc : α → List Value} {k n₀ : Nat} {A B : World} {a : Option Addr} {len cap : Nat} {l : List α} {q : Nat → Prop} (hs : SlC enc k n₀ A a len cap l) (hq : ∀ z, a = some z → 0 < cap → q z.block) (hf : ∀ b, b < n₀ → q b → B.heap[b]? = A.heap[b]?) : SlC enc k n₀ B a len cap l :=
  ⟨⟨hs.1.1, fun j x hx => by
    obtain ⟨b, off, e, hb, hc⟩ := hs.1.2 j x hx
    have hlt := (List.getElem?_eq_some_iff.1 hx).1
    have h1 := hs.1.1
    have h2 := hs.2.1
    exact ⟨b, off, e, hb, fun i hi => (cell_heap (hf b hb (hq _ e (by omega)))).trans (hc i hi)⟩⟩, hs.2⟩
structure SerP.Off (p : SerP) (q : Nat → Prop) : Prop where
  l : ∀ z, p.la = some z → 0 < p.lc → q z.block
  e : ∀ z, p.ss.ea = some z → 0 < p.ss.ec → q z.block
  c : ∀ z, p.ss.ca = some z → 0 < p.ss.cc → q z.block
  g : ∀ z, p.ss.ga = some z → 0 < p.ss.gc → q z.block
theorem SerP.Off.imp {p : SerP} {q r : Nat → Prop} (h : p.Off q) (hi : ∀ b, q b → r b) : p.Off r := ⟨fun z h1 h2 => hi _ (h.l z h1 h2), fun z h1 h2 => hi _ (h.e z h1 h2), fun z h1 h2 => hi _ (h.c z h1 h2), fun z h1 h2 => hi _ (h.g z h1 h2)⟩
theorem SerP.Off.and {p : SerP} {q r : Nat → Prop} (h : p.Off q) (h' : p.Off r) : p.Off (fun b => q b ∧ r b) := ⟨fun z h1 h2 => ⟨h.l z h1 h2, h'.l z h1 h2⟩, fun z h1 h2 => ⟨h.e z h1 h2, h'.e z h1 h2⟩, fun z h1 h2 => ⟨h.c z h1 h2, h'.c z h1 h2⟩, fun z h1 h2 => ⟨h.g z h1 h2, h'.g z h1 h2⟩⟩
section
variable {n n₁ : Nat} {A B w : World} {x : Ser} {p : SerP}
theorem SerP.At.off (h : p.At n w x) : p.Off (· < n) := ⟨fun z h1 h2 => (h.l.2.2.2.2 z h1 h2).2, fun z h1 h2 => (h.s.e.2.2.2.2 z h1 h2).2, fun z h1 h2 => (h.s.c.2.2.2.2 z h1 h2).2, fun z h1 h2 => (h.s.g.2.2.2.2 z h1 h2).2⟩
theorem SerP.At.frame {q : Nat → Prop} (h : p.At n A x) (hq : p.Off q) (hf : ∀ b, b < n → q b → B.heap[b]? = A.heap[b]?) : p.At n B x :=
  ⟨h.l.frame hq.l hf, ⟨h.s.e.frame hq.e hf, h.s.c.frame hq.c hf, h.s.g.frame hq.g hf⟩⟩
theorem SerP.At.below (h : p.At n A x) (hb : Below n A B) : p.At n B x := ⟨h.l.below hb, h.s.below hb⟩
theorem SerP.At.mono (h : p.At n A x) (hn : n ≤ n₁) : p.At n₁ A x := ⟨h.l.mono hn, h.s.mono hn⟩
theorem SerP.At.drew (h : p.At n w x) : p.At n w.drew x := ⟨h.l, ⟨h.s.e, h.s.c, h.s.g⟩⟩
theorem SerP.At.go (h : p.At A.heap.size A x) (hb : Below A.heap.size A B) : p.At B.heap.size B x := (h.below hb).mono hb.size
end
def serEnc (e : Ser × SerP) : List Value := serVals e.1 e.2
theorem serEnc_len (e : Ser × SerP) : (serEnc e).length = 12 := rfl
theorem serEnc_one (e : Ser × SerP) : ∀ u ∈ serEnc e, u.oneCell' = true := by
  intro u hu
  simp only [serEnc, serVals, List.mem_cons, List.not_mem_nil, or_false] at hu
  rcases hu with h | h | h | h | h | h | h | h | h | h | h | h <;> (subst h; rfl)
structure Tab (n₀ : Nat) (w : World) (a : Option Addr) (len cap : Nat) (l : List (Ser × SerP)) : Prop where
  row : SlC serEnc 12 n₀ w a len cap l
  at_ : ∀ e ∈ l, e.2.At n₀ w e.1
section
variable {n₀ n₁ : Nat} {A B w : World} {a : Option Addr} {len cap : Nat} {l : List (Ser × SerP)}
theorem Tab.below (h : Tab n₀ A a len cap l) (hb : Below n₀ A B) : Tab n₀ B a len cap l := ⟨h.row.below hb, fun e he => (h.at_ e he).below hb⟩
theorem Tab.mono (h : Tab n₀ A a len cap l) (hn : n₀ ≤ n₁) : Tab n₁ A a len cap l := ⟨h.row.mono hn, fun e he => (h.at_ e he).mono hn⟩
theorem Tab.go (h : Tab A.heap.size A a len cap l) (hb : Below A.heap.size A B) : Tab B.heap.size B a len cap l := (h.below hb).mono hb.size
theorem Tab.nil : Tab n₀ w none 0 0 [] := ⟨SlC.nil, fun e he => by cases he⟩
theorem Tab.drew (h : Tab n₀ w a len cap l) : Tab n₀ w.drew a len cap l := ⟨h.row, fun e he => (h.at_ e he).drew⟩
theorem Tab.take (h : Tab n₀ w a len cap l) (m : Nat) (hm : m ≤ len) : Tab n₀ w a m cap (l.take m) := ⟨h.row.take m hm, fun e he => h.at_ e (List.mem_of_mem_take he)⟩
end
theorem append_where {P : Program} {t e : TypeId} {z : Value} {size bytes : Nat} (ty : TypeId) (ht : P.underlying t = some (.slice e)) (hinfo : (P.info? e).map (fun i => (i.zero, i.size, i.bytes)) = some (some z, size, bytes))
    {W w1 : World} {base : Nat} {v v' : Value} {n m c : Nat} {xs : List Value} (hown : W.ownsRow base e size v n xs) {a : Addr} {news : List Value} (hl : news.length = m * size) (hnews : ∀ j u, news[j]? = some u → W.cell? (a.add j) = some u) (h1 : ∀ u ∈ news, u.oneCell' = true) (hm : 0 < m)
    (h63 : n + m ≤ maxLen) (hbytes : (n + m) * bytes ≤ 140737488355328)
    (hr : (Builtin.append_ #[t, t] ty #[v, .slice (some a) m c]).run P W = .ok v' w1) : v'.ownBlock = v.ownBlock ∨ ∃ g, v'.ownBlock = some g ∧ W.heap.size ≤ g := by
  obtain ⟨i, hi, hz, hsize, hby⟩ := info_parts hinfo
  subst hsize
  subst hby
  have hsmall : n + m ≤ 9223372036854775807 := by simp only [maxLen] at h63; omega
  rcases hown.2 with ⟨rfl, rfl⟩ | ⟨g, cap, cur, rfl, hbg, hg, hnc, hcm, hcs, htake⟩
  · have hx : xs = [] := List.eq_nil_of_length_eq_zero (by simpa using hown.1)
    subst hx
    rw [run_append_nil (P := P) W t ty e i z ht hi hz a m c news hl hnews (by omega) (by omega) (by have hb := hbytes; simp only [Nat.zero_add] at hb; omega)] at hr
    injection hr with hr1
    subst hr1
    exact .inr ⟨_, rfl, Nat.le_refl _⟩
  · by_cases hroom : n + m ≤ cap
    · have hfit : n * i.size + news.length ≤ cur.size := by rw [hl, hcs, ← Nat.add_mul]; exact Nat.mul_le_mul_right _ hroom
      rw [run_append_room (P := P) W t ty e i ht hi g n cap cur hg a m c news hl hnews h1 hroom hfit] at hr
      injection hr with hr1
      subst hr1
      exact .inl rfl
    · have holds : ∀ j u, xs[j]? = some u → W.cell? ((⟨g, 0, none⟩ : Addr).add j) = some u := hown.cells (g := g) rfl
      rw [run_append_grow (P := P) W t ty e i z ht hi hz ⟨g, 0, none⟩ n cap xs hown.1 holds a m c news hl hnews (by omega) (by omega) (growslice_fits (by omega) hbytes)] at hr
      injection hr with hr1
      subst hr1
      exact .inr ⟨_, rfl, Nat.le_refl _⟩
theorem und_table : Tryz.prog.underlying 57 = some (.slice 64) := by kernel_rfl
theorem info_series : (Tryz.prog.info? 64).map (fun i => (i.zero, i.size, i.bytes)) = some (some (.agg #[.slice none 0 0, .int .i64 0, .int .i64 0, .slice none 0 0, .int .i64 0, .string ⟨#[]⟩, .int .i64 0, .int .i64 0, .slice none 0 0, .int .i64 0, .slice none 0 0, .int .u64 0]), 12, 168) := by kernel_rfl
structure GrowS (base : Nat) (q : Nat → Prop) (w : World) (v : Value) (l : List (Ser × SerP)) : Prop where
  own : w.ownsRow base 64 12 v l.length (l.flatMap serEnc)
  at_ : ∀ e ∈ l, e.2.At w.heap.size w e.1
  off : ∀ e ∈ l, e.2.Off (fun b => q b ∧ some b ≠ v.ownBlock)
theorem GrowS.nil (base : Nat) (q : Nat → Prop) (w : World) : GrowS base q w (.slice none 0 0) [] := ⟨World.ownsRow_nil _ _ _ _, (fun e h => by cases h), (fun e h => by cases h)⟩
theorem GrowS.form {base : Nat} {q : Nat → Prop} {w : World} {v : Value} {l : List (Ser × SerP)} (h : GrowS base q w v l) : ∃ a c, v = .slice a l.length c := owns_formL h.own
theorem GrowS.drew {base : Nat} {q : Nat → Prop} {w : World} {v : Value} {l : List (Ser × SerP)} (h : GrowS base q w v l) : GrowS base q w.drew v l := ⟨h.own, fun e he => (h.at_ e he).drew, h.off⟩
theorem GrowS.go {base : Nat} {q : Nat → Prop} {A B : World} {v : Value} {l : List (Ser × SerP)} (h : GrowS base q A v l) (hb : Below A.heap.size A B) : GrowS base q B v l :=
  ⟨⟨h.own.1, h.own.2.imp id (fun ⟨g, cap, cur, h1, h2, h3, h4⟩ => ⟨g, cap, cur, h1, h2, known hb (Nat.le_refl _) h3, h4⟩)⟩, fun e he => (h.at_ e he).go hb, h.off⟩
theorem GrowS.tab {base : Nat} {q : Nat → Prop} {w : World} {v : Value} {l : List (Ser × SerP)} (h : GrowS base q w v l) : ∃ a cap, v = .slice a l.length cap ∧ Tab w.heap.size w a l.length cap l ∧ (∀ z, a = some z → base ≤ z.block) ∧ (∀ e ∈ l, e.2.Off (fun b => q b ∧ ∀ z, a = some z → b ≠ z.block)) := by
  obtain ⟨a, cap, rfl, h1, h2⟩ := slC_of_owns (enc := serEnc) serEnc_len h.own
  refine ⟨a, cap, rfl, ⟨h1, h.at_⟩, h2, fun e he => (h.off e he).imp fun b hb => ⟨hb.1, fun z hz hbz => ?_⟩⟩
  subst hz
  exact hb.2 (by rw [hbz]; rfl)
theorem GrowS.push {base B : Nat} {q : Nat → Prop} {W w0 : World} {v : Value} {l : List (Ser × SerP)} (h : GrowS base q W v l) (hB : Below B w0 W) (hBb : B ≤ base) (hbase : base ≤ W.heap.size) (hn : l.length < 4294967) {x : Ser} {p : SerP} (hp : p.At W.heap.size W x) (ho : p.Off (fun b => q b ∧ some b ≠ v.ownBlock)) :
    ∃ g cap w1, (Builtin.append_ #[57, 57] 57 #[v, .slice (some ⟨W.heap.size, 0, none⟩) 1 1]).run Tryz.prog (W.alloc (.cells (serVals x p).toArray 64)) = .ok (.slice (some ⟨g, 0, none⟩) (l.length + 1) cap) w1 ∧
      GrowS base q w1 (.slice (some ⟨g, 0, none⟩) (l.length + 1) cap) (l ++ [(x, p)]) ∧ Below B w0 w1 ∧ W.heap.size < w1.heap.size ∧ (∀ k, k < W.heap.size → some k ≠ v.ownBlock → w1.heap[k]? = W.heap[k]?) := by
  obtain ⟨g, cap, w1, hap, hown, hB1, hsz, -, hfr⟩ := append_one Tryz.prog 57 und_table info_series rfl (by decide) (W := W) h.own hB hBb hbase (serVals x p) rfl (serEnc_one (x, p)) (by omega) (by decide)
  have hcell : ∀ j u, (serVals x p)[j]? = some u → (W.alloc (.cells (serVals x p).toArray 64)).cell? ((⟨W.heap.size, 0, none⟩ : Addr).add j) = some u := fun j u hj => by
    have := cCc (World.alloc_heap_new W (.cells (serVals x p).toArray 64)) j
    have ea : (⟨W.heap.size, 0, none⟩ : Addr).add j = ⟨W.heap.size, j, none⟩ := by unfold Addr.add; split <;> simp_all
    rw [ea, this]
    simpa using hj
  have hwh := append_where 57 und_table info_series (h.own.alloc _) (n := l.length) (m := 1) rfl hcell (serEnc_one (x, p)) (by omega) (by unfold maxLen; omega) (by omega) hap
  have hoff : ∀ b, b < W.heap.size → some b ≠ v.ownBlock → some b ≠ Value.ownBlock (.slice (some ⟨g, 0, none⟩) (l.length + 1) cap) := fun b hb hne => by
    rcases hwh with e | ⟨g', e, hg⟩
    · rw [e]; exact hne
    · rw [e]
      intro hc
      injection hc with hc
      simp at hg
      omega
  have hmem : ∀ e ∈ l ++ [(x, p)], e.2.At W.heap.size W e.1 ∧ e.2.Off (fun b => q b ∧ some b ≠ v.ownBlock) := fun e he => by
    rcases List.mem_append.1 he with h1 | h1
    · exact ⟨h.at_ e h1, h.off e h1⟩
    · rw [List.mem_singleton] at h1
      subst h1
      exact ⟨hp, ho⟩
  refine ⟨g, cap, w1, hap, ⟨?_, fun e he => ?_, fun e he => ?_⟩, hB1, hsz, hfr⟩
  · rw [List.length_append, List.flatMap_append]
    simpa [serEnc] using hown
  · obtain ⟨h1, h2⟩ := hmem e he
    exact (h1.frame h2 (fun b hb hq => hfr b hb hq.2)).mono (by omega)
  · obtain ⟨h1, h2⟩ := hmem e he
    exact (h1.off.and h2).imp fun b hb => ⟨hb.2.1, hoff b hb.1 hb.2.2⟩
end Go.Proofs.YtpnlmfilmbodfaaGreatDoor
namespace Go.Proofs.YtpnlmfilmbodfaaGreatDoor
open Go Go.RowKit Go.Shelf
attribute [-go_sem] Builtin.append_
theorem grow_off {k : Nat} {va : Option Addr} {vc n : Nat} {W : World} {m : List (Ser × SerP)} (h : GrowS n (fun _ => True) W (.slice va k vc) m) {p : SerP} {c : SerP} (hl : ∀ z, p.la = some z → W.heap.size ≤ z.block) (hc : c.Off (· < n)) (e : p.ss = c.ss.cut) : p.Off (fun b => True ∧ some b ≠ Value.ownBlock (.slice va k vc)) := by
  have hown := h.own.lt
  refine ⟨fun z h1 _ => ⟨trivial, fun h3 => ?_⟩, fun z h1 h2 => ⟨trivial, fun h3 => ?_⟩, fun z h1 h2 => ⟨trivial, fun h3 => ?_⟩, fun z h1 h2 => ⟨trivial, fun h3 => ?_⟩⟩
  · have := hl z h1; have := hown _ h3.symm; omega
  · rw [e] at h1 h2; have := hc.e z h1 h2; have := hown _ h3.symm; omega
  · rw [e] at h1 h2; have := hc.c z h1 h2; have := hown _ h3.symm; omega
  · rw [e] at h1 h2; have := hc.g z h1 h2; have := hown _ h3.symm; omega
def LabsFrom (n : Nat) (l m : List (Ser × SerP)) : Prop := (∀ e ∈ m, ∀ z, e.2.la = some z → n ≤ z.block) ∧ ∀ q : Nat → Prop, (∀ e ∈ l, e.2.Off q) → ∀ e ∈ m, e.2.Off (fun b => q b ∨ n ≤ b)
def few12 (l : List Ser) : List Ser := (l.take 22).map Ser.cut
set_option maxRecDepth 100000 in
set_option maxHeartbeats 2000000 in
theorem few12_any (l : List (Ser × SerP)) (a : Option Addr) (len cap : Nat) (w : World) (hT : Tab w.heap.size w a len cap l) :
    Calls Tryz.prog 41 #[.slice a len cap] w fun e w' => ∃ a' cap' m, e = .returned (.slice a' m.length cap') ∧ Tab w'.heap.size w' a' m.length cap' m ∧ m.map (·.1) = few12 (l.map (·.1)) ∧ (∀ x, a' = some x → w.heap.size ≤ x.block) ∧ LabsFrom w.heap.size l m ∧ Below w.heap.size w w' := by
  have hlen := hT.row.1.1
  subst hlen
  have HT := Lib.hid hT
  clear hT
  go_enter Tryz.func41, Tryz.ntmps41
  go_wp2_with fail
  go_loopw [3, 4] (fun v i wr => ∃ (k : Nat) (m : List (Ser × SerP)), i = .int .i64 k ∧ k ≤ l.length ∧ k ≤ 22 ∧ m.length = k ∧ m.map (·.1) = ((l.map (·.1)).take k).map Ser.cut ∧ LabsFrom w.heap.size l m ∧ Below w.heap.size w wr ∧ GrowS w.heap.size (fun _ => True) wr v m) (fun _ i _ => l.length - (intOf i).toNat)
  case atStart => exact ⟨0, [], rfl, Nat.zero_le _, by omega, rfl, rfl, ⟨(fun e h => by cases h), fun q _ e h => by cases h⟩, Below.refl _ _, GrowS.nil _ _ _⟩
  case round =>
    obtain ⟨k, m, rfl, hk, hk22, hmk, hmm, hml, hB, hG⟩ := hrel
    have hsz := hB.size
    by_cases hlt : k < l.length ∧ k < 22
    · obtain ⟨hlt, hlt22⟩ := hlt
      obtain ⟨⟨x, p⟩, hx⟩ : ∃ x, l[k]? = some x := ⟨_, List.getElem?_eq_getElem hlt⟩
      obtain ⟨b, off, rfl, hbb, hc⟩ := (HT.out.below hB).row.1.2 k (x, p) hx
      have c0 : wr.cell? ⟨b, off + k * 12, none⟩ = some (.slice p.la p.ll p.lc) := hc 0 (by omega)
      have c1 : wr.cell? ⟨b, off + k * 12 + 1, none⟩ = some (.int .i64 x.sk.kind) := hc 1 (by omega)
      have c2 : wr.cell? ⟨b, off + k * 12 + 2, none⟩ = some (.int .i64 x.sk.level) := hc 2 (by omega)
      have c3 : wr.cell? ⟨b, off + k * 12 + 3, none⟩ = some (.slice p.ss.ea p.ss.el p.ss.ec) := hc 3 (by omega)
      have c4 : wr.cell? ⟨b, off + k * 12 + 4, none⟩ = some (.int .i64 x.sk.hb) := hc 4 (by omega)
      have c5 : wr.cell? ⟨b, off + k * 12 + 5, none⟩ = some (.string x.sk.hr) := hc 5 (by omega)
      have c6 : wr.cell? ⟨b, off + k * 12 + 6, none⟩ = some (.int .i64 x.sk.cr) := hc 6 (by omega)
      have c7 : wr.cell? ⟨b, off + k * 12 + 7, none⟩ = some (.int .i64 x.sk.cc) := hc 7 (by omega)
      have c8 : wr.cell? ⟨b, off + k * 12 + 8, none⟩ = some (.slice p.ss.ca p.ss.cl p.ss.cc) := hc 8 (by omega)
      have c9 : wr.cell? ⟨b, off + k * 12 + 9, none⟩ = some (.int .i64 x.sk.gf) := hc 9 (by omega)
      have c10 : wr.cell? ⟨b, off + k * 12 + 10, none⟩ = some (.slice p.ss.ga p.ss.gl p.ss.gc) := hc 10 (by omega)
      have c11 : wr.cell? ⟨b, off + k * 12 + 11, none⟩ = some (.int .u64 x.seen) := hc 11 (by omega)
      have hX := Lib.hid hx
      have HG := Lib.hid hG
      have HM := Lib.hid hmm
      have HL := Lib.hid hmk
      have HP : Hid (p.At wr.heap.size wr x) := ((HT.out.at_ _ (List.mem_of_getElem? hx)).below hB).mono hsz
      have HO : Hid (p.Off (· < w.heap.size)) := (HT.out.at_ _ (List.mem_of_getElem? hx)).off
      obtain ⟨va, vc, rfl⟩ := hG.form
      have HO2 := Lib.hid (fun p' hl e => grow_off (p := p') HG.out hl HO.out e)
      clear hc hx hG hmm hmk
      have e4 : (k : Int) < 22 := by omega
      go_wp2_with (go_at_call 107; refine (one12_any x p _ HP.out).mono ?_; rintro e w2 ⟨⟨la', ll', lc', s'⟩, rfl, hss, hat, hfr, hb2⟩; have HSS := Lib.hid hss; obtain ⟨g5, cap5, w5, hap5, hG5, hB5, hz5, -⟩ := (HG.out.go hb2).push (hB.trans (hb2.mono hsz)) (Nat.le_refl _) (Nat.le_trans hsz hb2.size) (by rw [HL.out]; omega) hat (HO2.out _ hfr hss); have HG5 := Lib.hid hG5; have HA := Lib.hid hat; have hZ := hb2.size; clear hG5 hat hss; unfold serVals at hap5 ⊢; dsimp only at hap5 ⊢)
      refine ⟨⟨k + 1, m ++ [(x.cut, ⟨la', ll', lc', s'⟩)], by go_num, by omega, by omega, by rw [List.length_append, HL.out]; rfl, ?_, ?_, hB5, HG5.out⟩, by simp [intOf]; omega⟩
      · rw [List.map_append, HM.out, take_snoc' (x := x) (by rw [List.getElem?_map, hX.out]; rfl), List.map_append]; rfl
      · refine ⟨fun e he z hz => ?_, fun q hq e he => ?_⟩
        · rcases List.mem_append.1 he with h | h
          · exact hml.1 e h z hz
          · rw [List.mem_singleton] at h
            subst h
            exact Nat.le_trans hsz (hfr z hz)
        · rcases List.mem_append.1 he with h | h
          · exact hml.2 q hq e h
          · rw [List.mem_singleton] at h
            subst h
            have h4 := hq (x, p) (List.mem_of_getElem? hX.out)
            have hs4 : s' = p.ss.cut := HSS.out
            subst hs4
            exact ⟨fun z hz _ => .inr (Nat.le_trans hsz (hfr z hz)), fun z h1 h2 => .inl (h4.e z h1 h2), fun z h1 h2 => .inl (h4.c z h1 h2), fun z h1 h2 => .inl (h4.g z h1 h2)⟩
    · have HK : Hid (k = min l.length 22) := by rw [Hid]; omega
      obtain ⟨va, vc, rfl, hTb, hlo, hoff⟩ := hG.tab
      have FI : Hid (∃ a' cap' m', Ending.returned (.slice va m.length vc) = .returned (.slice a' m'.length cap') ∧ Tab wr.heap.size wr a' m'.length cap' m' ∧ m'.map (·.1) = few12 (l.map (·.1)) ∧ (∀ x, a' = some x → w.heap.size ≤ x.block) ∧ LabsFrom w.heap.size l m' ∧ Below w.heap.size w wr) := by
        refine ⟨va, vc, m, rfl, hTb, ?_, hlo, hml, hB⟩
        rw [hmm, few12, HK.out]
        congr 1
        have hl2 : (l.map (·.1)).length = l.length := List.length_map ..
        rw [Nat.min_comm, ← hl2]
        exact List.take_eq_take_min.symm
      clear hmm hmk HK hG hTb hoff
      go_wp2_with fail
      all_goals go_ret
      all_goals exact FI.out
end Go.Proofs.YtpnlmfilmbodfaaGreatDoor
namespace Go.Proofs.YtpnlmfilmbodfaaGreatDoor
open Go Go.RowKit Go.Shelf
structure SerFit (x : Ser) (p : SerP) : Prop where
  lab : LabsOk x.l
  ll : p.ll < 4294967281
  short : p.ss.Short
  fit : x.sk.fit
  hr : x.sk.hr.size < 2147483648
  seen : U64 x.seen
def serRight (x : Ser) : Bool := labRight x.l && skOk x.sk
set_option maxRecDepth 100000 in
set_option maxHeartbeats 1000000 in
theorem rightSeries_any (x : Ser) (p : SerP) (w : World) (h : p.At w.heap.size w x) (hf : SerFit x p) (hG : GW w) :
    Calls Tryz.prog 108 #[.agg #[.slice p.la p.ll p.lc, .int .i64 x.sk.kind, .int .i64 x.sk.level, .slice p.ss.ea p.ss.el p.ss.ec, .int .i64 x.sk.hb, .string x.sk.hr, .int .i64 x.sk.cr, .int .i64 x.sk.cc, .slice p.ss.ca p.ss.cl p.ss.cc, .int .i64 x.sk.gf, .slice p.ss.ga p.ss.gl p.ss.gc, .int .u64 x.seen]] w fun e w' => e = .returned (.bool (serRight x)) ∧ Below w.heap.size w w' := by
  obtain ⟨W0, hW0, hX0, hB0, hs0⟩ := boxes1 w #[.slice p.la p.ll p.lc, .int .i64 x.sk.kind, .int .i64 x.sk.level, .slice p.ss.ea p.ss.el p.ss.ec, .int .i64 x.sk.hb, .string x.sk.hr, .int .i64 x.sk.cr, .int .i64 x.sk.cc, .slice p.ss.ca p.ss.cl p.ss.cc, .int .i64 x.sk.gf, .slice p.ss.ga p.ss.gl p.ss.gc, .int .u64 x.seen] 64
  have c0 : W0.cell? ⟨w.heap.size, 0, none⟩ = some (.slice p.la p.ll p.lc) := cCc hX0 0
  have c1 : W0.cell? ⟨w.heap.size, 1, none⟩ = some (.int .i64 x.sk.kind) := cCc hX0 1
  have c2 : W0.cell? ⟨w.heap.size, 2, none⟩ = some (.int .i64 x.sk.level) := cCc hX0 2
  have c3 : W0.cell? ⟨w.heap.size, 3, none⟩ = some (.slice p.ss.ea p.ss.el p.ss.ec) := cCc hX0 3
  have c4 : W0.cell? ⟨w.heap.size, 4, none⟩ = some (.int .i64 x.sk.hb) := cCc hX0 4
  have c5 : W0.cell? ⟨w.heap.size, 5, none⟩ = some (.string x.sk.hr) := cCc hX0 5
  have c6 : W0.cell? ⟨w.heap.size, 6, none⟩ = some (.int .i64 x.sk.cr) := cCc hX0 6
  have c7 : W0.cell? ⟨w.heap.size, 7, none⟩ = some (.int .i64 x.sk.cc) := cCc hX0 7
  have c8 : W0.cell? ⟨w.heap.size, 8, none⟩ = some (.slice p.ss.ca p.ss.cl p.ss.cc) := cCc hX0 8
  have c9 : W0.cell? ⟨w.heap.size, 9, none⟩ = some (.int .i64 x.sk.gf) := cCc hX0 9
  have c10 : W0.cell? ⟨w.heap.size, 10, none⟩ = some (.slice p.ss.ga p.ss.gl p.ss.gc) := cCc hX0 10
  have c11 : W0.cell? ⟨w.heap.size, 11, none⟩ = some (.int .u64 x.seen) := cCc hX0 11
  have HA : Hid (p.At W0.heap.size W0 x) := h.go hB0
  have HF := Lib.hid hf
  have HG : Hid (GW W0) := hG.below hB0
  have hz0 : w.heap.size < W0.heap.size := by omega
  clear h hf hG hs0 hX0
  by_cases hr : labRight x.l = true
  · have HR : Hid (serRight x = skOk x.sk) := by rw [Hid, serRight, hr]; rfl
    go_enter Tryz.func108, Tryz.ntmps108
    go_wp2_with (first
      | (go_at_call 160; refine (label_Right_E _ _ _ x.l _ HA.out.l.1 HF.out.lab HG.out HF.out.ll).mono ?_; rintro e w1 ⟨rfl, hb1⟩; rw [hr]; obtain ⟨hc1, hc2⟩ := bcell hb1; have HA1 : Hid (p.At w1.heap.size w1 x) := HA.out.go hb1; have hB1 := hB0.trans (hb1.mono (Nat.le_of_lt hz0)))
      | (go_at_call 29; refine (ladder_Right_any x.sk p.ss _ HA1.out.s HF.out.short HF.out.fit).mono ?_; rintro e w2 ⟨rfl, hb2⟩))
    go_ret
    exact ⟨by rw [HR.out]; rfl, hB1.trans (hb2.mono hB1.size)⟩
  · have hr' : labRight x.l = false := by simpa using hr
    have HR : Hid (serRight x = false) := by rw [Hid, serRight, hr']; rfl
    clear hr
    go_enter Tryz.func108, Tryz.ntmps108
    go_wp2_with (go_at_call 160; refine (label_Right_E _ _ _ x.l _ HA.out.l.1 HF.out.lab HG.out HF.out.ll).mono ?_; rintro e w1 ⟨rfl, hb1⟩; rw [hr'])
    go_ret
    exact ⟨by rw [HR.out]; rfl, hB0.trans (hb1.mono (Nat.le_of_lt hz0))⟩
end Go.Proofs.YtpnlmfilmbodfaaGreatDoor
namespace Go.Proofs.YtpnlmfilmbodfaaGreatDoor
open Go Go.RowKit Go.Shelf
def TabFit (l : List (Ser × SerP)) : Prop := ∀ e ∈ l, SerFit e.1 e.2
def tabGo : Option (List Lab) → List Ser → Bool
  | _, [] => true
  | p, x :: r => serRight x && (match p with | none => true | some y => labLess y x.l) && tabGo (some x.l) r
def tabRight (l : List Ser) : Bool := decide (l.length ≤ 20) && tabGo none l
def prevL (l : List Ser) (k : Nat) : Option (List Lab) := if k = 0 then none else (l[k - 1]?).map (·.l)
theorem tabGo_at {l : List Ser} {k : Nat} {x : Ser} (hx : l[k]? = some x) (p : Option (List Lab)) : tabGo p (l.drop k) = (serRight x && (match p with | none => true | some y => labLess y x.l) && tabGo (some x.l) (l.drop (k + 1))) := by
  rw [drop_cons' hx]; rfl
theorem prevL_succ {l : List Ser} {k : Nat} {x : Ser} (hx : l[k]? = some x) : prevL l (k + 1) = some x.l := by simp [prevL, hx]
theorem prevL_pos {l : List Ser} {k : Nat} {x : Ser} (hk : 0 < k) (hx : l[k - 1]? = some x) : prevL l k = some x.l := by simp [prevL, hx]; omega
set_option maxRecDepth 100000 in
set_option maxHeartbeats 4000000 in
theorem series_Right_any (l : List (Ser × SerP)) (a : Option Addr) (len cap : Nat) (w : World) (hT : Tab w.heap.size w a len cap l) (hF : TabFit l) (hG : GW w) :
    Calls Tryz.prog 43 #[.slice a len cap] w fun e w' => e = .returned (.bool (tabRight (l.map (·.1)))) ∧ Below w.heap.size w w' := by
  have hlen := hT.row.1.1
  subst hlen
  have HT := Lib.hid hT
  have HF := Lib.hid hF
  have HG := Lib.hid hG
  clear hT hF hG
  by_cases h20 : l.length ≤ 20
  case neg =>
    have HR : Hid (tabRight (l.map (·.1)) = false) := by simp [Hid, tabRight]; omega
    have h21 : (20 : Int) < l.length := by omega
    generalize tabRight (l.map (·.1)) = bR at HR ⊢
    go_enter Tryz.func43, Tryz.ntmps43
    go_wp2_with fail
    go_ret
    exact ⟨by rw [HR.out]; rfl, Below.refl _ _⟩
  have HR : Hid (tabRight (l.map (·.1)) = tabGo none (l.map (·.1))) := by simp [Hid, tabRight, h20]
  have h21 : (l.length : Int) ≤ 20 := by omega
  generalize tabRight (l.map (·.1)) = bR at HR ⊢
  go_enter Tryz.func43, Tryz.ntmps43
  go_wp2_with fail
  go_loopw [10] (fun i wr => ∃ (k : Nat), i = .int .i64 k ∧ k ≤ l.length ∧ Below w.heap.size w wr ∧ Hid (tabGo none (l.map (·.1)) = tabGo (prevL (l.map (·.1)) k) ((l.map (·.1)).drop k))) (fun i _ => l.length - (intOf i).toNat)
  case atStart => exact ⟨0, rfl, Nat.zero_le _, Below.refl _ _, rfl⟩
  case round =>
    obtain ⟨k, rfl, hk, hB, HS⟩ := hrel
    have hsz := hB.size
    by_cases hlt : k < l.length
    · obtain ⟨⟨x, p⟩, hx⟩ : ∃ x, l[k]? = some x := ⟨_, List.getElem?_eq_getElem hlt⟩
      obtain ⟨b, off, rfl, hbb, hc⟩ := (HT.out.below hB).row.1.2 k (x, p) hx
      have c0 : wr.cell? ⟨b, off + k * 12, none⟩ = some (.slice p.la p.ll p.lc) := hc 0 (by omega)
      have c1 : wr.cell? ⟨b, off + k * 12 + 1, none⟩ = some (.int .i64 x.sk.kind) := hc 1 (by omega)
      have c2 : wr.cell? ⟨b, off + k * 12 + 2, none⟩ = some (.int .i64 x.sk.level) := hc 2 (by omega)
      have c3 : wr.cell? ⟨b, off + k * 12 + 3, none⟩ = some (.slice p.ss.ea p.ss.el p.ss.ec) := hc 3 (by omega)
      have c4 : wr.cell? ⟨b, off + k * 12 + 4, none⟩ = some (.int .i64 x.sk.hb) := hc 4 (by omega)
      have c5 : wr.cell? ⟨b, off + k * 12 + 5, none⟩ = some (.string x.sk.hr) := hc 5 (by omega)
      have c6 : wr.cell? ⟨b, off + k * 12 + 6, none⟩ = some (.int .i64 x.sk.cr) := hc 6 (by omega)
      have c7 : wr.cell? ⟨b, off + k * 12 + 7, none⟩ = some (.int .i64 x.sk.cc) := hc 7 (by omega)
      have c8 : wr.cell? ⟨b, off + k * 12 + 8, none⟩ = some (.slice p.ss.ca p.ss.cl p.ss.cc) := hc 8 (by omega)
      have c9 : wr.cell? ⟨b, off + k * 12 + 9, none⟩ = some (.int .i64 x.sk.gf) := hc 9 (by omega)
      have c10 : wr.cell? ⟨b, off + k * 12 + 10, none⟩ = some (.slice p.ss.ga p.ss.gl p.ss.gc) := hc 10 (by omega)
      have c11 : wr.cell? ⟨b, off + k * 12 + 11, none⟩ = some (.int .u64 x.seen) := hc 11 (by omega)
      have HX : Hid ((l.map (·.1))[k]? = some x) := by rw [Hid, List.getElem?_map, hx]; rfl
      have HP : Hid (p.At wr.heap.size wr x) := ((HT.out.at_ _ (List.mem_of_getElem? hx)).below hB).mono hsz
      have HFx := Lib.hid (HF.out _ (List.mem_of_getElem? hx))
      have HS' : Hid (tabGo none (l.map (·.1)) = (serRight x && (match prevL (l.map (·.1)) k with | none => true | some y => labLess y x.l) && tabGo (some x.l) ((l.map (·.1)).drop (k + 1)))) := by rw [Hid, HS.out, tabGo_at HX.out]
      obtain ⟨W1, hW1, hX1, hB1, hs1⟩ := boxes1 wr #[.slice p.la p.ll p.lc, .int .i64 x.sk.kind, .int .i64 x.sk.level, .slice p.ss.ea p.ss.el p.ss.ec, .int .i64 x.sk.hb, .string x.sk.hr, .int .i64 x.sk.cr, .int .i64 x.sk.cc, .slice p.ss.ca p.ss.cl p.ss.cc, .int .i64 x.sk.gf, .slice p.ss.ga p.ss.gl p.ss.gc, .int .u64 x.seen] 64
      have r0 : W1.cell? ⟨wr.heap.size, 0, none⟩ = some (.slice p.la p.ll p.lc) := cCc hX1 0
      have r1 : W1.cell? ⟨wr.heap.size, 1, none⟩ = some (.int .i64 x.sk.kind) := cCc hX1 1
      have r2 : W1.cell? ⟨wr.heap.size, 2, none⟩ = some (.int .i64 x.sk.level) := cCc hX1 2
      have r3 : W1.cell? ⟨wr.heap.size, 3, none⟩ = some (.slice p.ss.ea p.ss.el p.ss.ec) := cCc hX1 3
      have r4 : W1.cell? ⟨wr.heap.size, 4, none⟩ = some (.int .i64 x.sk.hb) := cCc hX1 4
      have r5 : W1.cell? ⟨wr.heap.size, 5, none⟩ = some (.string x.sk.hr) := cCc hX1 5
      have r6 : W1.cell? ⟨wr.heap.size, 6, none⟩ = some (.int .i64 x.sk.cr) := cCc hX1 6
      have r7 : W1.cell? ⟨wr.heap.size, 7, none⟩ = some (.int .i64 x.sk.cc) := cCc hX1 7
      have r8 : W1.cell? ⟨wr.heap.size, 8, none⟩ = some (.slice p.ss.ca p.ss.cl p.ss.cc) := cCc hX1 8
      have r9 : W1.cell? ⟨wr.heap.size, 9, none⟩ = some (.int .i64 x.sk.gf) := cCc hX1 9
      have r10 : W1.cell? ⟨wr.heap.size, 10, none⟩ = some (.slice p.ss.ga p.ss.gl p.ss.gc) := cCc hX1 10
      have r11 : W1.cell? ⟨wr.heap.size, 11, none⟩ = some (.int .u64 x.seen) := cCc hX1 11
      have HP1 : Hid (p.At W1.heap.size W1 x) := HP.out.go hB1
      have HG1 : Hid (GW W1) := HG.out.below (hB.trans (hB1.mono hsz))
      have hz1 : wr.heap.size < W1.heap.size := by omega
      clear hc hx hs1
      by_cases hr : serRight x = true
      case neg =>
        have hr' : serRight x = false := by simpa using hr
        have H9 : Hid (bR = false) := by rw [Hid, HR.out, HS'.out, hr']; rfl
        clear hr
        go_wp2_with (go_at_call 108; refine (rightSeries_any x p _ HP1.out HFx.out HG1.out).mono ?_; rintro e w2 ⟨rfl, hb2⟩; rw [hr']; have hZ := hb2.size)
        go_ret
        exact ⟨by rw [H9.out]; rfl, hB.trans ((hB1.mono hsz).trans (hb2.mono (by omega)))⟩
      have H8 : Hid (serRight x = true) := hr
      clear hr
      go_wp2_with (go_at_call 108; refine (rightSeries_any x p _ HP1.out HFx.out HG1.out).mono ?_; rintro e w2 ⟨rfl, hb2⟩; rw [H8.out]; have hZ := hb2.size)
      have g0 : w2.cell? ⟨wr.heap.size, 0, none⟩ = some (.slice p.la p.ll p.lc) := (hb2.cell (p := ⟨wr.heap.size, 0, none⟩) hz1).trans r0
      have HP2 : Hid (p.At w2.heap.size w2 x) := HP1.out.go hb2
      have hBB : Below w.heap.size w w2 := hB.trans ((hB1.mono hsz).trans (hb2.mono (by omega)))
      let Inv : World → Prop := fun W => Below w2.heap.size w2 W
      have hgo : ∀ W W', Inv W → Below W.heap.size W W' → Inv W' := fun W W' h hb => Below.trans h (hb.mono h.size)
      have hfin : Hid (∀ X : WIn Inv, Below w.heap.size w X.world) := fun X => hBB.trans (Below.mono X.ok hBB.size)
      have hI0 : Hid (Inv w2.drew) := (Below.refl _ _).drew
      have hne : Nonempty (WIn Inv) := ⟨⟨_, hI0.out⟩⟩
      have q0 : ∀ X : WIn Inv, X.world.cell? ⟨wr.heap.size, 0, none⟩ = some (.slice p.la p.ll p.lc) := fun X => (Below.cell X.ok (p := ⟨wr.heap.size, 0, none⟩) (by show wr.heap.size < _; omega)).trans g0
      clear r0 r1 r2 r3 r4 r5 r6 r7 r8 r9 r10 r11 hX1 hW1 c0 c1 c2 c3 c4 c5 c6 c7 c8 c9 c10 c11 g0
      rcases Nat.eq_zero_or_pos k with h0 | hpos
      · have t0 : decide ((0 : Int) < (k : Int)) = false := by simp; omega
        have t1 : decide (0 < k) = false := by simp; omega
        have H7 : Hid (tabGo none (l.map (·.1)) = tabGo (prevL (l.map (·.1)) (k + 1)) ((l.map (·.1)).drop (k + 1))) := by rw [Hid, HS'.out, H8.out, prevL_succ HX.out, h0]; rfl
        clear HS' HS h0
        clear_value Inv
        refine wp_region_class Inv (by kernel_rfl) (by kernel_rfl) hI0.out ?_
        repeat (first | go_big_quiet_step (fail) | quiet_step (fail))
        refine wpQuiet_nil ?_
        rintro _ ⟨X, rfl⟩
        have hX := hfin.out X
        go_wp2_with fail
        all_goals go_roundw
        case rel => exact ⟨k + 1, by go_num, by omega, hX, H7.out⟩
        case measure => simp [intOf]; omega
      · obtain ⟨⟨y, py⟩, hy⟩ : ∃ x, l[k - 1]? = some x := ⟨_, List.getElem?_eq_getElem (by omega)⟩
        obtain ⟨b', off', e1, hbb', hc'⟩ := HT.out.row.1.2 (k - 1) (y, py) hy
        injection e1 with e1
        injection e1 with e1 e2
        subst e1; subst e2
        have t0 : decide ((0 : Int) < (k : Int)) = true := by simp; omega
        have t1 : decide (0 < k) = true := by simp; omega
        have i1 : (1 : Int) ≤ (k : Int) := by omega
        have q1 : ∀ X : WIn Inv, X.world.cell? ⟨b, off + (k - 1) * 12, none⟩ = some (.slice py.la py.ll py.lc) := fun X => ((hfin.out X).cell (p := ⟨b, off + (k - 1) * 12, none⟩) hbb).trans (hc' 0 (by omega))
        have HY : Hid (prevL (l.map (·.1)) k = some y.l) := prevL_pos hpos (by rw [List.getElem?_map, hy]; rfl)
        have HPy : Hid (py.At w.heap.size w y) := HT.out.at_ _ (List.mem_of_getElem? hy)
        have HFy := Lib.hid (HF.out _ (List.mem_of_getElem? hy))
        have HPyI : Hid (∀ X : WIn Inv, py.At X.world.heap.size X.world y) := fun X => (HPy.out.below (hfin.out X)).mono (hfin.out X).size
        have HPxI : Hid (∀ X : WIn Inv, p.At X.world.heap.size X.world x) := fun X => HP2.out.go X.ok
        have K0 : Hid (∀ X : WIn Inv, Calls Tryz.prog 109 #[.slice py.la py.ll py.lc, .slice p.la p.ll p.lc] X.world fun e w' => e = .returned (.bool (labLess y.l x.l)) ∧ ∃ Y : WIn Inv, w' = Y.world) := fun X => calls_class_below hgo (label_Less_any _ _ _ y.l _ _ _ x.l X.world (HPyI.out X).l.1 (HPxI.out X).l.1 (Nat.le_trans (HPyI.out X).l.2.1 (HPyI.out X).l.2.2.1) (Nat.le_trans (HPxI.out X).l.2.1 (HPxI.out X).l.2.2.1))
        have HS2 : Hid (tabGo none (l.map (·.1)) = (labLess y.l x.l && tabGo (prevL (l.map (·.1)) (k + 1)) ((l.map (·.1)).drop (k + 1)))) := by rw [Hid, HS'.out, H8.out, HY.out, prevL_succ HX.out]; rfl
        clear hy hc' HS' HS HPyI HPxI
        clear hgo
        clear_value Inv
        generalize labLess y.l x.l = b1 at K0 HS2
        cases b1
        · have K1 := Lib.hid K0.out
          have H9 : Hid (bR = false) := by rw [Hid, HR.out, HS2.out]; rfl
          clear K0
          refine wp_region_class Inv (by kernel_rfl) (by kernel_rfl) hI0.out ?_
          repeat (first | go_big_quiet_step ((go_at_call 109; with_reducible exact K1.out _)) | quiet_step ((go_at_call 109; with_reducible exact K1.out _)))
          refine wpQuiet_nil ?_
          rintro _ ⟨X, rfl⟩
          have hX := hfin.out X
          go_wp2_with fail
          go_ret
          exact ⟨by rw [H9.out]; rfl, hX⟩
        · have K1 := Lib.hid K0.out
          have H7 : Hid (tabGo none (l.map (·.1)) = tabGo (prevL (l.map (·.1)) (k + 1)) ((l.map (·.1)).drop (k + 1))) := by rw [Hid, HS2.out]; rfl
          clear K0
          refine wp_region_class Inv (by kernel_rfl) (by kernel_rfl) hI0.out ?_
          repeat (first | go_big_quiet_step ((go_at_call 109; with_reducible exact K1.out _)) | quiet_step ((go_at_call 109; with_reducible exact K1.out _)))
          refine wpQuiet_nil ?_
          rintro _ ⟨X, rfl⟩
          have hX := hfin.out X
          go_wp2_with fail
          all_goals go_roundw
          case rel => exact ⟨k + 1, by go_num, by omega, hX, H7.out⟩
          case measure => simp [intOf]; omega
    · obtain rfl : k = l.length := by omega
      have H9 : Hid (bR = true) := by rw [Hid, HR.out, HS.out, List.drop_eq_nil_of_le (by rw [List.length_map]; exact Nat.le_refl _)]; cases prevL (l.map (·.1)) l.length <;> rfl
      go_wp2_with fail
      go_ret
      exact ⟨by rw [H9.out]; rfl, hB⟩
end Go.Proofs.YtpnlmfilmbodfaaGreatDoor
namespace Go.Proofs.YtpnlmfilmbodfaaGreatDoor
open Go Go.RowKit Go.Shelf
def findAt (l : List Ser) (q : List Lab) : Nat := (l.takeWhile (fun x => labLess x.l q)).length
def thereAt (l : List Ser) (q : List Lab) : Bool := match l[findAt l q]? with | some x => x.l == q | none => false
theorem findAt_less {l : List Ser} {q : List Lab} {k : Nat} {x : Ser} (hx : l[k]? = some x) (h : labLess x.l q = true) : findAt (l.drop k) q = 1 + findAt (l.drop (k + 1)) q := by
  rw [drop_cons' hx, findAt, List.takeWhile_cons, if_pos h, List.length_cons, Nat.add_comm]; rfl
theorem findAt_stop {l : List Ser} {q : List Lab} {k : Nat} {x : Ser} (hx : l[k]? = some x) (h : labLess x.l q = false) : findAt (l.drop k) q = 0 := by
  rw [drop_cons' hx, findAt, List.takeWhile_cons, if_neg (by simp [h])]; rfl
theorem findAt_le (l : List Ser) (q : List Lab) : findAt l q ≤ l.length := (List.takeWhile_prefix _).length_le
set_option maxRecDepth 100000 in
set_option maxHeartbeats 4000000 in
theorem series_Find_any (l : List (Ser × SerP)) (a : Option Addr) (len cap : Nat) (q : List Lab) (qa : Option Addr) (qn qc : Nat) (w : World) (hT : Tab w.heap.size w a len cap l) (hF : TabFit l) (hG : GW w) (hQ : SlE Lab.enc 2 w.heap.size w qa qn q) (hqm : qn ≤ maxLen) :
    Calls Tryz.prog 49 #[.slice a len cap, .slice qa qn qc] w fun e w' => e = .returned (.tuple #[.int .i64 (if tabRight (l.map (·.1)) then (findAt (l.map (·.1)) q : Int) else 0), .bool (tabRight (l.map (·.1)) && thereAt (l.map (·.1)) q)]) ∧ Below w.heap.size w w' := by
  have hR := series_Right_any l a len cap w hT hF hG
  have hlen := hT.row.1.1
  subst hlen
  have HT := Lib.hid hT
  have HQ := Lib.hid hQ
  have hm : l.length ≤ maxLen := Nat.le_trans hT.row.2.1 hT.row.2.2.1
  unfold maxLen at hm
  have HQM := Lib.hid hqm
  clear hT hF hG hQ hqm
  cases hr : tabRight (l.map (·.1)) with
  | false =>
    rw [hr] at hR
    go_enter Tryz.func49, Tryz.ntmps49
    go_wp2_with (go_at_call 43; refine hR.mono ?_; rintro e w1 ⟨rfl, hb1⟩)
    go_ret2
    exact ⟨rfl, hb1⟩
  | true =>
    rw [hr] at hR
    rw [if_pos rfl, Bool.true_and]
    clear hr
    obtain ⟨bT, hbT⟩ : ∃ bT, thereAt (l.map (·.1)) q = bT := ⟨_, rfl⟩
    obtain ⟨kT, hkT⟩ : ∃ kT, findAt (l.map (·.1)) q = kT := ⟨_, rfl⟩
    rw [hbT, hkT]
    have HbT : Hid (bT = thereAt (l.map (·.1)) q) := hbT.symm
    have HkT : Hid (kT = findAt (l.map (·.1)) q) := hkT.symm
    clear hbT hkT
    go_enter Tryz.func49, Tryz.ntmps49
    go_wp2_with (go_at_call 43; refine hR.mono ?_; rintro e w1 ⟨rfl, hb1⟩)
    clear hR
    go_loopw [6] (fun i wr => ∃ (k : Nat), i = .int .i64 k ∧ k ≤ l.length ∧ Below w.heap.size w wr ∧ Hid (kT = k + findAt ((l.map (·.1)).drop k) q)) (fun i _ => l.length - (intOf i).toNat)
    case atStart => exact ⟨0, rfl, Nat.zero_le _, hb1, by rw [Hid, HkT.out, Nat.zero_add]; rfl⟩
    case round =>
      obtain ⟨k, rfl, hk, hB, HS⟩ := hrel
      have hsz := hB.size
      by_cases hlt : k < l.length
      · obtain ⟨⟨x, p⟩, hx⟩ : ∃ x, l[k]? = some x := ⟨_, List.getElem?_eq_getElem hlt⟩
        obtain ⟨b, off, rfl, hbb, hc⟩ := HT.out.row.1.2 k (x, p) hx
        have HX : Hid ((l.map (·.1))[k]? = some x) := by rw [Hid, List.getElem?_map, hx]; rfl
        have c0 : wr.cell? ⟨b, off + k * 12, none⟩ = some (.slice p.la p.ll p.lc) := (hB.cell (p := ⟨b, off + k * 12, none⟩) hbb).trans (hc 0 (by omega))
        have HP : Hid (p.At w.heap.size w x) := HT.out.at_ _ (List.mem_of_getElem? hx)
        have HC : Hid (w.cell? ⟨b, off + k * 12, none⟩ = some (.slice p.la p.ll p.lc)) := hc 0 (by omega)
        clear hc hx
        cases hL : labLess x.l q with
        | true =>
          have HL := Lib.hid hL
          clear hL
          go_wp2_with (go_at_call 109; refine (label_Less_any _ _ _ x.l _ _ _ q wr ((HP.out.below hB).mono hsz).l.1 ((HQ.out.below hB).mono hsz) (Nat.le_trans HP.out.l.2.1 HP.out.l.2.2.1) HQM.out).mono ?_; rintro e w2 ⟨rfl, hb2⟩; rw [HL.out])
          go_roundw
          case rel => exact ⟨k + 1, by go_num, by omega, hB.trans (hb2.mono hsz), by rw [Hid, HS.out, findAt_less HX.out HL.out]; omega⟩
          case measure => simp [intOf]; omega
        | false =>
          have HL := Lib.hid hL
          have H9 : Hid (kT = k) := by rw [Hid, HS.out, findAt_stop HX.out HL.out]; rfl
          have H8 : Hid (bT = (x.l == q)) := by rw [Hid, HbT.out, thereAt, ← HkT.out, H9.out, HX.out]
          clear hL
          go_wp2_with (go_at_call 109; refine (label_Less_any _ _ _ x.l _ _ _ q wr ((HP.out.below hB).mono hsz).l.1 ((HQ.out.below hB).mono hsz) (Nat.le_trans HP.out.l.2.1 HP.out.l.2.2.1) HQM.out).mono ?_; rintro e w2 ⟨rfl, hb2⟩; rw [HL.out]; have hB2 := hB.trans (hb2.mono hsz); have c2 : w2.cell? ⟨b, off + k * 12, none⟩ = some (.slice p.la p.ll p.lc) := (hB2.cell (p := ⟨b, off + k * 12, none⟩) hbb).trans HC.out)
          refine (equal_lab _ _ _ x.l _ _ _ q w2 ((HP.out.below hB2).mono hB2.size).l.1 ((HQ.out.below hB2).mono hB2.size) (Nat.le_trans HP.out.l.2.1 HP.out.l.2.2.1)).mono ?_
          rintro e w3 ⟨rfl, hb3⟩
          go_wp2_with fail
          go_ret2
          exact ⟨by rw [H9.out, H8.out]; simp, hB2.trans (hb3.mono hB2.size)⟩
      · obtain rfl : k = l.length := by omega
        have hnil : (l.map (·.1)).drop l.length = [] := List.drop_eq_nil_of_le (by rw [List.length_map]; exact Nat.le_refl _)
        have H9 : Hid (kT = l.length) := by rw [Hid, HS.out, hnil]; rfl
        have H8 : Hid (bT = false) := by rw [Hid, HbT.out, thereAt, ← HkT.out, H9.out, List.getElem?_eq_none (by rw [List.length_map]; exact Nat.le_refl _)]
        clear hnil
        go_wp2_with fail
        go_ret2
        exact ⟨by rw [H9.out, H8.out]; rfl, hB⟩
end Go.Proofs.YtpnlmfilmbodfaaGreatDoor
namespace Go.Proofs.YtpnlmfilmbodfaaGreatDoor
open Go Go.RowKit Go.Shelf
def serCost (x : Ser) : Int := costOf x.sk + ((textS x.l).size : Int)
def costL : List Ser → Int
  | [] => 0
  | x :: r => serCost x + costL r
theorem costL_append (a b : List Ser) : costL (a ++ b) = costL a + costL b := by
  induction a with
  | nil => simp [costL]
  | cons x a ih => simp only [List.cons_append, costL, ih]; omega
theorem costOf_small {x : Sk} {s : SS} {n : Nat} {w : World} (hx : s.At n w x) (hs : s.Short) (hr : x.hr.size < 2147483648) : 0 ≤ costOf x ∧ costOf x ≤ 34359738400 := by
  have h1 := hx.e.1.1
  have h2 := hx.c.1.1
  have h3 := hx.g.1.1
  obtain ⟨s1, s2, s3⟩ := hs
  unfold costOf
  repeat' split
  all_goals omega
theorem textS_small {l : List Lab} (h : LabsOk l) : (textS l).size ≤ 180388625808 := by
  unfold textS
  split
  · rename_i hr
    have h6 : l.length ≤ 6 := by simp [labRight] at hr; exact hr.1.2
    obtain ⟨ls, rfl⟩ := labK_of l h
    rw [labText, Lib.size_eq]
    have h7 := join_len [44] 30064770967 (((ls.map (·.1)).map labPart).map (·.data.toList)) (fun x hx => by
      simp only [List.mem_map] at hx
      obtain ⟨_, ⟨_, ⟨u, _, rfl⟩, rfl⟩, rfl⟩ := hx
      exact labPart_len u)
    simp only [List.length_map, List.length_singleton] at h7 h6
    have : ls.length * (30064770967 + 1) ≤ 6 * (30064770967 + 1) := Nat.mul_le_mul_right _ h6
    simp only []
    omega
  · exact Nat.zero_le _
theorem serCost_small {x : Ser} {p : SerP} {n : Nat} {w : World} (h : p.At n w x) (hf : SerFit x p) : 0 ≤ serCost x ∧ serCost x ≤ 220000000000 := by
  have h1 := costOf_small h.s hf.short hf.hr
  have h2 := textS_small hf.lab
  unfold serCost
  omega
theorem costL_small : ∀ (l : List (Ser × SerP)) (n : Nat) (w : World), (∀ e ∈ l, e.2.At n w e.1) → TabFit l → 0 ≤ costL (l.map (·.1)) ∧ costL (l.map (·.1)) ≤ 220000000000 * l.length
  | [], _, _, _, _ => by simp [costL]
  | e :: r, n, w, h, hf => by
    have h1 := serCost_small (h e List.mem_cons_self) (hf e List.mem_cons_self)
    have h2 := costL_small r n w (fun e he => h e (List.mem_cons_of_mem _ he)) (fun e he => hf e (List.mem_cons_of_mem _ he))
    simp only [List.map_cons, costL, List.length_cons]
    omega
def tabCost (l : List Ser) : Int := if tabRight l then costL l else 0
set_option maxRecDepth 100000 in
set_option maxHeartbeats 4000000 in
theorem series_Cost_any (l : List (Ser × SerP)) (a : Option Addr) (len cap : Nat) (w : World) (hT : Tab w.heap.size w a len cap l) (hF : TabFit l) (hG : GW w) :
    Calls Tryz.prog 44 #[.slice a len cap] w fun e w' => e = .returned (.int .i64 (tabCost (l.map (·.1)))) ∧ Below w.heap.size w w' := by
  have hR := series_Right_any l a len cap w hT hF hG
  have hlen := hT.row.1.1
  subst hlen
  have HT := Lib.hid hT
  have HF := Lib.hid hF
  have HG := Lib.hid hG
  have hm : l.length ≤ maxLen := Nat.le_trans hT.row.2.1 hT.row.2.2.1
  unfold maxLen at hm
  have HK : Hid (∀ k, k ≤ l.length → 0 ≤ costL ((l.map (·.1)).take k) ∧ costL ((l.map (·.1)).take k) ≤ 220000000000 * k) := fun k hk => by
    have h1 := costL_small (l.take k) _ _ (fun e he => hT.at_ e (List.mem_of_mem_take he)) (fun e he => hF e (List.mem_of_mem_take he))
    rw [List.map_take, List.length_take, Nat.min_eq_left hk] at h1
    exact h1
  clear hT hF hG
  cases hr : tabRight (l.map (·.1)) with
  | false =>
    rw [hr] at hR
    have HR : Hid (tabCost (l.map (·.1)) = 0) := by rw [Hid, tabCost, hr]; rfl
    generalize tabCost (l.map (·.1)) = cR at HR ⊢
    clear hr
    go_enter Tryz.func44, Tryz.ntmps44
    go_wp2_with (go_at_call 43; refine hR.mono ?_; rintro e w1 ⟨rfl, hb1⟩)
    go_ret
    exact ⟨by rw [HR.out]; rfl, hb1⟩
  | true =>
    rw [hr] at hR
    have HR : Hid (tabCost (l.map (·.1)) = costL (l.map (·.1))) := by rw [Hid, tabCost, hr]; rfl
    have h20 : l.length ≤ 20 := by simp [tabRight] at hr; exact hr.1
    generalize tabCost (l.map (·.1)) = cR at HR ⊢
    clear hr
    go_enter Tryz.func44, Tryz.ntmps44
    go_wp2_with (go_at_call 43; refine hR.mono ?_; rintro e w1 ⟨rfl, hb1⟩)
    clear hR
    go_loopw [3, 13] (fun c i wr => ∃ (k : Nat) (s : Int), i = .int .i64 k ∧ c = .int .i64 s ∧ k ≤ l.length ∧ Below w.heap.size w wr ∧ Hid (s = costL ((l.map (·.1)).take k)) ∧ 0 ≤ s ∧ s ≤ 220000000000 * k) (fun _ i _ => l.length - (intOf i).toNat)
    case atStart => exact ⟨0, 0, rfl, rfl, Nat.zero_le _, hb1, rfl, by omega, by omega⟩
    case round =>
      obtain ⟨k, s, rfl, rfl, hk, hB, HS, hs0, hs1⟩ := hrel
      have hsz := hB.size
      by_cases hlt : k < l.length
      · obtain ⟨⟨x, p⟩, hx⟩ : ∃ x, l[k]? = some x := ⟨_, List.getElem?_eq_getElem hlt⟩
        obtain ⟨b, off, rfl, hbb, hc⟩ := (HT.out.below hB).row.1.2 k (x, p) hx
        have c0 : wr.cell? ⟨b, off + k * 12, none⟩ = some (.slice p.la p.ll p.lc) := hc 0 (by omega)
        have c1 : wr.cell? ⟨b, off + k * 12 + 1, none⟩ = some (.int .i64 x.sk.kind) := hc 1 (by omega)
        have c2 : wr.cell? ⟨b, off + k * 12 + 2, none⟩ = some (.int .i64 x.sk.level) := hc 2 (by omega)
        have c3 : wr.cell? ⟨b, off + k * 12 + 3, none⟩ = some (.slice p.ss.ea p.ss.el p.ss.ec) := hc 3 (by omega)
        have c4 : wr.cell? ⟨b, off + k * 12 + 4, none⟩ = some (.int .i64 x.sk.hb) := hc 4 (by omega)
        have c5 : wr.cell? ⟨b, off + k * 12 + 5, none⟩ = some (.string x.sk.hr) := hc 5 (by omega)
        have c6 : wr.cell? ⟨b, off + k * 12 + 6, none⟩ = some (.int .i64 x.sk.cr) := hc 6 (by omega)
        have c7 : wr.cell? ⟨b, off + k * 12 + 7, none⟩ = some (.int .i64 x.sk.cc) := hc 7 (by omega)
        have c8 : wr.cell? ⟨b, off + k * 12 + 8, none⟩ = some (.slice p.ss.ca p.ss.cl p.ss.cc) := hc 8 (by omega)
        have c9 : wr.cell? ⟨b, off + k * 12 + 9, none⟩ = some (.int .i64 x.sk.gf) := hc 9 (by omega)
        have c10 : wr.cell? ⟨b, off + k * 12 + 10, none⟩ = some (.slice p.ss.ga p.ss.gl p.ss.gc) := hc 10 (by omega)
        have c11 : wr.cell? ⟨b, off + k * 12 + 11, none⟩ = some (.int .u64 x.seen) := hc 11 (by omega)
        have HX : Hid ((l.map (·.1))[k]? = some x) := by rw [Hid, List.getElem?_map, hx]; rfl
        have HP : Hid (p.At wr.heap.size wr x) := ((HT.out.at_ _ (List.mem_of_getElem? hx)).below hB).mono hsz
        have HFx := Lib.hid (HF.out _ (List.mem_of_getElem? hx))
        obtain ⟨W1, hW1, hX1, hB1, hzz⟩ := boxes1 wr #[.slice p.la p.ll p.lc, .int .i64 x.sk.kind, .int .i64 x.sk.level, .slice p.ss.ea p.ss.el p.ss.ec, .int .i64 x.sk.hb, .string x.sk.hr, .int .i64 x.sk.cr, .int .i64 x.sk.cc, .slice p.ss.ca p.ss.cl p.ss.cc, .int .i64 x.sk.gf, .slice p.ss.ga p.ss.gl p.ss.gc, .int .u64 x.seen] 64
        have r0 : W1.cell? ⟨wr.heap.size, 0, none⟩ = some (.slice p.la p.ll p.lc) := cCc hX1 0
        have r1 : W1.cell? ⟨wr.heap.size, 1, none⟩ = some (.int .i64 x.sk.kind) := cCc hX1 1
        have r2 : W1.cell? ⟨wr.heap.size, 2, none⟩ = some (.int .i64 x.sk.level) := cCc hX1 2
        have r3 : W1.cell? ⟨wr.heap.size, 3, none⟩ = some (.slice p.ss.ea p.ss.el p.ss.ec) := cCc hX1 3
        have r4 : W1.cell? ⟨wr.heap.size, 4, none⟩ = some (.int .i64 x.sk.hb) := cCc hX1 4
        have r5 : W1.cell? ⟨wr.heap.size, 5, none⟩ = some (.string x.sk.hr) := cCc hX1 5
        have r6 : W1.cell? ⟨wr.heap.size, 6, none⟩ = some (.int .i64 x.sk.cr) := cCc hX1 6
        have r7 : W1.cell? ⟨wr.heap.size, 7, none⟩ = some (.int .i64 x.sk.cc) := cCc hX1 7
        have r8 : W1.cell? ⟨wr.heap.size, 8, none⟩ = some (.slice p.ss.ca p.ss.cl p.ss.cc) := cCc hX1 8
        have r9 : W1.cell? ⟨wr.heap.size, 9, none⟩ = some (.int .i64 x.sk.gf) := cCc hX1 9
        have r10 : W1.cell? ⟨wr.heap.size, 10, none⟩ = some (.slice p.ss.ga p.ss.gl p.ss.gc) := cCc hX1 10
        have r11 : W1.cell? ⟨wr.heap.size, 11, none⟩ = some (.int .u64 x.seen) := cCc hX1 11
        have HP1 : Hid (p.At W1.heap.size W1 x) := HP.out.go hB1
        have HG1 : Hid (GW W1) := HG.out.below (hB.trans (hB1.mono hsz))
        have hz1 : wr.heap.size < W1.heap.size := by omega
        have hT2 := textS_small HFx.out.lab
        obtain ⟨hC1, hC2⟩ := costOf_small HP.out.s HFx.out.short HFx.out.hr
        have H9 : Hid (costL ((l.map (·.1)).take (k + 1)) = s + (costOf x.sk + ((textS x.l).size : Int))) := by
          rw [Hid, take_snoc' HX.out, costL_append, ← HS.out]; simp [costL, serCost]
        have HTx := label_Text_E p.la p.ll p.lc x.l W1 HP1.out.l.1 HFx.out.lab HG1.out HFx.out.ll
        have HCx : Hid (∀ w', Below W1.heap.size W1 w' → Calls Tryz.prog 33 #[.agg #[.int .i64 x.sk.kind, .int .i64 x.sk.level, .slice p.ss.ea p.ss.el p.ss.ec, .int .i64 x.sk.hb, .string x.sk.hr, .int .i64 x.sk.cr, .int .i64 x.sk.cc, .slice p.ss.ca p.ss.cl p.ss.cc, .int .i64 x.sk.gf, .slice p.ss.ga p.ss.gl p.ss.gc]] w' fun e w'' => e = .returned (.int .i64 (costOf x.sk)) ∧ Below w'.heap.size w' w'') := fun w' hb => ladder_Cost_any x.sk p.ss w' (HP1.out.go hb).s HFx.out.short HFx.out.fit HFx.out.hr
        generalize textS x.l = tx at *
        generalize costOf x.sk = cx at *
        clear hc hx
        go_wp2_with (first
          | (go_at_call 110; refine HTx.mono ?_; rintro e w2 ⟨rfl, hb2⟩; obtain ⟨hc2, hd2⟩ := bcell hb2)
          | (go_at_call 33; refine (HCx.out _ hb2).mono ?_; rintro e w3 ⟨rfl, hb3⟩))
        have hBB : Below w.heap.size w w3 := hB.trans ((hB1.trans ((hb2.trans (hb3.mono hb2.size)).mono (by omega))).mono hsz)
        go_roundw
        case rel => exact ⟨k + 1, s + (cx + (tx.size : Int)), by go_num, by go_num, by omega, hBB, H9.out.symm, by omega, by omega⟩
        case measure => simp [intOf]; omega
      · obtain rfl : k = l.length := by omega
        have H9 : Hid (cR = s) := by rw [Hid, HR.out, HS.out, List.take_of_length_le (by rw [List.length_map]; exact Nat.le_refl _)]
        go_wp2_with fail
        go_ret
        exact ⟨by rw [H9.out]; rfl, hB⟩
end Go.Proofs.YtpnlmfilmbodfaaGreatDoor

/- Tables of series in memory. -/
import Derived.Test.YthnfhklfmaeccaaGreatDoorF8
namespace Go.Proofs.YthnfhklfmaeccaaGreatDoor
open Go Go.RowKit Go.Shelf

theorem cell_heap {A B : World} {p : Addr} (h : B.heap[p.block]? = A.heap[p.block]?) : B.cell? p = A.cell? p := by unfold World.cell?; rw [h]
theorem SlC.frame {α : Type} {enc : α → List Value} {k n₀ : Nat} {A B : World} {a : Option Addr} {len cap : Nat} {l : List α} {q : Nat → Prop} (hs : SlC enc k n₀ A a len cap l) (hq : ∀ z, a = some z → 0 < cap → q z.block) (hf : ∀ b, b < n₀ → q b → B.heap[b]? = A.heap[b]?) : SlC enc k n₀ B a len cap l :=
  ⟨⟨hs.1.1, fun j x hx => by
    obtain ⟨b, off, e, hb, hc⟩ := hs.1.2 j x hx
    have hlt := (List.getElem?_eq_some_iff.1 hx).1
    have h1 := hs.1.1
    have h2 := hs.2.1
    exact ⟨b, off, e, hb, fun i hi => (cell_heap (hf b hb (hq _ e (by omega)))).trans (hc i hi)⟩⟩, hs.2⟩
structure SerP.Off (p : SerP) (q : Nat → Prop) : Prop where
  l : ∀ z, p.la = some z → 0 < p.lc → q z.block
  e : ∀ z, p.ss.ea = some z → 0 < p.ss.ec → q z.block
  c : ∀ z, p.ss.ca = some z → 0 < p.ss.cc → q z.block
  g : ∀ z, p.ss.ga = some z → 0 < p.ss.gc → q z.block
theorem SerP.Off.imp {p : SerP} {q r : Nat → Prop} (h : p.Off q) (hi : ∀ b, q b → r b) : p.Off r := ⟨fun z h1 h2 => hi _ (h.l z h1 h2), fun z h1 h2 => hi _ (h.e z h1 h2), fun z h1 h2 => hi _ (h.c z h1 h2), fun z h1 h2 => hi _ (h.g z h1 h2)⟩
theorem SerP.Off.and {p : SerP} {q r : Nat → Prop} (h : p.Off q) (h' : p.Off r) : p.Off (fun b => q b ∧ r b) := ⟨fun z h1 h2 => ⟨h.l z h1 h2, h'.l z h1 h2⟩, fun z h1 h2 => ⟨h.e z h1 h2, h'.e z h1 h2⟩, fun z h1 h2 => ⟨h.c z h1 h2, h'.c z h1 h2⟩, fun z h1 h2 => ⟨h.g z h1 h2, h'.g z h1 h2⟩⟩
section
variable {n n₁ : Nat} {A B w : World} {x : Ser} {p : SerP}
theorem SerP.At.off (h : p.At n w x) : p.Off (· < n) := ⟨fun z h1 h2 => (h.l.2.2.2.2 z h1 h2).2, fun z h1 h2 => (h.s.e.2.2.2.2 z h1 h2).2, fun z h1 h2 => (h.s.c.2.2.2.2 z h1 h2).2, fun z h1 h2 => (h.s.g.2.2.2.2 z h1 h2).2⟩
theorem SerP.At.frame {q : Nat → Prop} (h : p.At n A x) (hq : p.Off q) (hf : ∀ b, b < n → q b → B.heap[b]? = A.heap[b]?) : p.At n B x :=
  ⟨h.l.frame hq.l hf, ⟨h.s.e.frame hq.e hf, h.s.c.frame hq.c hf, h.s.g.frame hq.g hf⟩⟩
theorem SerP.At.below (h : p.At n A x) (hb : Below n A B) : p.At n B x := ⟨h.l.below hb, h.s.below hb⟩
theorem SerP.At.mono (h : p.At n A x) (hn : n ≤ n₁) : p.At n₁ A x := ⟨h.l.mono hn, h.s.mono hn⟩
theorem SerP.At.drew (h : p.At n w x) : p.At n w.drew x := ⟨h.l, ⟨h.s.e, h.s.c, h.s.g⟩⟩
theorem SerP.At.go (h : p.At A.heap.size A x) (hb : Below A.heap.size A B) : p.At B.heap.size B x := (h.below hb).mono hb.size
end
def serEnc (e : Ser × SerP) : List Value := serVals e.1 e.2
theorem serEnc_len (e : Ser × SerP) : (serEnc e).length = 12 := rfl
theorem serEnc_one (e : Ser × SerP) : ∀ u ∈ serEnc e, u.oneCell' = true := by
  intro u hu
  simp only [serEnc, serVals, List.mem_cons, List.not_mem_nil, or_false] at hu
  rcases hu with h | h | h | h | h | h | h | h | h | h | h | h <;> (subst h; rfl)
/-- A table: a slice of series, and where their lists lie. -/
structure Tab (n₀ : Nat) (w : World) (a : Option Addr) (len cap : Nat) (l : List (Ser × SerP)) : Prop where
  row : SlC serEnc 12 n₀ w a len cap l
  at_ : ∀ e ∈ l, e.2.At n₀ w e.1
section
variable {n₀ n₁ : Nat} {A B w : World} {a : Option Addr} {len cap : Nat} {l : List (Ser × SerP)}
theorem Tab.below (h : Tab n₀ A a len cap l) (hb : Below n₀ A B) : Tab n₀ B a len cap l := ⟨h.row.below hb, fun e he => (h.at_ e he).below hb⟩
theorem Tab.mono (h : Tab n₀ A a len cap l) (hn : n₀ ≤ n₁) : Tab n₁ A a len cap l := ⟨h.row.mono hn, fun e he => (h.at_ e he).mono hn⟩
theorem Tab.go (h : Tab A.heap.size A a len cap l) (hb : Below A.heap.size A B) : Tab B.heap.size B a len cap l := (h.below hb).mono hb.size
theorem Tab.nil : Tab n₀ w none 0 0 [] := ⟨SlC.nil, fun e he => by cases he⟩
theorem Tab.drew (h : Tab n₀ w a len cap l) : Tab n₀ w.drew a len cap l := ⟨h.row, fun e he => (h.at_ e he).drew⟩
theorem Tab.take (h : Tab n₀ w a len cap l) (m : Nat) (hm : m ≤ len) : Tab n₀ w a m cap (l.take m) := ⟨h.row.take m hm, fun e he => h.at_ e (List.mem_of_mem_take he)⟩
end

/-- Where an append puts a row that has something: its own block, or new memory. -/
theorem append_where {P : Program} {t e : TypeId} {z : Value} {size bytes : Nat} (ty : TypeId) (ht : P.underlying t = some (.slice e)) (hinfo : (P.info? e).map (fun i => (i.zero, i.size, i.bytes)) = some (some z, size, bytes))
    {W w1 : World} {base : Nat} {v v' : Value} {n m c : Nat} {xs : List Value} (hown : W.ownsRow base e size v n xs) {a : Addr} {news : List Value} (hl : news.length = m * size) (hnews : ∀ j u, news[j]? = some u → W.cell? (a.add j) = some u) (h1 : ∀ u ∈ news, u.oneCell' = true) (hm : 0 < m)
    (h63 : n + m ≤ maxLen) (hbytes : (n + m) * bytes ≤ 140737488355328)
    (hr : (Builtin.append_ #[t, t] ty #[v, .slice (some a) m c]).run P W = .ok v' w1) : v'.ownBlock = v.ownBlock ∨ ∃ g, v'.ownBlock = some g ∧ W.heap.size ≤ g := by
  obtain ⟨i, hi, hz, hsize, hby⟩ := info_parts hinfo
  subst hsize
  subst hby
  have hsmall : n + m ≤ 9223372036854775807 := by simp only [maxLen] at h63; omega
  rcases hown.2 with ⟨rfl, rfl⟩ | ⟨g, cap, cur, rfl, hbg, hg, hnc, hcm, hcs, htake⟩
  · have hx : xs = [] := List.eq_nil_of_length_eq_zero (by simpa using hown.1)
    subst hx
    rw [run_append_nil (P := P) W t ty e i z ht hi hz a m c news hl hnews (by omega) (by omega) (by have hb := hbytes; simp only [Nat.zero_add] at hb; omega)] at hr
    injection hr with hr1
    subst hr1
    exact .inr ⟨_, rfl, Nat.le_refl _⟩
  · by_cases hroom : n + m ≤ cap
    · have hfit : n * i.size + news.length ≤ cur.size := by rw [hl, hcs, ← Nat.add_mul]; exact Nat.mul_le_mul_right _ hroom
      rw [run_append_room (P := P) W t ty e i ht hi g n cap cur hg a m c news hl hnews h1 hroom hfit] at hr
      injection hr with hr1
      subst hr1
      exact .inl rfl
    · have holds : ∀ j u, xs[j]? = some u → W.cell? ((⟨g, 0, none⟩ : Addr).add j) = some u := hown.cells (g := g) rfl
      rw [run_append_grow (P := P) W t ty e i z ht hi hz ⟨g, 0, none⟩ n cap xs hown.1 holds a m c news hl hnews (by omega) (by omega) (growslice_fits (by omega) hbytes)] at hr
      injection hr with hr1
      subst hr1
      exact .inr ⟨_, rfl, Nat.le_refl _⟩

theorem und_table : Tryz.prog.underlying 22 = some (.slice 48) := by kernel_rfl
theorem info_series : (Tryz.prog.info? 48).map (fun i => (i.zero, i.size, i.bytes)) = some (some (.agg #[.slice none 0 0, .int .i64 0, .int .i64 0, .slice none 0 0, .int .i64 0, .string ⟨#[]⟩, .int .i64 0, .int .i64 0, .slice none 0 0, .int .i64 0, .slice none 0 0, .int .u64 0]), 12, 168) := by kernel_rfl
/-- A table that a call makes, series by series; their lists lie in none but q's blocks, and not in the table's own. -/
structure GrowS (base : Nat) (q : Nat → Prop) (w : World) (v : Value) (l : List (Ser × SerP)) : Prop where
  own : w.ownsRow base 48 12 v l.length (l.flatMap serEnc)
  at_ : ∀ e ∈ l, e.2.At w.heap.size w e.1
  off : ∀ e ∈ l, e.2.Off (fun b => q b ∧ some b ≠ v.ownBlock)
theorem GrowS.nil (base : Nat) (q : Nat → Prop) (w : World) : GrowS base q w (.slice none 0 0) [] := ⟨World.ownsRow_nil _ _ _ _, (fun e h => by cases h), (fun e h => by cases h)⟩
theorem GrowS.form {base : Nat} {q : Nat → Prop} {w : World} {v : Value} {l : List (Ser × SerP)} (h : GrowS base q w v l) : ∃ a c, v = .slice a l.length c := owns_formL h.own
theorem GrowS.drew {base : Nat} {q : Nat → Prop} {w : World} {v : Value} {l : List (Ser × SerP)} (h : GrowS base q w v l) : GrowS base q w.drew v l := ⟨h.own, fun e he => (h.at_ e he).drew, h.off⟩
/-- What a call lays behind changes no such table. -/
theorem GrowS.go {base : Nat} {q : Nat → Prop} {A B : World} {v : Value} {l : List (Ser × SerP)} (h : GrowS base q A v l) (hb : Below A.heap.size A B) : GrowS base q B v l :=
  ⟨⟨h.own.1, h.own.2.imp id (fun ⟨g, cap, cur, h1, h2, h3, h4⟩ => ⟨g, cap, cur, h1, h2, known hb (Nat.le_refl _) h3, h4⟩)⟩, fun e he => (h.at_ e he).go hb, h.off⟩
theorem GrowS.tab {base : Nat} {q : Nat → Prop} {w : World} {v : Value} {l : List (Ser × SerP)} (h : GrowS base q w v l) : ∃ a cap, v = .slice a l.length cap ∧ Tab w.heap.size w a l.length cap l ∧ (∀ z, a = some z → base ≤ z.block) ∧ (∀ e ∈ l, e.2.Off (fun b => q b ∧ ∀ z, a = some z → b ≠ z.block)) := by
  obtain ⟨a, cap, rfl, h1, h2⟩ := slC_of_owns (enc := serEnc) serEnc_len h.own
  refine ⟨a, cap, rfl, ⟨h1, h.at_⟩, h2, fun e he => (h.off e he).imp fun b hb => ⟨hb.1, fun z hz hbz => ?_⟩⟩
  subst hz
  exact hb.2 (by rw [hbz]; rfl)
theorem GrowS.push {base B : Nat} {q : Nat → Prop} {W w0 : World} {v : Value} {l : List (Ser × SerP)} (h : GrowS base q W v l) (hB : Below B w0 W) (hBb : B ≤ base) (hbase : base ≤ W.heap.size) (hn : l.length < 4294967) {x : Ser} {p : SerP} (hp : p.At W.heap.size W x) (ho : p.Off (fun b => q b ∧ some b ≠ v.ownBlock)) :
    ∃ g cap w1, (Builtin.append_ #[22, 22] 22 #[v, .slice (some ⟨W.heap.size, 0, none⟩) 1 1]).run Tryz.prog (W.alloc (.cells (serVals x p).toArray 48)) = .ok (.slice (some ⟨g, 0, none⟩) (l.length + 1) cap) w1 ∧
      GrowS base q w1 (.slice (some ⟨g, 0, none⟩) (l.length + 1) cap) (l ++ [(x, p)]) ∧ Below B w0 w1 ∧ W.heap.size < w1.heap.size ∧ (∀ k, k < W.heap.size → some k ≠ v.ownBlock → w1.heap[k]? = W.heap[k]?) := by
  obtain ⟨g, cap, w1, hap, hown, hB1, hsz, -, hfr⟩ := append_one Tryz.prog 22 und_table info_series rfl (by decide) (W := W) h.own hB hBb hbase (serVals x p) rfl (serEnc_one (x, p)) (by omega) (by decide)
  have hcell : ∀ j u, (serVals x p)[j]? = some u → (W.alloc (.cells (serVals x p).toArray 48)).cell? ((⟨W.heap.size, 0, none⟩ : Addr).add j) = some u := fun j u hj => by
    have := cell_of_cells (World.alloc_heap_new W (.cells (serVals x p).toArray 48)) j
    have ea : (⟨W.heap.size, 0, none⟩ : Addr).add j = ⟨W.heap.size, j, none⟩ := by unfold Addr.add; split <;> simp_all
    rw [ea, this]
    simpa using hj
  have hwh := append_where 22 und_table info_series (h.own.alloc _) (n := l.length) (m := 1) rfl hcell (serEnc_one (x, p)) (by omega) (by unfold maxLen; omega) (by omega) hap
  have hoff : ∀ b, b < W.heap.size → some b ≠ v.ownBlock → some b ≠ Value.ownBlock (.slice (some ⟨g, 0, none⟩) (l.length + 1) cap) := fun b hb hne => by
    rcases hwh with e | ⟨g', e, hg⟩
    · rw [e]; exact hne
    · rw [e]
      intro hc
      injection hc with hc
      simp at hg
      omega
  have hmem : ∀ e ∈ l ++ [(x, p)], e.2.At W.heap.size W e.1 ∧ e.2.Off (fun b => q b ∧ some b ≠ v.ownBlock) := fun e he => by
    rcases List.mem_append.1 he with h1 | h1
    · exact ⟨h.at_ e h1, h.off e h1⟩
    · rw [List.mem_singleton] at h1
      subst h1
      exact ⟨hp, ho⟩
  refine ⟨g, cap, w1, hap, ⟨?_, fun e he => ?_, fun e he => ?_⟩, hB1, hsz, hfr⟩
  · rw [List.length_append, List.flatMap_append]
    simpa [serEnc] using hown
  · obtain ⟨h1, h2⟩ := hmem e he
    exact (h1.frame h2 (fun b hb hq => hfr b hb hq.2)).mono (by omega)
  · obtain ⟨h1, h2⟩ := hmem e he
    exact (h1.off.and h2).imp fun b hb => ⟨hb.2.1, hoff b hb.1 hb.2.2⟩
end Go.Proofs.YthnfhklfmaeccaaGreatDoor

/- The plain law of tables: labels are in a strict order; a series put in is inserted; two of different labels may be put in either way about. No program. -/
import Derived.Test.YthnfhklfmaeccaaGreatDoorT5
namespace Go.Proofs.YthnfhklfmaeccaaGreatDoor
open Go Go.RowKit Go.Shelf

/-! ### The order of labels -/
theorem bl_irr : ∀ a : List UInt8, Op.bytesLess a a = false
  | [] => rfl
  | a :: x => by simp [Op.bytesLess, bl_irr x]
theorem bl_tr : ∀ a b c : List UInt8, Op.bytesLess a b = true → Op.bytesLess b c = true → Op.bytesLess a c = true
  | _, [], _, h, _ => by rename_i x _; cases x <;> simp [Op.bytesLess] at h
  | _, _ :: _, [], _, h => by simp [Op.bytesLess] at h
  | [], _ :: _, _ :: _, _, _ => by simp [Op.bytesLess]
  | a :: x, b :: y, c :: z, h1, h2 => by
    simp only [Op.bytesLess, Bool.or_eq_true, Bool.and_eq_true, decide_eq_true_eq, beq_iff_eq] at h1 h2 ⊢
    rcases h1 with h1 | ⟨rfl, h1⟩
    · rcases h2 with h2 | ⟨rfl, h2⟩
      · exact .inl (UInt8.lt_trans h1 h2)
      · exact .inl h1
    · rcases h2 with h2 | ⟨rfl, h2⟩
      · exact .inl h2
      · exact .inr ⟨rfl, bl_tr x y z h1 h2⟩
theorem bl_tri : ∀ a b : List UInt8, Op.bytesLess a b = false → Op.bytesLess b a = false → a = b
  | [], [], _, _ => rfl
  | [], _ :: _, h, _ => by simp [Op.bytesLess] at h
  | _ :: _, [], _, h => by simp [Op.bytesLess] at h
  | a :: x, b :: y, h1, h2 => by
    simp only [Op.bytesLess, Bool.or_eq_false_iff, decide_eq_false_iff_not] at h1 h2
    have hab : a = b := UInt8.le_antisymm (UInt8.not_lt.1 h2.1) (UInt8.not_lt.1 h1.1)
    subst hab
    simp only [BEq.rfl, Bool.true_and] at h1 h2
    rw [bl_tri x y h1.2 h2.2]
theorem ba_list {a b : ByteArray} (h : a.toList = b.toList) : a = b := by
  rw [Lib.toList_data, Lib.toList_data] at h
  cases a; cases b
  simp only [ByteArray.mk.injEq]
  exact Array.toList_inj.1 h
theorem lab_eq {x y : Lab} (h1 : x.name = y.name) (h2 : x.value = y.value) : x = y := by cases x; cases y; simp_all
theorem ll_irr : ∀ a : List Lab, labLess a a = false
  | [] => rfl
  | x :: a => by simp [labLess, ll_irr a]
theorem ll_tri : ∀ a b : List Lab, labLess a b = false → labLess b a = false → a = b
  | [], [], _, _ => rfl
  | [], _ :: _, h, _ => by simp [labLess] at h
  | _ :: _, [], _, h => by simp [labLess] at h
  | x :: a, y :: b, h1, h2 => by
    simp only [labLess] at h1 h2
    by_cases h : x.name = y.name ∧ x.value = y.value
    · rw [if_pos h] at h1
      rw [if_pos ⟨h.1.symm, h.2.symm⟩] at h2
      rw [ll_tri a b h1 h2, lab_eq h.1 h.2]
    · rw [if_neg h] at h1
      rw [if_neg (fun k => h ⟨k.1.symm, k.2.symm⟩)] at h2
      by_cases hn : x.name = y.name
      · rw [if_neg (by simp [hn])] at h1
        rw [if_neg (by simp [hn])] at h2
        exact absurd ⟨hn, ba_list (bl_tri _ _ h1 h2)⟩ h
      · rw [if_pos hn] at h1
        rw [if_pos (fun k => hn k.symm)] at h2
        exact absurd (ba_list (bl_tri _ _ h1 h2)) hn
theorem ll_tr : ∀ a b c : List Lab, labLess a b = true → labLess b c = true → labLess a c = true
  | _ :: _, [], _, h, _ => by simp [labLess] at h
  | [], [], _, h, _ => by simp [labLess] at h
  | _, _ :: _, [], _, h => by simp [labLess] at h
  | [], _ :: _, _ :: _, _, _ => by simp [labLess]
  | x :: a, y :: b, z :: c, h1, h2 => by
    simp only [labLess] at h1 h2 ⊢
    by_cases hxy : x.name = y.name
    · by_cases hxv : x.value = y.value
      · rw [if_pos ⟨hxy, hxv⟩] at h1
        rw [hxy, hxv]
        by_cases hyz : y.name = z.name ∧ y.value = z.value
        · rw [if_pos hyz] at h2 ⊢
          exact ll_tr a b c h1 h2
        · rw [if_neg hyz] at h2 ⊢
          exact h2
      · rw [if_neg (fun k => hxv k.2), if_neg (by simp [hxy])] at h1
        rw [hxy]
        by_cases hyn : y.name = z.name
        · by_cases hyv : y.value = z.value
          · rw [← hyv, if_neg (fun k => hxv k.2), if_neg (by simp [hyn])]
            exact h1
          · rw [if_neg (fun k => hyv k.2), if_neg (by simp [hyn])] at h2
            have h3 := bl_tr _ _ _ h1 h2
            rw [if_neg (fun k => by rw [k.2, bl_irr] at h3; cases h3), if_neg (by simp [hyn])]
            exact h3
        · rw [if_neg (fun k => hyn k.1), if_pos hyn] at h2
          rw [if_neg (fun k => hyn k.1), if_pos hyn]
          exact h2
    · rw [if_neg (fun k => hxy k.1), if_pos hxy] at h1
      by_cases hyn : y.name = z.name
      · rw [← hyn, if_neg (fun k => hxy k.1), if_pos hxy]
        exact h1
      · rw [if_neg (fun k => hyn k.1), if_pos hyn] at h2
        have h3 := bl_tr _ _ _ h1 h2
        have h4 : x.name ≠ z.name := fun k => by rw [k, bl_irr] at h3; cases h3
        rw [if_neg (fun k => h4 k.1), if_pos h4]
        exact h3
theorem ll_asym {a b : List Lab} (h : labLess a b = true) : labLess b a = false := by
  cases h2 : labLess b a with
  | false => rfl
  | true => have := ll_tr _ _ _ h h2; rw [ll_irr] at this; cases this
/-! ### Tables, sorted -/
theorem decide_beq (a b : List Lab) : (a == b) = decide (a = b) := by
  by_cases h : a = b <;> simp [h]
def Sorted (l : List Ser) : Prop := l.Pairwise (fun x y => labLess x.l y.l = true)
theorem tabGo_some : ∀ (l : List Ser) (q : List Lab), tabGo (some q) l = true ↔ (∀ x ∈ l, serRight x = true) ∧ (∀ x ∈ l, labLess q x.l = true) ∧ Sorted l
  | [], q => by simp [tabGo, Sorted]
  | y :: r, q => by
    simp only [tabGo, Bool.and_eq_true, tabGo_some r, Sorted, List.pairwise_cons, List.mem_cons, forall_eq_or_imp]
    constructor
    · rintro ⟨⟨h1, h2⟩, h3, h4, h5⟩
      exact ⟨⟨h1, h3⟩, ⟨h2, fun x hx => ll_tr _ _ _ h2 (h4 x hx)⟩, h4, h5⟩
    · rintro ⟨⟨h1, h3⟩, ⟨h2, h6⟩, h4, h5⟩
      exact ⟨⟨h1, h2⟩, h3, h4, h5⟩
theorem tabRight_iff (l : List Ser) : tabRight l = true ↔ l.length ≤ 20 ∧ (∀ x ∈ l, serRight x = true) ∧ Sorted l := by
  unfold tabRight
  rw [Bool.and_eq_true, decide_eq_true_eq]
  cases l with
  | nil => simp [tabGo, Sorted]
  | cons y r => simp only [tabGo, Bool.and_eq_true, tabGo_some r, Sorted, List.pairwise_cons, List.mem_cons, forall_eq_or_imp, and_true]; constructor <;> (intro h; simp_all)
def insL (l : List Ser) (x : Ser) : List Ser := l.filter (fun y => labLess y.l x.l) ++ x :: l.filter (fun y => labLess x.l y.l)
theorem find_sorted (q : List Lab) : ∀ l : List Ser, Sorted l → l.take (findAt l q) = l.filter (fun y => labLess y.l q) ∧ l.drop (findAt l q + (if thereAt l q then 1 else 0)) = l.filter (fun y => labLess q y.l) ∧ (thereAt l q = true ↔ ∃ x ∈ l, x.l = q)
  | [], _ => by simp [findAt, thereAt]
  | y :: r, h => by
    obtain ⟨hy, hr⟩ := List.pairwise_cons.1 h
    by_cases hl : labLess y.l q = true
    · obtain ⟨i1, i2, i3⟩ := find_sorted q r hr
      have hf : findAt (y :: r) q = findAt r q + 1 := by simp [findAt, hl]
      have ht : thereAt (y :: r) q = thereAt r q := by unfold thereAt; rw [hf, List.getElem?_cons_succ]
      have hne : y.l ≠ q := fun e => by rw [e, ll_irr] at hl; cases hl
      refine ⟨?_, ?_, ?_⟩
      · rw [hf, List.take_succ_cons, i1, List.filter_cons, if_pos hl]
      · rw [hf, ht, List.filter_cons_of_neg (by rw [ll_asym hl]; simp), ← i2, show findAt r q + 1 + (if thereAt r q = true then 1 else 0) = (findAt r q + (if thereAt r q = true then 1 else 0)) + 1 by omega, List.drop_succ_cons]
      · rw [ht, i3]; simp [hne]
    · have hl' : labLess y.l q = false := by simpa using hl
      have hf : findAt (y :: r) q = 0 := by simp [findAt, hl']
      have ht : thereAt (y :: r) q = decide (y.l = q) := by unfold thereAt; rw [hf, List.getElem?_cons_zero]; exact decide_beq _ _
      have hnone : ∀ z ∈ r, labLess z.l q = false := fun z hz => by
        cases hz2 : labLess z.l q with
        | false => rfl
        | true => exact absurd (ll_tr _ _ _ (hy z hz) hz2) hl
      have hF : r.filter (fun y => labLess y.l q) = [] := List.filter_eq_nil_iff.2 (fun z hz => by rw [hnone z hz]; simp)
      by_cases he : y.l = q
      · have hA : r.filter (fun y => labLess q y.l) = r := List.filter_eq_self.2 (fun z hz => by rw [← he]; exact hy z hz)
        refine ⟨by rw [hf, List.filter_cons, if_neg hl, hF]; rfl, ?_, by rw [ht]; simp [he]⟩
        rw [hf, ht, List.filter_cons_of_neg (by rw [he, ll_irr]; simp), hA]; simp [he]
      · have hq : labLess q y.l = true := by
          cases h2 : labLess q y.l with
          | true => rfl
          | false => exact absurd (ll_tri _ _ hl' h2) he
        have hA : r.filter (fun y => labLess q y.l) = r := List.filter_eq_self.2 (fun z hz => ll_tr _ _ _ hq (hy z hz))
        refine ⟨by rw [hf, List.filter_cons, if_neg hl, hF]; rfl, ?_, ?_⟩
        · rw [hf, ht, List.filter_cons_of_pos (by exact hq), hA]; simp [he]
        · rw [ht]
          simp only [he, decide_false, Bool.false_eq_true, List.mem_cons, exists_eq_or_imp, false_or, false_iff]
          rintro ⟨z, hz, e⟩
          have := ll_tr _ _ _ hq (hy z hz)
          rw [e, ll_irr] at this
          cases this
theorem putL_ins {l : List Ser} (h : Sorted l) (x : Ser) : putL l x = insL l x := by
  obtain ⟨h1, h2, -⟩ := find_sorted x.l l h
  rw [putL, h1, h2]; rfl
theorem mem_ins {l : List Ser} {x y : Ser} : y ∈ insL l x ↔ (y ∈ l ∧ (labLess y.l x.l = true ∨ labLess x.l y.l = true)) ∨ y = x := by
  simp only [insL, List.mem_append, List.mem_filter, List.mem_cons]
  constructor
  · rintro (⟨h1, h2⟩ | h | ⟨h1, h2⟩)
    · exact .inl ⟨h1, .inl h2⟩
    · exact .inr h
    · exact .inl ⟨h1, .inr h2⟩
  · rintro (⟨h1, h2 | h2⟩ | h)
    · exact .inl ⟨h1, h2⟩
    · exact .inr (.inr ⟨h1, h2⟩)
    · exact .inr (.inl h)
theorem sorted_ins {l : List Ser} (h : Sorted l) (x : Ser) : Sorted (insL l x) := by
  refine List.pairwise_append.2 ⟨h.filter _, List.pairwise_cons.2 ⟨fun y hy => (List.mem_filter.1 hy).2, h.filter _⟩, fun a ha b hb => ?_⟩
  have h1 := (List.mem_filter.1 ha).2
  rcases List.mem_cons.1 hb with rfl | hb
  · exact h1
  · exact ll_tr _ _ _ h1 (List.mem_filter.1 hb).2
theorem there_iff {l : List Ser} (h : Sorted l) (q : List Lab) : thereAt l q = true ↔ ∃ x ∈ l, x.l = q := (find_sorted q l h).2.2
theorem there_ins {l : List Ser} (h : Sorted l) (x : Ser) (q : List Lab) : thereAt (insL l x) q = true ↔ thereAt l q = true ∨ q = x.l := by
  rw [there_iff (sorted_ins h x), there_iff h]
  constructor
  · rintro ⟨y, hy, e⟩
    rcases mem_ins.1 hy with ⟨h1, -⟩ | rfl
    · exact .inl ⟨y, h1, e⟩
    · exact .inr e.symm
  · rintro (⟨y, hy, e⟩ | e)
    · by_cases hq : q = x.l
      · exact ⟨x, mem_ins.2 (.inr rfl), hq.symm⟩
      · refine ⟨y, mem_ins.2 (.inl ⟨hy, ?_⟩), e⟩
        cases h2 : labLess y.l x.l with
        | true => exact .inl rfl
        | false =>
          cases h3 : labLess x.l y.l with
          | true => exact .inr rfl
          | false => exact absurd (e.symm.trans (ll_tri _ _ h2 h3)) hq
    · exact ⟨x, mem_ins.2 (.inr rfl), e.symm⟩
theorem len_put {l : List Ser} (x : Ser) : (putL l x).length + (if thereAt l x.l then 1 else 0) = l.length + 1 := by
  have h1 : findAt l x.l ≤ l.length := (List.takeWhile_prefix _).length_le
  have h2 : thereAt l x.l = true → findAt l x.l < l.length := fun h => by
    unfold thereAt at h
    cases hx : l[findAt l x.l]? with
    | none => rw [hx] at h; cases h
    | some y => exact (List.getElem?_eq_some_iff.1 hx).1
  unfold putL
  rw [List.length_append, List.length_take, List.length_cons, List.length_drop]
  cases ht : thereAt l x.l with
  | false => simp; omega
  | true => have := h2 ht; simp; omega
theorem right_put {l : List Ser} {x : Ser} (h : putOk l x = true) : tabRight (putL l x) = true := by
  simp only [putOk, Bool.and_eq_true, Bool.or_eq_true, Bool.not_eq_true'] at h
  obtain ⟨⟨h1, h2⟩, h3⟩ := h
  obtain ⟨hl, ha, hs⟩ := (tabRight_iff l).1 h1
  have hlen := len_put (l := l) x
  refine (tabRight_iff _).2 ⟨?_, ?_, ?_⟩
  · rcases h3 with h3 | h3
    · rw [if_pos h3] at hlen; omega
    · have : l.length ≠ 20 := by simpa using h3
      split at hlen <;> omega
  · rw [putL_ins hs]
    intro y hy
    rcases mem_ins.1 hy with ⟨h4, -⟩ | rfl
    · exact ha y h4
    · exact h2
  · rw [putL_ins hs]; exact sorted_ins hs x
theorem ins_ins_lt {l : List Ser} {a b : Ser} (h : labLess a.l b.l = true) : insL (insL l a) b = insL (insL l b) a := by
  have hba := ll_asym h
  have e1 : (l.filter (fun y => labLess y.l a.l)).filter (fun y => labLess y.l b.l) = l.filter (fun y => labLess y.l a.l) := List.filter_eq_self.2 (fun z hz => ll_tr _ _ _ (List.mem_filter.1 hz).2 h)
  have e2 : (l.filter (fun y => labLess y.l a.l)).filter (fun y => labLess b.l y.l) = [] := List.filter_eq_nil_iff.2 (fun z hz => by rw [ll_asym (ll_tr _ _ _ (List.mem_filter.1 hz).2 h)]; simp)
  have e3 : (l.filter (fun y => labLess a.l y.l)).filter (fun y => labLess b.l y.l) = l.filter (fun y => labLess b.l y.l) := by
    rw [List.filter_filter]
    refine List.filter_congr fun z _ => ?_
    cases h2 : labLess b.l z.l with
    | false => simp
    | true => simp [ll_tr _ _ _ h h2]
  have e4 : (l.filter (fun y => labLess y.l b.l)).filter (fun y => labLess y.l a.l) = l.filter (fun y => labLess y.l a.l) := by
    rw [List.filter_filter]
    refine List.filter_congr fun z _ => ?_
    cases h2 : labLess z.l a.l with
    | false => simp
    | true => simp [ll_tr _ _ _ h2 h]
  have e5 : (l.filter (fun y => labLess b.l y.l)).filter (fun y => labLess y.l a.l) = [] := List.filter_eq_nil_iff.2 (fun z hz => by rw [ll_asym (ll_tr _ _ _ h (List.mem_filter.1 hz).2)]; simp)
  have e6 : (l.filter (fun y => labLess b.l y.l)).filter (fun y => labLess a.l y.l) = l.filter (fun y => labLess b.l y.l) := List.filter_eq_self.2 (fun z hz => ll_tr _ _ _ h (List.mem_filter.1 hz).2)
  have e7 : (l.filter (fun y => labLess a.l y.l)).filter (fun y => labLess y.l b.l) = (l.filter (fun y => labLess y.l b.l)).filter (fun y => labLess a.l y.l) := by
    rw [List.filter_filter, List.filter_filter]
    exact List.filter_congr fun z _ => Bool.and_comm _ _
  simp only [insL, List.filter_append, List.filter_cons, h, hba, if_true, if_false, e1, e2, e3, e4, e5, e6, e7, List.nil_append, List.append_nil, List.append_assoc, List.cons_append, Bool.false_eq_true]
theorem ins_ins_same {l : List Ser} {a b : Ser} (h : a.l = b.l) : insL (insL l a) b = insL l b := by
  have e2 : ∀ q : List Lab, (l.filter (fun y => labLess y.l q)).filter (fun y => labLess q y.l) = [] := fun q => List.filter_eq_nil_iff.2 (fun z hz => by rw [ll_asym (List.mem_filter.1 hz).2]; simp)
  have e3 : ∀ q : List Lab, (l.filter (fun y => labLess q y.l)).filter (fun y => labLess y.l q) = [] := fun q => List.filter_eq_nil_iff.2 (fun z hz => by rw [ll_asym (List.mem_filter.1 hz).2]; simp)
  simp only [insL, List.filter_append, List.filter_cons, h, ll_irr, if_false, e2, e3, List.filter_filter, Bool.and_self, List.append_nil, List.nil_append, Bool.false_eq_true]
theorem ins_ins {l : List Ser} {a b : Ser} (h : a.l ≠ b.l) : insL (insL l a) b = insL (insL l b) a := by
  cases h1 : labLess a.l b.l with
  | true => exact ins_ins_lt h1
  | false =>
    cases h2 : labLess b.l a.l with
    | true => exact (ins_ins_lt h2).symm
    | false => exact absurd (ll_tri _ _ h1 h2) h
/-! ### The law -/
theorem put_same {l : List Ser} {a b : Ser} (h : a.l = b.l) (h1 : putOk l a = true) (h2 : putOk (putL l a) b = true) : putOk l b = true ∧ putL (putL l a) b = putL l b := by
  have hr := right_put h1
  simp only [putOk, Bool.and_eq_true] at h1 h2
  have hs := ((tabRight_iff l).1 h1.1.1).2.2
  have hs2 := ((tabRight_iff _).1 hr).2.2
  refine ⟨?_, ?_⟩
  · simp only [putOk, Bool.and_eq_true]
    exact ⟨⟨h1.1.1, h2.1.2⟩, by rw [← h]; exact h1.2⟩
  · rw [putL_ins hs2, putL_ins hs, putL_ins hs, ins_ins_same h]
theorem put_swap {l : List Ser} {a b : Ser} (h : a.l ≠ b.l) (h1 : putOk l a = true) (h2 : putOk (putL l a) b = true) : putOk l b = true ∧ putOk (putL l b) a = true ∧ putL (putL l a) b = putL (putL l b) a := by
  have hr := right_put h1
  have la := len_put (l := l) a
  have lb := len_put (l := l) b
  simp only [putOk, Bool.and_eq_true, Bool.or_eq_true, Bool.not_eq_true'] at h1 h2
  obtain ⟨hl, -, hs⟩ := (tabRight_iff l).1 h1.1.1
  have hs2 := ((tabRight_iff _).1 hr).2.2
  have t1 := there_ins hs a b.l
  have t2 := there_ins hs b a.l
  rw [← putL_ins hs] at t1 t2
  have n1 : ¬ b.l = a.l := fun e => h e.symm
  have n2 : ¬ a.l = b.l := h
  rw [or_iff_left n1] at t1
  rw [or_iff_left n2] at t2
  have ok1 : putOk l b = true := by
    simp only [putOk, Bool.and_eq_true, Bool.or_eq_true, Bool.not_eq_true']
    refine ⟨⟨h1.1.1, h2.1.2⟩, ?_⟩
    rcases h2.2 with h3 | h3
    · exact .inl (t1.1 h3)
    · rcases h1.2 with h4 | h4
      · right
        rw [if_pos h4] at la
        have h3' : (putL l a).length ≠ 20 := by simpa using h3
        have : l.length ≠ 20 := by omega
        simpa using this
      · exact .inr h4
  have hrb := right_put ok1
  refine ⟨ok1, ?_, by rw [putL_ins hs2, putL_ins ((tabRight_iff _).1 hrb).2.2, putL_ins hs, putL_ins hs, ins_ins h]⟩
  simp only [putOk, Bool.and_eq_true, Bool.or_eq_true, Bool.not_eq_true']
  refine ⟨⟨hrb, h1.1.2⟩, ?_⟩
  rcases h1.2 with h4 | h4
  · exact .inl (t2.2 h4)
  · by_cases h5 : thereAt l a.l = true
    · exact .inl (t2.2 h5)
    · right
      rw [if_neg h5] at la
      have h4' : l.length ≠ 20 := by simpa using h4
      rcases h2.2 with h3 | h3
      · rw [if_pos (t1.1 h3)] at lb
        have : (putL l b).length ≠ 20 := by omega
        simpa using this
      · have h3' : (putL l a).length ≠ 20 := by simpa using h3
        have : (putL l b).length ≠ 20 := by split at lb <;> omega
        simpa using this
end Go.Proofs.YthnfhklfmaeccaaGreatDoor

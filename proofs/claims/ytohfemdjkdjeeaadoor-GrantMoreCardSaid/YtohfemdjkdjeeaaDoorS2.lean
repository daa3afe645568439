/- Package scope: the places of a pattern. -/
import Derived.Test.YtohfemdjkdjeeaaDoorS1
import Derived.Test.YtohfemdjkdjeeaaDoorM1
namespace Go.Proofs.YtohfemdjkdjeeaaDoor
open Go Go.RowKit Go.Shelf
theorem zero_unit (w : World) : (zeroValue 79).run Tryd.prog w = .ok (.agg #[]) w := by kernel_rfl
theorem und_places : Tryd.prog.underlying 76 = some (.map 3 79) := by kernel_rfl
abbrev PSet (w : World) (b n : Nat) (S : Int → Bool) : Prop := SetAt Tryd.prog 3 w b n S
theorem PSet.put {w : World} {b n : Nat} {S : Int → Bool} (h : PSet w b n S) (hn : n < maxLen) {i : Int} (hi : wfI i) :
    ∃ w', (Instr.mapUpdate 76 (.map (some b)) (.int .i64 i) (.agg #[])).run Tryd.prog w = .ok () w' ∧ PSet w' b (n + 1) (fun j => S j || j == i) ∧ w.grownBy w' (some b) :=
  SetAt.add Tryd.underlying3 und_places h hn hi

def Signs (n₀ : Nat) (w : World) (sv : Value) (l : List Sign) : Prop := SlAt n₀ w sv l.length (l.map Sign.val)
theorem Signs.cell {n₀ : Nat} {w : World} {a : Option Addr} {len cap : Nat} {l : List Sign} (h : Signs n₀ w (.slice a len cap) l) : len = l.length ∧ ∀ i x, l[i]? = some x → ∃ b off, a = some ⟨b, off, none⟩ ∧ b < n₀ ∧ w.cell? ⟨b, off + i, none⟩ = some x.val := by
  rcases h with ⟨h, h0, _⟩ | ⟨b, off, cap', e, hb, hc⟩
  · obtain ⟨rfl, rfl, rfl⟩ : a = none ∧ len = 0 ∧ cap = 0 := by simpa using h
    have : l = [] := by simpa using h0
    subst this
    exact ⟨rfl, fun i x hx => by simp at hx⟩
  · obtain ⟨rfl, rfl, rfl⟩ : a = some ⟨b, off, none⟩ ∧ len = l.length ∧ cap = cap' := by simpa using e
    refine ⟨rfl, fun i x hx => ⟨b, off, rfl, hb, ?_⟩⟩
    have hi := (List.getElem?_eq_some_iff.1 hx).1
    rw [hc i (by simpa using hi)]
    simp [hx]
/-- How many signs from place i on stand for any runes. -/
def anysGo : List Sign → Nat
  | [] => 0
  | x :: xs => if x.isAny then anysGo xs + 1 else 0
def anys (l : List Sign) (i : Nat) : Nat := anysGo (l.drop i)
theorem anys_yes (l : List Sign) (i : Nat) (x : Sign) (h : l[i]? = some x) (hx : x.isAny = true) : anys l i = anys l (i + 1) + 1 := by
  unfold anys
  rw [List.drop_eq_getElem_cons (List.getElem?_eq_some_iff.1 h).1, (List.getElem?_eq_some_iff.1 h).2]
  simp [anysGo, hx]
theorem anys_no (l : List Sign) (i : Nat) (x : Sign) (h : l[i]? = some x) (hx : x.isAny = false) : anys l i = 0 := by
  unfold anys
  rw [List.drop_eq_getElem_cons (List.getElem?_eq_some_iff.1 h).1, (List.getElem?_eq_some_iff.1 h).2]
  simp [anysGo, hx]
theorem anys_end (l : List Sign) (i : Nat) (h : l.length ≤ i) : anys l i = 0 := by
  unfold anys; rw [List.drop_eq_nil_of_le h]; rfl
theorem anys_le (l : List Sign) (i : Nat) : i ≤ l.length → i + anys l i ≤ l.length := by
  have : ∀ (m : List Sign), anysGo m ≤ m.length := by
    intro m
    induction m with
    | nil => simp [anysGo]
    | cons x xs ih => simp only [anysGo]; split <;> simp <;> omega
  intro h
  have := this (l.drop i)
  rw [List.length_drop] at this
  unfold anys; omega
def cloB (l : List Sign) (i : Nat) (j : Int) : Bool := decide ((i : Int) ≤ j) && decide (j ≤ i + anys l i)

set_option maxHeartbeats 1000000 in
theorem put_any (a : Option Addr) (len cap : Nat) (l : List Sign) (i : Nat) (b n n₀ : Nat) (S : Int → Bool) (w : World) (hl : Signs n₀ w (.slice a len cap) l) (hs : PSet w b n S) (hn₀ : n₀ ≤ b) (hi : i ≤ l.length) (hlen : l.length < 4294967281) (hn : n < 4294967281) :
    Calls Tryd.prog 35 #[.map (some b), .slice a len cap, .int .i64 i] w fun e w' => (∃ v, e = .returned v) ∧ PSet w' b (n + 1 + l.length) (fun j => S j || cloB l i j) ∧ w.grownBy w' (some b) := by
  obtain ⟨rfl, hcell⟩ := hl.cell
  obtain ⟨w1, hr1, hs1, hg1⟩ := hs.put (by unfold maxLen; omega) (i := i) (wfI_of (by omega) (by omega))
  go_enter Tryd.func35, Tryd.ntmps35
  go_wp2_with fail
  go_loopw [2] (fun v wr => ∃ k : Nat, v = .int .i64 k ∧ i ≤ k ∧ k ≤ l.length ∧ Hid (anys l i = (k - i) + anys l k) ∧ PSet wr b (n + 1 + (k - i)) (fun j => S j || (decide ((i : Int) ≤ j) && decide (j ≤ k))) ∧ w.grownBy wr (some b)) (fun v _ => l.length - (intOf v).toNat)
  case atStart => exact ⟨i, rfl, Nat.le_refl _, hi, by simp [Hid], by rw [Nat.sub_self]; exact hs1.congr (fun j _ => by cases S j <;> (rw [Bool.eq_iff_iff]; simp <;> omega)), hg1⟩
  case round =>
    obtain ⟨k, rfl, hik, hkl, HA, hsk, hgk⟩ := hrel
    clear hr1 hs1 hg1
    have hbl := hs.lt
    by_cases hlt : k < l.length
    · obtain ⟨x, hx⟩ : ∃ x, l[k]? = some x := ⟨_, List.getElem?_eq_getElem hlt⟩
      obtain ⟨bb, off, rfl, hbb, hc⟩ := hcell k x hx
      have hc' : wr.cell? ⟨bb, off + k, none⟩ = some x.val := (World.cell?_of_block (hgk.block bb (by omega) (by intro e; cases e; omega))).trans hc
      have hisany := isAny_any x wr
      have HX := Lib.hid hx
      clear hx hc hcell hl
      by_cases hax : x.isAny = true
      · have HY := Lib.hid (anys_yes l k x HX.out hax)
        obtain ⟨w2, hr2, hs2, hg2⟩ := hsk.put (by unfold maxLen; omega) (i := (k : Int) + 1) (wfI_of (by omega) (by omega))
        generalize x.val = xv at hc' hisany
        generalize x.isAny = xa at hax hisany
        subst hax
        go_wp2_with (go_at_call 44; refine hisany.mono ?_; rintro e w' ⟨rfl, rfl⟩)
        go_roundw
        case rel =>
          refine ⟨k + 1, by go_num, by omega, by omega, ?_, ?_, hgk.andThen hg2 (fun j e => .inr e)⟩
          · have := HA.out; have := HY.out; show _ = _; omega
          · have h5 := hs2.congr (T := fun j => S j || (decide ((i : Int) ≤ j) && decide (j ≤ ((k + 1 : Nat) : Int)))) (fun j _ => by cases S j <;> (rw [Bool.eq_iff_iff]; simp <;> omega))
            rwa [show n + 1 + (k - i) + 1 = n + 1 + (k + 1 - i) by omega] at h5
        case measure => simp [intOf]; omega
      · have hax' : x.isAny = false := by simpa using hax
        have HY := Lib.hid (anys_no l k x HX.out hax')
        clear hax
        generalize x.val = xv at hc' hisany
        generalize x.isAny = xa at hax' hisany
        subst hax'
        go_wp2_with (go_at_call 44; refine hisany.mono ?_; rintro e w' ⟨rfl, rfl⟩)
        go_end0
        refine ⟨⟨_, rfl⟩, (hsk.congr (fun j _ => ?_)).mono (by omega), hgk⟩
        have h6 := HA.out
        have h7 := HY.out
        unfold cloB
        cases S j <;> (rw [Bool.eq_iff_iff]; simp <;> omega)
    · have HY := Lib.hid (anys_end l k (by omega))
      clear hcell hl
      have h8 : decide ((k : Int) < l.length) = false := by simp; omega
      go_wp2_with fail
      go_end0
      refine ⟨⟨_, rfl⟩, (hsk.congr (fun j _ => ?_)).mono (by omega), hgk⟩
      have h6 := HA.out
      have h7 := HY.out
      unfold cloB
      cases S j <;> (rw [Bool.eq_iff_iff]; simp <;> omega)

def stepB (l : List Sign) (c : Int) (i : Nat) (j : Int) : Bool :=
  match l[i]? with
  | none => false
  | some x => if x.isAny then cloB l i j else if x.isFor c then cloB l (i + 1) j else false
def behindB (l : List Sign) (S : Int → Bool) (c : Int) (j : Int) : Bool := (List.range (l.length + 1)).any fun i => S (i : Int) && stepB l c i j
theorem cloB_dom (l : List Sign) (i : Nat) (hi : i ≤ l.length) (j : Int) (h : cloB l i j = true) : 0 ≤ j ∧ j < (l.length + 1 : Nat) := by
  unfold cloB at h
  have := anys_le l i hi
  simp at h
  omega
theorem stepB_dom (l : List Sign) (c : Int) (i : Nat) (j : Int) (h : stepB l c i j = true) : 0 ≤ j ∧ j < (l.length + 1 : Nat) := by
  unfold stepB at h
  split at h
  · cases h
  · rename_i x hx
    have := (List.getElem?_eq_some_iff.1 hx).1
    split at h
    · exact cloB_dom l i (by omega) j h
    · split at h
      · exact cloB_dom l (i + 1) (by omega) j h
      · cases h
theorem behindB_dom (l : List Sign) (S : Int → Bool) (c : Int) (j : Int) (h : behindB l S c j = true) : 0 ≤ j ∧ j < (l.length + 1 : Nat) := by
  unfold behindB at h
  obtain ⟨i, _, h2⟩ := List.any_eq_true.1 h
  exact stepB_dom l c i j (by simp at h2; exact h2.2)
theorem any_congr {α : Type} (l : List α) (f g : α → Bool) (h : ∀ x ∈ l, f x = g x) : l.any f = l.any g := by
  induction l with
  | nil => rfl
  | cons x xs ih => simp only [List.any_cons]; rw [h x (by simp), ih (fun y hy => h y (by simp [hy]))]
theorem any_visit (n : Nat) (p L : Nat → Bool) (f : Nat → Bool) (i : Nat) (hi : i < n) (hL : L i = true) (hp : p i = true) :
    ((List.range n).any fun a => (p a && !(L a && !(a == i))) && f a) = (((List.range n).any fun a => (p a && !L a) && f a) || f i) := by
  rw [Bool.eq_iff_iff]
  simp only [List.any_eq_true, List.mem_range, Bool.and_eq_true, Bool.or_eq_true, Bool.not_eq_true', Bool.and_eq_false_iff]
  constructor
  · rintro ⟨a, ha, ⟨h1, h2⟩, h3⟩
    by_cases e : a = i
    · subst e; exact .inr h3
    · refine .inl ⟨a, ha, ⟨h1, ?_⟩, h3⟩
      rcases h2 with h2 | h2
      · exact h2
      · simp [e] at h2
  · rintro (⟨a, ha, ⟨h1, h2⟩, h3⟩ | h)
    · exact ⟨a, ha, ⟨h1, .inl h2⟩, h3⟩
    · exact ⟨i, hi, ⟨hp, .inr (by simp)⟩, h⟩

set_option maxHeartbeats 2000000 in
theorem behind_any (a : Option Addr) (len cap : Nat) (l : List Sign) (c : Int) (b n n₀ : Nat) (S : Int → Bool) (w : World) (hl : Signs n₀ w (.slice a len cap) l) (hs : PSet w b n S) (hn₀ : n₀ ≤ w.heap.size)
    (hdom : ∀ i, wfI i → S i = true → 0 ≤ i ∧ i < (l.length + 1 : Nat)) (hlen : l.length < 2147483648) :
    Calls Tryd.prog 36 #[.map (some b), .slice a len cap, .int .i32 c] w fun e w' => ∃ nb, e = .returned (.map (some nb)) ∧ w.heap.size ≤ nb ∧ PSet w' nb (l.length + 1) (behindB l S c) ∧ Below w.heap.size w w' := by
  have hmm := @run_makeMap Tryd.prog
  have hlen' := hl.cell.1
  subst hlen'
  have hbl := hs.lt
  have hB1 : Below w.heap.size w (w.alloc (.map #[] 0)) := (Below.refl _ w).alloc (Nat.le_refl _) _
  have hs1 := SetAt.below hs hB1 hbl
  have hT1 := setAt_new (P := Tryd.prog) (kt := 3) w
  have hsz1 : (w.alloc (.map #[] 0)).heap.size = w.heap.size + 1 := by simp
  obtain ⟨W2, cnt0, hr2, hrg2, hg2, hsz2⟩ := SetAt.range Tryd.underlying3 und_places hs1
  rw [hsz1] at hr2 hrg2 hsz2
  have hB2 : Below w.heap.size w W2 := hB1.grown hg2 (by omega) (fun k e => by cases e)
  have hT2 := (hT1.kept hg2 (by simp)).mono (m := l.length + 1) (by omega)
  have HR := Lib.hid hr2
  clear hr2 hs1 hT1 hg2
  go_enter Tryd.func36, Tryd.ntmps36
  have hr2 := HR.out
  go_wp2_with fail
  clear hr2 HR hmm
  go_loopw [] (fun wr => ∃ (L : Int → Bool) (cnt : Nat) (T : Int → Bool), RangeAt Tryd.prog 3 wr b (w.heap.size + 1) n S L cnt ∧ PSet wr w.heap.size (l.length + 1) T ∧ Hid (∀ j, wfI j → T j = (List.range (l.length + 1)).any fun i => (S (i : Int) && !L (i : Int)) && stepB l c i j) ∧ Below w.heap.size w wr) (fun wr => wr.rangeLeft b (w.heap.size + 1))
  case atStart => exact ⟨S, cnt0, _, hrg2, hT2, fun j _ => by simp, hB2⟩
  case round =>
    obtain ⟨L, cnt, T, hrg, hT, HT, hB⟩ := hrel
    clear hrg2 hT2 hB2 hsz2
    have hcnt := hrg.left_eq
    have hTl := hT.lt
    have hrl := hrg.lt
    have hszB := hB.size
    rcases RangeAt.next Tryd.underlying3 hrg 0 with ⟨hL, hnx⟩ | ⟨i, W3, cnt', hwi, hLi, hSi, hnx, hrg3, hlt, hg3, hsz3, hen⟩
    · clear hcnt
      go_wp2_with fail
      go_ret
      refine ⟨_, rfl, Nat.le_refl _, hT.congr (fun j hj => ?_), hB⟩
      rw [HT.out j hj]
      unfold behindB
      refine any_congr _ _ _ (fun i hi => ?_)
      have := List.mem_range.1 hi
      rw [hL i (wfI_of (by omega) (by omega))]; simp
    · obtain ⟨h0, h1⟩ := hdom i hwi hSi
      obtain ⟨k, rfl⟩ := Int.eq_ofNat_of_zero_le h0
      have hk : k ≤ l.length := by omega
      have hB3 : Below w.heap.size w W3 := hB.grown hg3 hszB (fun j e => by cases e; omega)
      have hT3 := hT.kept hg3 (by simp)
      have HTd : Hid (∀ j, wfI j → T j = true → 0 ≤ j ∧ j < (l.length + 1 : Nat)) := fun j hj h => by
        rw [HT.out j hj] at h
        obtain ⟨i, _, h2⟩ := List.any_eq_true.1 h
        exact stepB_dom l c i j (by simp at h2; exact h2.2)
      have HV : Hid (∀ j, wfI j → ((List.range (l.length + 1)).any fun i => (S (i : Int) && !(L (i : Int) && !((i : Int) == (k : Int)))) && stepB l c i j) = (T j || stepB l c k j)) := fun j hj => by
        rw [HT.out j hj, ← any_visit (l.length + 1) (fun a => S (a : Int)) (fun a => L (a : Int)) (fun a => stepB l c a j) k (by omega) hLi hSi]
        refine any_congr _ _ _ (fun a _ => ?_)
        have : ((a : Int) == (k : Int)) = (a == k) := by rw [Bool.eq_iff_iff]; simp; omega
        rw [this]
      have hsl3 : Signs n₀ W3 (.slice a l.length cap) l := SlAt.below (hB3.mono hn₀) hl
      have hcell := hsl3.cell.2
      have hbr : b ≠ w.heap.size + 1 := fun e => hrg.ne e.symm
      clear hrg hT HT hB hg3 h0 h1 hLi hSi hwi
      by_cases hkl : k = l.length
      · have hkl' : ((k : Int) == (l.length : Int)) = true := by simp [hkl]
        have HK := Lib.hid hkl
        clear hkl hcell hsl3
        go_wp2_with fail
        go_roundw
        case rel =>
          refine ⟨_, cnt', T, hrg3, hT3, fun j hj => ?_, hB3⟩
          rw [HV.out j hj]
          unfold stepB
          rw [HK.out]; simp
        case measure => rw [hrg3.left_eq, hcnt]; exact hlt
      · have hkl' : ((k : Int) == (l.length : Int)) = false := by rw [beq_eq_false_iff_ne]; omega
        have hkk : k < l.length := by omega
        obtain ⟨x, hx⟩ : ∃ x, l[k]? = some x := ⟨_, List.getElem?_eq_getElem hkk⟩
        obtain ⟨bb, off, rfl, hbb, hc⟩ := hcell k x hx
        have hst : ∀ j, stepB l c k j = if x.isAny then cloB l k j else if x.isFor c then cloB l (k + 1) j else false := fun j => by simp [stepB, hx]
        have HST := Lib.hid hst
        have hisany := isAny_any x W3
        clear hcell hkl hx hst
        by_cases hax : x.isAny = true
        · have hput := put_any (some ⟨bb, off, none⟩) l.length cap l k w.heap.size (l.length + 1) n₀ T W3 hsl3 hT3 hn₀ hk (by omega) (by omega)
          have HA := Lib.hid hax
          clear hsl3
          generalize x.val = xv at hc hisany
          rw [hax] at hisany
          clear hax
          go_wp2_with (first | (go_at_call 44; refine hisany.mono ?_; rintro e w' ⟨rfl, rfl⟩) | (go_at_call 35; refine hput.mono ?_; rintro e W4 ⟨⟨v, rfl⟩, hT4, hg4⟩))
          go_roundw
          case rel =>
            refine ⟨_, cnt', _, hrg3.kept hg4 (fun e => by have := Option.some.inj e; omega) (fun e => by have := Option.some.inj e; omega), SetAt.tight Tryd.underlying3 hT4 (fun j hj h => ?_), fun j hj => ?_, hB3.grown hg4 (by omega) (fun j e => by cases e; exact Nat.le_refl _)⟩
            · simp only [Bool.or_eq_true] at h
              rcases h with h | h
              · exact HTd.out j hj h
              · exact cloB_dom l _ (by omega) j h
            · rw [HV.out j hj, HST.out j]; simp [HA.out]
          case measure => rw [(hrg3.kept hg4 (fun e => by have := Option.some.inj e; omega) (fun e => by have := Option.some.inj e; omega)).left_eq, hcnt]; exact hlt
        · have hax' : x.isAny = false := by simpa using hax
          have hisfor := isFor_any x c W3 hax'
          clear hax
          by_cases hfx : x.isFor c = true
          · have HA : Hid (x.isAny = false ∧ x.isFor c = true) := ⟨hax', hfx⟩
            generalize x.val = xv at hc hisany hisfor
            rw [hax'] at hisany
            rw [hfx] at hisfor
            clear hax' hfx
            go_wp2_with (first | (go_at_call 44; refine hisany.mono ?_; rintro e w' ⟨rfl, rfl⟩) | (go_at_call 45; refine hisfor.mono ?_; rintro e W5 ⟨rfl, hb5⟩))
            have hszW := hb5.size
            have hsl5 : Signs n₀ W5 _ l := SlAt.below (hb5.mono (by omega)) hsl3
            have hT5 := SetAt.below hT3 hb5 (by omega)
            have hrg5 := hrg3.below hb5 (by omega) (by omega)
            have hB5 := hB3.trans (hb5.mono (by omega))
            refine (put_any (some ⟨bb, off, none⟩) l.length cap l (k + 1) w.heap.size (l.length + 1) n₀ T W5 hsl5 hT5 hn₀ (by omega) (by omega) (by omega)).mono ?_
            rintro e W4 ⟨⟨v, rfl⟩, hT4, hg4⟩
            go_wp2_with fail
            go_roundw
            case rel =>
              refine ⟨_, cnt', _, hrg5.kept hg4 (fun e => by have := Option.some.inj e; omega) (fun e => by have := Option.some.inj e; omega), SetAt.tight Tryd.underlying3 hT4 (fun j hj h => ?_), fun j hj => ?_, hB5.grown hg4 (by omega) (fun j e => by cases e; exact Nat.le_refl _)⟩
              · simp only [Bool.or_eq_true] at h
                rcases h with h | h
                · exact HTd.out j hj h
                · exact cloB_dom l _ (by omega) j h
              · rw [HV.out j hj, HST.out j]; simp [HA.out.1, HA.out.2]
            case measure => rw [(hrg5.kept hg4 (fun e => by have := Option.some.inj e; omega) (fun e => by have := Option.some.inj e; omega)).left_eq, hcnt]; exact hlt
          · have hfx' : x.isFor c = false := by simpa using hfx
            have HA : Hid (x.isAny = false ∧ x.isFor c = false) := ⟨hax', hfx'⟩
            generalize x.val = xv at hc hisany hisfor
            rw [hax'] at hisany
            rw [hfx'] at hisfor
            clear hax' hfx' hfx
            go_wp2_with (first | (go_at_call 44; refine hisany.mono ?_; rintro e w' ⟨rfl, rfl⟩) | (go_at_call 45; refine hisfor.mono ?_; rintro e W5 ⟨rfl, hb5⟩))
            have hszW := hb5.size
            have hT5 := SetAt.below hT3 hb5 (by omega)
            have hrg5 := hrg3.below hb5 (by omega) (by omega)
            go_roundw
            case rel =>
              refine ⟨_, cnt', T, hrg5, hT5, fun j hj => ?_, hB3.trans (hb5.mono (by omega))⟩
              rw [HV.out j hj, HST.out j]; simp [HA.out.1, HA.out.2]
            case measure => rw [hrg5.left_eq, hcnt]; exact hlt
end Go.Proofs.YtohfemdjkdjeeaaDoor

/- Package scope: Means. -/
import Derived.Test.YthnfhklfmaeccaaGreatDoorS6
namespace Go.Proofs.YthnfhklfmaeccaaGreatDoor
open Go Go.RowKit Go.Shelf

theorem terms_cell (ts : List Term) (j : Nat) (x : Term) (h : ts[j]? = some x) : (ts.flatMap Term.enc)[j * 2]? = some (.string x.name) ∧ (ts.flatMap Term.enc)[j * 2 + 1]? = some (.string x.pat) := by
  induction ts generalizing j with
  | nil => simp at h
  | cons y ys ih =>
    cases j with
    | zero => simp at h; subst h; simp [Term.enc]
    | succ j =>
      have := ih j (by simpa using h)
      rw [show (j + 1) * 2 = j * 2 + 2 by omega]
      simp only [List.flatMap_cons, Term.enc, List.cons_append, List.nil_append, List.getElem?_cons_succ]
      exact this
theorem terms_len (ts : List Term) : (ts.flatMap Term.enc).length = ts.length * 2 := by
  induction ts with
  | nil => rfl
  | cons y ys ih => simp [List.flatMap_cons, Term.enc, ih]; omega
theorem TermsAt.cells {n₀ : Nat} {w : World} {a : Option Addr} {len cap : Nat} {ts : List Term} (h : TermsAt n₀ w (.slice a len cap) ts) : len = ts.length ∧ ∀ j x, ts[j]? = some x →
    ∃ b off, a = some ⟨b, off, none⟩ ∧ b < n₀ ∧ w.cell? ⟨b, off + j * 2, none⟩ = some (.string x.name) ∧ w.cell? ⟨b, off + j * 2 + 1, none⟩ = some (.string x.pat) := by
  rcases h with ⟨h, h0, _⟩ | ⟨b, off, cap', e, hb, hc⟩
  · obtain ⟨rfl, rfl, rfl⟩ : a = none ∧ len = 0 ∧ cap = 0 := by simpa using h
    have : ts = [] := by simpa using h0
    subst this
    exact ⟨rfl, fun i x hx => by simp at hx⟩
  · obtain ⟨rfl, rfl, rfl⟩ : a = some ⟨b, off, none⟩ ∧ len = ts.length ∧ cap = cap' := by simpa using e
    refine ⟨rfl, fun j x hx => ⟨b, off, rfl, hb, ?_⟩⟩
    have hj := (List.getElem?_eq_some_iff.1 hx).1
    have h2 := terms_cell ts j x hx
    rw [terms_len] at hc
    exact ⟨(hc (j * 2) (by omega)).trans h2.1, (hc (j * 2 + 1) (by omega)).trans h2.2⟩

theorem all_no {α : Type} (l : List α) (f : α → Bool) (k : Nat) (x : α) (h : l.take (k + 1) = l.take k ++ [x]) (hx : f x = false) : l.all f = false := by
  have hp := List.take_append_drop (k + 1) l
  rw [← hp, List.all_append, h, List.all_append, List.all_cons, hx]
  simp
theorem all_yes {α : Type} (l : List α) (f : α → Bool) (k : Nat) (x : α) (h : l.take (k + 1) = l.take k ++ [x]) (hx : f x = true) (ht : (l.take k).all f = true) : (l.take (k + 1)).all f = true := by
  rw [h, List.all_append, ht, List.all_cons, hx]; rfl
def termB (ls : List Lab) (t : Term) : Bool := match labGet ls t.name with
  | none => false
  | some v => fitsS t.pat v
def meansS (s : StrK) (ls : List Lab) : Bool × Int := match readS s with
  | none => (false, 50)
  | some ts => if labRight ls then (ts.all (termB ls), 0) else (false, 50)
/-- The names and patterns of a scope are short. -/
theorem readSt_sizes (l : List StrK) : ∀ (st0 st : List Term × ByteArray), (∀ t ∈ st0.1, t.name.size < 4294967281 ∧ t.pat.size < 4294967281) → l.foldl (fun st x => st.bind (readStep x)) (some st0) = some st → ∀ t ∈ st.1, t.name.size < 4294967281 ∧ t.pat.size < 4294967281 := by
  induction l with
  | nil => intro st0 st h0 h; cases h; exact h0
  | cons x xs ih =>
    intro st0 st h0 h
    simp only [List.foldl_cons, Option.bind_some] at h
    cases hx : readStep x st0 with
    | none => rw [hx, foldl_none] at h; cases h
    | some st1 =>
      rw [hx] at h
      refine ih st1 st ?_ h
      unfold readStep at hx
      split at hx
      · cases hx
      · cases hx
        intro t ht
        simp only [List.mem_append, List.mem_singleton] at ht
        rcases ht with ht | rfl
        · exact h0 t ht
        · have := cutB_size x.1; have := x.2; exact ⟨by dsimp only; omega, by dsimp only; omega⟩
theorem readS_sizes (s : StrK) (ts : List Term) (h : readS s = some ts) : ts.length ≤ 4 ∧ ∀ t ∈ ts, t.name.size < 4294967281 ∧ t.pat.size < 4294967281 := by
  unfold readS at h
  split at h
  · cases h; simp
  · cases hr : readSt (splitL s) with
    | none => rw [hr] at h; cases h
    | some st =>
      rw [hr] at h
      cases h
      exact ⟨readSt_len _ _ _ (by simp) hr, readSt_sizes _ _ _ (by simp) hr⟩
theorem labGet_size : ∀ (ls : List LabK) (n v : ByteArray), labGet (ls.map (·.1)) n = some v → v.size < 4294967281
  | [], _, _, h => by simp [labGet] at h
  | x :: xs, n, v, h => by
    simp only [List.map_cons, labGet] at h
    split at h
    · cases h; exact x.2.2
    · exact labGet_size xs n v h

set_option maxRecDepth 100000 in
set_option maxHeartbeats 2000000 in
theorem Means_any (s : StrK) (a0 : Option Addr) (cap : Nat) (ls : List LabK) (w : World) (hL : Labs w.heap.size w (.slice a0 ls.length cap) (ls.map (·.1))) (hG : GW w) (h3 : ls.length < 4294967281) :
    Calls Tryz.prog 14 #[.string s.1, .slice a0 ls.length cap] w fun e w' => e = .returned (.tuple #[.bool (meansS s (ls.map (·.1))).1, .int .i64 (meansS s (ls.map (·.1))).2]) ∧ Below w.heap.size w w' := by
  have hr := read_any s w hG
  cases hrs : readS s with
  | none =>
    have HR := Lib.hid hrs
    unfold ReadPost at hr
    rw [hrs] at hr
    clear hrs
    go_enter Tryz.func14, Tryz.ntmps14
    go_wp2_with (go_at_call 23; refine hr.mono ?_; rintro e w1 ⟨a, len, cap, rfl, -, hb1⟩)
    go_ret2
    exact ⟨by simp [meansS, HR.out], hb1⟩
  | some ts =>
    obtain ⟨hl4, hsz⟩ := readS_sizes s ts hrs
    have HR := Lib.hid hrs
    have HZ := Lib.hid hsz
    unfold ReadPost at hr
    rw [hrs] at hr
    clear hrs hsz
    go_enter Tryz.func14, Tryz.ntmps14
    go_wp2_with (go_at_call 23; refine hr.mono ?_; rintro e w1 ⟨a, len, tcap, rfl, hts, hb1⟩)
    have hlr := label_Right_any a0 cap ls w1 ((SlAt.below hb1 hL).mono hb1.size) (hG.below hb1) h3
    simp only [Option.getD_some] at hts
    clear hr
    refine hlr.mono ?_
    rintro e w2 ⟨rfl, hb2⟩
    clear hlr
    obtain ⟨hlen, -⟩ := hts.cells
    subst hlen
    cases hlb : labRight (ls.map (·.1)) with
    | false =>
      have HB := Lib.hid hlb
      clear hlb
      go_wp2_with fail
      go_ret2
      exact ⟨by simp only [meansS, HR.out, HB.out]; rfl, hb1.trans (hb2.mono hb1.size)⟩
    | true =>
      have HB := Lib.hid hlb
      clear hlb
      go_wp2_with fail
      have hsz1 := hb1.size
      have hsz2 := hb2.size
      have hts2 : TermsAt w1.heap.size w2 _ ts := SlAt.below hb2 hts
      have hL2 : Labs w.heap.size w2 _ _ := SlAt.below (hb1.trans (hb2.mono hsz1)) hL
      have hG2 := (hG.below hb1).below hb2
      have hb2' := hb1.trans (hb2.mono hsz1)
      go_loopw [26] (fun i wr => ∃ k : Nat, i = .int .i64 k ∧ k ≤ ts.length ∧ Below w2.heap.size w2 wr ∧ Hid ((ts.take k).all (termB (ls.map (·.1))) = true)) (fun i _ => ts.length - (intOf i).toNat)
      case atStart => exact ⟨0, rfl, Nat.zero_le _, Below.refl _ _, rfl⟩
      case round =>
        obtain ⟨k, rfl, hk, hB, HA⟩ := hrel
        have hszB := hB.size
        by_cases hlt : k < ts.length
        · obtain ⟨x, hx⟩ : ∃ x, ts[k]? = some x := ⟨_, List.getElem?_eq_getElem hlt⟩
          have htr : TermsAt w1.heap.size wr _ ts := SlAt.below (hB.mono hsz2) hts2
          obtain ⟨b, off, rfl, hbb, hc0, hc1⟩ := htr.cells.2 k x hx
          have hmem : x ∈ ts := List.mem_of_getElem? hx
          obtain ⟨hxn, hxp⟩ := HZ.out x hmem
          have HX : Hid (ts.take (k + 1) = ts.take k ++ [x]) := by rw [Hid, List.take_add_one, hx]; rfl
          have hBa : Below w2.heap.size w2 (wr.alloc (.cells #[.string x.name, .string x.pat] 73)) := hB.alloc hszB _
          have hget := label_Get_any a0 cap ls x.name _ ((SlAt.below (hBa.mono (by omega)) hL2).mono (by simp; omega)) h3
          have cx0 := cell_of_cells (World.alloc_heap_new wr (.cells #[.string x.name, .string x.pat] 73)) 1
          clear hx htr hts2 hL2 hmem
          cases hg : labGet (ls.map (·.1)) x.name with
          | none =>
            have HT : Hid (termB (ls.map (·.1)) x = false) := by simp only [Hid, termB, hg]
            rw [hg] at hget
            clear hg
            go_wp2_with (go_at_call 25; refine hget.mono ?_; rintro e w4 ⟨rfl, hb4⟩)
            go_ret2
            refine ⟨?_, hb2'.trans ((hBa.trans (hb4.mono (by simp; omega))).mono (by omega))⟩
            have h9 := all_no ts (termB (ls.map (·.1))) k x HX.out HT.out
            simp only [meansS, HR.out, HB.out, h9]; rfl
          | some v =>
            have hvs := labGet_size ls x.name v hg
            have HT : Hid (termB (ls.map (·.1)) x = fitsS x.pat v) := by simp only [Hid, termB, hg]
            rw [hg] at hget
            clear hg
            go_wp2_with fail
            refine hget.mono ?_
            rintro e w4 ⟨rfl, hb4⟩
            have hsza : (wr.alloc (.cells #[.string x.name, .string x.pat] 73)).heap.size = wr.heap.size + 1 := by simp
            rw [hsza] at hb4
            have d1 : w4.cell? ⟨wr.heap.size, 1, none⟩ = some (.string x.pat) := (hb4.cell (p := ⟨wr.heap.size, 1, none⟩) (Nat.lt_succ_self _)).trans cx0
            have hB4 : Below w2.heap.size w2 w4 := hBa.trans (hb4.mono (by omega))
            have hfit := Fits_any x.pat v w4 hxp hvs (hG2.below hB4)
            clear hget hsza cx0
            cases hf : fitsS x.pat v with
            | false =>
              rw [hf] at hfit
              have HT2 : Hid (termB (ls.map (·.1)) x = false) := by rw [Hid, HT.out, hf]
              clear hf
              go_wp2_with (go_at_call 26; refine hfit.mono ?_; rintro e w5 ⟨rfl, hb5⟩)
              go_ret2
              have h9 := all_no ts (termB (ls.map (·.1))) k x HX.out HT2.out
              refine ⟨?_, hb2'.trans ((hB4.trans (hb5.mono hB4.size)).mono (by omega))⟩
              simp only [meansS, HR.out, HB.out, h9]; rfl
            | true =>
              rw [hf] at hfit
              have HT2 : Hid (termB (ls.map (·.1)) x = true) := by rw [Hid, HT.out, hf]
              clear hf
              go_wp2_with (go_at_call 26; refine hfit.mono ?_; rintro e w5 ⟨rfl, hb5⟩)
              go_roundw
              case rel => exact ⟨k + 1, by go_num, by omega, hB4.trans (hb5.mono hB4.size), all_yes ts _ k x HX.out HT2.out HA.out⟩
              case measure => simp [intOf]; omega
        · obtain rfl : k = ts.length := by omega
          clear hts2 hL2
          go_wp2_with fail
          go_ret2
          have h9 : ts.all (termB (ls.map (·.1))) = true := by have := HA.out; rwa [List.take_length] at this
          exact ⟨by simp only [meansS, HR.out, HB.out, h9]; rfl, hb2'.trans (hB.mono (by omega))⟩
end Go.Proofs.YthnfhklfmaeccaaGreatDoor

/- Package grant: Right, New, the library's IndexFunc, ContainsFunc; May. -/
import Derived.Test.YtohfemdjkdjeeaaDoorG1
namespace Go.Proofs.YtohfemdjkdjeeaaDoor
open Go Go.RowKit Go.Shelf

set_option maxHeartbeats 400000 in
theorem grant_Right_any (g : Grants) (a : Option Addr) (len cap : Nat) (w : World) (hL : Grs w.heap.size w (.slice a len cap) g.l) (hG : GW w) :
    Calls Tryd.prog 11 #[.agg #[.int .u64 g.next, .slice a len cap]] w fun e w' => e = .returned (.bool (grRight g)) ∧ Below w.heap.size w w' := by
  have hlen := (SlAt.elems gr_enc_len hL).1
  by_cases h1 : g.next < 1
  · have t1 : decide (g.next < 1) = true := by simpa using h1
    have H1 := Lib.hid t1
    clear hL hlen
    go_enter Tryd.func11, Tryd.ntmps11
    go_wp2_with fail
    go_ret
    exact ⟨by simp [grRight, H1.out], (Below.refl _ _).alloc (Nat.le_refl _) _⟩
  · by_cases h10 : g.l.length ≤ 10
    · refine (grant_Right_mid g a len cap w hL hG (by omega) h10).mono ?_
      rintro e w' ⟨rfl, hb⟩
      exact ⟨by simp [grRight, h1, h10], hb⟩
    · have t1 : decide (g.next < 1) = false := by simpa using h1
      have t2 : decide ((10 : Int) < len) = true := by simp; omega
      have H2 := Lib.hid h10
      clear hL hlen h1 h10
      go_enter Tryd.func11, Tryd.ntmps11
      go_wp2_with fail
      go_ret
      exact ⟨by simp [grRight, H2.out], (Below.refl _ _).alloc (Nat.le_refl _) _⟩

theorem grant_New_any (w : World) : Calls Tryd.prog 14 #[] w fun e w' => e = .returned (.agg #[.int .u64 1, .slice none 0 0]) ∧ Below w.heap.size w w' := by
  go_enter Tryd.func14, Tryd.ntmps14
  go_wp2_with fail
  exact bodyPost_ret (v := .agg #[.int .u64 1, .slice none 0 0]) (by simp [results, Tryd.results14, go_sem]) rfl ⟨rfl, (Below.refl _ _).alloc (Nat.le_refl _) _⟩

def idxOf {α : Type} (p : α → Bool) (l : List α) : Int := match l.findIdx? p with
  | some i => (i : Int)
  | none => -1
theorem idx_hit {α : Type} {p : α → Bool} {l : List α} {k : Nat} {x : α} (hx : l[k]? = some x) (hp : p x = true) (hn : (l.take k).all (fun y => !p y) = true) : idxOf p l = k := by
  have h : l.findIdx? p = some k := by
    rw [List.findIdx?_eq_some_iff_getElem]
    obtain ⟨h1, h2⟩ := List.getElem?_eq_some_iff.1 hx
    refine ⟨h1, by rw [h2]; exact hp, fun j hj => ?_⟩
    have h3 := List.all_eq_true.1 hn (l[j]'(by omega)) (by rw [List.mem_take_iff_getElem]; exact ⟨j, by omega, rfl⟩)
    simpa using h3
  simp [idxOf, h]
theorem idx_miss {α : Type} {p : α → Bool} {l : List α} (hn : l.all (fun y => !p y) = true) : idxOf p l = -1 := by
  have h : l.findIdx? p = none := by
    rw [List.findIdx?_eq_none_iff]
    intro x hx
    simpa using List.all_eq_true.1 hn x hx
  simp [idxOf, h]

/-- A function value that answers p of each of l, in whatever later world. -/
def PredGr (fid : Nat) (capt : Array Value) (p : Gr → Bool) (w : World) (l : List Gr) : Prop :=
  ∀ x ∈ l, ∀ W, Below w.heap.size w W → Calls Tryd.prog fid (#[x.agg] ++ capt) W fun e w' => e = .returned (.bool (p x)) ∧ Below W.heap.size W w'

set_option maxRecDepth 100000 in
set_option maxHeartbeats 1000000 in
theorem indexFunc_gr (a : Option Addr) (len cap : Nat) (l : List Gr) (fid : Nat) (capt : Array Value) (p : Gr → Bool) (w : World) (hL : Grs w.heap.size w (.slice a len cap) l) (hll : l.length < 4294967281)
    (eg : ∀ args w, (callFunc fid args).run Tryd.prog w = .ok (.enter fid args) w)
    (hp : PredGr fid capt p w l) :
    Calls Tryd.prog 16 #[.slice a len cap, .func (.func fid) #[] capt] w fun e w' => e = .returned (.int .i64 (idxOf p l)) ∧ Below w.heap.size w w' := by
  obtain ⟨hlen, -⟩ := SlAt.elems gr_enc_len hL
  subst hlen
  have HP := Lib.hid hp
  clear hp
  go_enter Tryd.func16, Tryd.ntmps16
  go_wp2_with fail
  go_loopw [8] (fun i wr => ∃ k : Nat, i = .int .i64 k ∧ k ≤ l.length ∧ Below w.heap.size w wr ∧ Hid ((l.take k).all (fun y => !p y) = true)) (fun i _ => l.length - (intOf i).toNat)
  case atStart => exact ⟨0, rfl, Nat.zero_le _, Below.refl _ _, rfl⟩
  case round =>
    obtain ⟨k, rfl, hk, hB, HA⟩ := hrel
    by_cases hlt : k < l.length
    · obtain ⟨x, hx⟩ : ∃ x, l[k]? = some x := ⟨_, List.getElem?_eq_getElem hlt⟩
      obtain ⟨b, off, rfl, hbb, hc⟩ := (SlAt.elems gr_enc_len (SlAt.below hB hL)).2 k x hx
      have c0 : wr.cell? ⟨b, off + k * 3, none⟩ = some (.int .u64 x.id) := hc 0 (by omega)
      have c1 : wr.cell? ⟨b, off + k * 3 + 1, none⟩ = some (.int .u64 x.to) := hc 1 (by omega)
      have c2 : wr.cell? ⟨b, off + k * 3 + 2, none⟩ = some (.string x.scope.1) := hc 2 (by omega)
      have hcall := HP.out x (List.mem_of_getElem? hx) wr hB
      have HX := Lib.hid hx
      clear hc hx hL
      unfold Gr.agg at hcall
      cases hpx : p x with
      | true =>
        rw [hpx] at hcall
        have HPX := Lib.hid hpx
        clear hpx
        go_wp2_with fail
        refine hcall.mono ?_
        rintro e w4 ⟨rfl, hb4⟩
        go_wp2_with fail
        go_ret
        exact ⟨by rw [idx_hit HX.out HPX.out HA.out]; rfl, hB.trans (hb4.mono hB.size)⟩
      | false =>
        rw [hpx] at hcall
        have HPX := Lib.hid hpx
        clear hpx
        go_wp2_with fail
        refine hcall.mono ?_
        rintro e w4 ⟨rfl, hb4⟩
        go_wp2_with fail
        go_roundw
        case rel => exact ⟨k + 1, by go_num, by omega, hB.trans (hb4.mono hB.size), all_yes l _ k x (take_snoc' HX.out) (by simp [HPX.out]) HA.out⟩
        case measure => simp [intOf]; omega
    · obtain rfl : k = l.length := by omega
      clear hL
      go_wp2_with fail
      go_ret
      have h9 := HA.out
      rw [List.take_length] at h9
      exact ⟨by rw [idx_miss h9]; rfl, hB⟩

theorem idx_any {α : Type} (p : α → Bool) (l : List α) : decide (0 ≤ idxOf p l) = l.any p := by
  unfold idxOf
  cases h : l.findIdx? p with
  | none =>
    rw [List.findIdx?_eq_none_iff] at h
    have : l.any p = false := by rw [List.any_eq_false]; intro x hx; simp [h x hx]
    simp [this]
  | some i =>
    obtain ⟨h1, h2, _⟩ := List.findIdx?_eq_some_iff_getElem.1 h
    have : l.any p = true := List.any_eq_true.2 ⟨_, List.getElem_mem h1, h2⟩
    simp [this]
theorem containsFunc_gr (a : Option Addr) (len cap : Nat) (l : List Gr) (fid : Nat) (capt : Array Value) (p : Gr → Bool) (w : World) (hL : Grs w.heap.size w (.slice a len cap) l) (hll : l.length < 4294967281)
    (eg : ∀ args w, (callFunc fid args).run Tryd.prog w = .ok (.enter fid args) w)
    (hp : PredGr fid capt p w l) :
    Calls Tryd.prog 20 #[.slice a len cap, .func (.func fid) #[] capt] w fun e w' => e = .returned (.bool (l.any p)) ∧ Below w.heap.size w w' := by
  have hi := indexFunc_gr a len cap l fid capt p w hL hll eg hp
  have HI := Lib.hid (idx_any p l)
  clear hp hL eg
  go_enter Tryd.func20, Tryd.ntmps20
  go_wp2_with (go_at_call 16; refine hi.mono ?_; rintro e w4 ⟨rfl, hb4⟩)
  go_ret
  exact ⟨by rw [← HI.out]; rfl, hb4⟩

/-! ### May -/
def mayOne (to : Int) (ls : List Lab) (x : Gr) : Bool := x.to == to && ((meansS x.scope ls).2 == 0 && (meansS x.scope ls).1)
set_option maxRecDepth 100000 in
set_option maxHeartbeats 1000000 in
theorem may1_any (x : Gr) (to : Int) (b1 b2 : Nat) (a0 : Option Addr) (cap : Nat) (ls : List LabK) (w : World) (h1 : Boxed w b1 22 (.int .u64 to)) (h2 : Boxed w b2 26 (.slice a0 ls.length cap)) (hL : Labs w.heap.size w (.slice a0 ls.length cap) (ls.map (·.1))) (hG : GW w) (h3 : ls.length < 4294967281) :
    Calls Tryd.prog 21 (#[x.agg] ++ #[.pointer (some ⟨b1, 0, none⟩), .pointer (some ⟨b2, 0, none⟩)]) w fun e w' => e = .returned (.bool (mayOne to (ls.map (·.1)) x)) ∧ Below w.heap.size w w' := by
  have c1 := h1.cell
  have c2 := h2.cell
  have l1 := h1.lt
  have l2 := h2.lt
  have hB : Below w.heap.size w (w.alloc (.cells #[.int .u64 x.id, .int .u64 x.to, .string x.scope.1] 46)) := (Below.refl _ w).alloc (Nat.le_refl _) _
  have hm := Means_any x.scope a0 cap ls _ ((SlAt.below hB hL).mono hB.size) (hG.below hB) h3
  unfold Gr.agg
  simp only [List.append_toArray, List.cons_append, List.nil_append]
  by_cases ht : x.to = to
  · have ht' : (x.to != to) = false := by simp [ht]
    have HT := Lib.hid ht
    clear ht h1 h2 hL
    generalize hmm : meansS x.scope (ls.map (·.1)) = mm at hm
    have HM := Lib.hid hmm
    clear hmm
    by_cases he : mm.2 = 0
    · have he' : (mm.2 == 0) = true := by simp [he]
      have HE := Lib.hid he
      clear he
      go_enter Tryd.func21, Tryd.ntmps21
      go_wp2_with (go_at_call 13; refine hm.mono ?_; rintro e w4 ⟨rfl, hb4⟩)
      go_ret
      exact ⟨by simp only [mayOne, HM.out, HT.out, HE.out]; simp, hB.trans (hb4.mono (by simp))⟩
    · have he' : (mm.2 == 0) = false := by rw [beq_eq_false_iff_ne]; exact he
      have HE := Lib.hid he'
      clear he
      go_enter Tryd.func21, Tryd.ntmps21
      go_wp2_with (go_at_call 13; refine hm.mono ?_; rintro e w4 ⟨rfl, hb4⟩)
      go_ret
      exact ⟨by simp only [mayOne, HM.out, HE.out]; simp, hB.trans (hb4.mono (by simp))⟩
  · have ht' : (x.to != to) = true := by simp [ht]
    have HT : Hid ((x.to == to) = false) := by rw [Hid, beq_eq_false_iff_ne]; exact ht
    clear ht h1 h2 hL hm
    go_enter Tryd.func21, Tryd.ntmps21
    go_wp2_with fail
    go_ret
    exact ⟨by simp [mayOne, HT.out], hB⟩
end Go.Proofs.YtohfemdjkdjeeaaDoor

/- Appends of many cells, makes: as run equations. series.Meant; what a scope means, in plain data. Package grant: the data; Right. Package grant: Right, New, the library's IndexFunc, ContainsFunc; May. Package grant: May. Package grant: Issue. slices.Clone, slices.Delete at []api.Grant; Revoke. Package grant: Revoke. aviarylaw15.cut, Few. aviarylaw15.shown. -/
import Derived.Test.YthbhmnakmhambaaGreatDoorZME
namespace Go.Proofs.YthbhmnakmhambaaGreatDoor
open Go Go.RowKit
theorem below_setCells {B : Nat} {w0 W : World} (h : Below B w0 W) {b : Nat} (hb : B ≤ b) : ∀ (vs : List Value) (o : Nat), Below B w0 (W.setCells b o vs) := by
 intro vs
 induction vs generalizing W with
 | nil => intro o; exact h
 | cons v r ih => intro o; exact ih (h.setCell (p := ⟨b, o, none⟩) hb v) (o + 1)
end Go.Proofs.YthbhmnakmhambaaGreatDoor
namespace Go.Proofs.YthbhmnakmhambaaGreatDoor
open Go Go.RowKit Go.Shelf
theorem meantGo_len (s : StrK) : ∀ (l : List Ser) (k : Nat), (meantGo s k l).length ≤ l.length
 | [], k => by simp [meantGo]
 | y :: l, k => by
  have := meantGo_len s l (k + 1)
  simp only [meantGo, List.length_cons]
  split
  ·simp only [List.length_cons]; omega
  ·omega
attribute [-go_sem] Builtin.append_
end Go.Proofs.YthbhmnakmhambaaGreatDoor
namespace Go.Proofs.YthbhmnakmhambaaGreatDoor
open Go Go.RowKit Go.Shelf
end Go.Proofs.YthbhmnakmhambaaGreatDoor
namespace Go.Proofs.YthbhmnakmhambaaGreatDoor
open Go Go.RowKit Go.Shelf
structure Gr where
 id : Int
 tnt : Int
 scope : StrK
def Gr.enc (g : Gr) : List Value := [.int .u64 g.id, .int .u64 g.tnt, .string g.scope.1]
def Gr.agg (g : Gr) : Value := .agg #[.int .u64 g.id, .int .u64 g.tnt, .string g.scope.1]
def Gr.ok (g : Gr) : Prop := U64 g.id ∧ U64 g.tnt
theorem gr_enc_len (g : Gr) : g.enc.length = 3 := rfl
def Grs (n₀ : Nat) (w : World) (sv : Value) (l : List Gr) : Prop := SlAt n₀ w sv l.length (l.flatMap Gr.enc)
structure Grants where
 next : Int
 l : List Gr
def grStep (next : Int) (last : Int) (x : Gr) : Option Int := if x.id ≤ last || next ≤ x.id || !scRight x.scope then none else some x.id
def grRight (g : Grants) : Bool := !decide (g.next < 1) && decide (g.l.length ≤ 10) && (foldO (grStep g.next) 0 g.l).isSome
set_option maxRecDepth 100000 in
set_option maxHeartbeats 2000000 in
theorem grant_Right_mid (g : Grants) (a : Option Addr) (len cap : Nat) (w : World) (hL : Grs w.heap.size w (.slice a len cap) g.l) (hG : GW w) (h1 : 1 ≤ g.next) (h10 : g.l.length ≤ 10) :
  Calls Tryz.prog 43 #[.agg #[.int .u64 g.next, .slice a len cap]] w fun e w' => e = .returned (.bool (foldO (grStep g.next) 0 g.l).isSome) ∧ Below w.heap.size w w' := by
 obtain ⟨hlen, -⟩ := SlAt.elems gr_enc_len hL
 subst hlen
 obtain ⟨next, l⟩ := g
 dsimp only at *
 have t1 : decide (next < 1) = false := by simp; omega
 have t2 : decide ((10 : Int) < l.length) = false := by simp; omega
 go_enter Tryz.func43, Tryz.ntmps43
 go_wp2_with fail
 have hB0 : Below w.heap.size w (w.alloc (.cells #[.int .u64 next, .slice a l.length cap] 49)) := (Below.refl _ w).alloc (Nat.le_refl _) _
 have hsz0 : (w.alloc (.cells #[.int .u64 next, .slice a l.length cap] 49)).heap.size = w.heap.size + 1 := by simp
 have q0 := cCc (World.alloc_heap_new w (.cells #[.int .u64 next, .slice a l.length cap] 49)) 0
 generalize (w.alloc (.cells #[.int .u64 next, .slice a l.length cap] 49)) = W0 at hB0 hsz0 q0 ⊢
 have hL0 : Grs w.heap.size W0 _ l := SlAt.below hB0 hL
 have hG0 := hG.below hB0
 have q0' : W0.cell? ⟨w.heap.size, 0, none⟩ = some (.int .u64 next) := q0
 clear q0 hL
 go_loopw [3, 18] (fun la i wr => ∃ (k : Nat) (last : Int), i = .int .i64 k ∧ la = .int .u64 last ∧ k ≤ l.length ∧ Below W0.heap.size W0 wr ∧ Hid (foldO (grStep next) 0 (l.take k) = some last)) (fun _ i _ => l.length - (intOf i).toNat)
 case atStart => exact ⟨0, 0, rfl, rfl, Nat.zero_le _, Below.refl _ _, rfl⟩
 case round =>
  obtain ⟨k, last, rfl, rfl, hk, hB, HF⟩ := hrel
  have hszB := hB.size
  by_cases hlt : k < l.length
  ·obtain ⟨x, hx⟩ : ∃ x, l[k]? = some x := ⟨_, List.getElem?_eq_getElem hlt⟩
   obtain ⟨b, off, rfl, hbb, hc⟩ := (SlAt.elems gr_enc_len (SlAt.below (hB.mono (by omega)) hL0)).2 k x hx
   have HS := Lib.hid (foldO_step hx HF.out)
   have c0 : wr.cell? ⟨b, off + k * 3, none⟩ = some (.int .u64 x.id) := hc 0 (by omega)
   have c1 : wr.cell? ⟨b, off + k * 3 + 1, none⟩ = some (.int .u64 x.tnt) := hc 1 (by omega)
   have c2 : wr.cell? ⟨b, off + k * 3 + 2, none⟩ = some (.string x.scope.1) := hc 2 (by omega)
   have qr : wr.cell? ⟨w.heap.size, 0, none⟩ = some (.int .u64 next) := (hB.cell (p := ⟨w.heap.size, 0, none⟩) (by show w.heap.size < _; omega)).trans q0'
   clear hc hx q0' hL0 HF
   have hwl : w.heap.size < wr.heap.size := by omega
   have hBa : Below W0.heap.size W0 (wr.alloc (.cells #[.int .u64 x.id, .int .u64 x.tnt, .string x.scope.1] 89)) := hB.alloc hszB _
   have hr := scRight_any x.scope _ (hG0.below hBa)
   have cy := cCc (World.alloc_heap_new wr (.cells #[.int .u64 x.id, .int .u64 x.tnt, .string x.scope.1] 89)) 0
   have HS' : Hid (∀ bb, (decide (x.id ≤ last) || decide (next ≤ x.id) || !scRight x.scope) = bb → foldO (grStep next) 0 (l.take (k + 1)) = if bb then none else some x.id) := fun bb h => by rw [HS.out, ← h]; rfl
   by_cases u1 : x.id ≤ last
   ·go_wp2_with fail
    go_ret
    have h9 : foldO (grStep next) 0 l = none := foldO_none (HS'.out true (by simp [u1]))
    exact ⟨by rw [h9]; rfl, hB0.trans (hBa.mono (by omega))⟩
   have u1' : last < x.id := by omega
   have U1 := Lib.hid u1
   clear u1
   by_cases u2 : next ≤ x.id
   ·go_wp2_with fail
    go_ret
    have h9 : foldO (grStep next) 0 l = none := foldO_none (HS'.out true (by simp [u2]))
    exact ⟨by rw [h9]; rfl, hB0.trans (hBa.mono (by omega))⟩
   have u2' : x.id < next := by omega
   have U2 := Lib.hid u2
   clear u2
   cases u3 : scRight x.scope with
   | false =>
    have U3 := Lib.hid u3
    rw [u3] at hr
    clear u3
    go_wp2_with (go_at_call 44; refine hr.mono ?_; rintro e w4 ⟨rfl, hb4⟩)
    go_ret
    have h9 : foldO (grStep next) 0 l = none := foldO_none (HS'.out true (by simp [U3.out]))
    exact ⟨by rw [h9]; rfl, hB0.trans ((hBa.trans (hb4.mono (by simp; omega))).mono (by omega))⟩
   | true =>
    have U3 := Lib.hid u3
    rw [u3] at hr
    clear u3
    go_wp2_with fail
    refine hr.mono ?_
    rintro e w4 ⟨rfl, hb4⟩
    rw [World.size_alloc] at hb4
    have cz : w4.cell? ⟨wr.heap.size, 0, none⟩ = some (.int .u64 x.id) := (hb4.cell (p := ⟨wr.heap.size, 0, none⟩) (Nat.lt_succ_self _)).trans cy
    clear cy hr
    go_wp2_with fail
    go_roundw
    case rel => exact ⟨k + 1, x.id, by go_num, rfl, by omega, hBa.trans (hb4.mono (by omega)), HS'.out false (by simp [U3.out]; have := U1.out; have := U2.out; omega)⟩
    case measure => simp [intOf]; omega
  ·obtain rfl : k = l.length := by omega
   clear q0' hL0
   go_wp2_with fail
   go_ret
   have h9 := HF.out
   rw [List.take_length] at h9
   exact ⟨by rw [h9]; rfl, hB0.trans (hB.mono (by omega))⟩
end Go.Proofs.YthbhmnakmhambaaGreatDoor
namespace Go.Proofs.YthbhmnakmhambaaGreatDoor
open Go Go.RowKit Go.Shelf
set_option maxHeartbeats 400000 in
theorem grant_Right_any (g : Grants) (a : Option Addr) (len cap : Nat) (w : World) (hL : Grs w.heap.size w (.slice a len cap) g.l) (hG : GW w) :
  Calls Tryz.prog 43 #[.agg #[.int .u64 g.next, .slice a len cap]] w fun e w' => e = .returned (.bool (grRight g)) ∧ Below w.heap.size w w' := by
 have hlen := (SlAt.elems gr_enc_len hL).1
 by_cases h1 : g.next < 1
 ·have t1 : decide (g.next < 1) = true := by simpa using h1
  have H1 := Lib.hid t1
  clear hL hlen
  go_enter Tryz.func43, Tryz.ntmps43
  go_wp2_with fail
  go_ret
  exact ⟨by simp [grRight, H1.out], (Below.refl _ _).alloc (Nat.le_refl _) _⟩
 ·by_cases h10 : g.l.length ≤ 10
  ·refine (grant_Right_mid g a len cap w hL hG (by omega) h10).mono ?_
   rintro e w' ⟨rfl, hb⟩
   exact ⟨by simp [grRight, h1, h10], hb⟩
  ·have t1 : decide (g.next < 1) = false := by simpa using h1
   have t2 : decide ((10 : Int) < len) = true := by simp; omega
   have H2 := Lib.hid h10
   clear hL hlen h1 h10
   go_enter Tryz.func43, Tryz.ntmps43
   go_wp2_with fail
   go_ret
   exact ⟨by simp [grRight, H2.out], (Below.refl _ _).alloc (Nat.le_refl _) _⟩
theorem grant_New_any (w : World) : Calls Tryz.prog 16 #[] w fun e w' => e = .returned (.agg #[.int .u64 1, .slice none 0 0]) ∧ Below w.heap.size w w' := by
 go_enter Tryz.func16, Tryz.ntmps16
 go_wp2_with fail
 exact bodyPost_ret (v := .agg #[.int .u64 1, .slice none 0 0]) (by simp [results, Tryz.results16, go_sem]) rfl ⟨rfl, (Below.refl _ _).alloc (Nat.le_refl _) _⟩
def idxOf {α : Type} (p : α → Bool) (l : List α) : Int := match l.findIdx? p with
 | some i => (i : Int)
 | none => -1
theorem idx_hit {α : Type} {p : α → Bool} {l : List α} {k : Nat} {x : α} (hx : l[k]? = some x) (hp : p x = true) (hn : (l.take k).all (fun y => !p y) = true) : idxOf p l = k := by
 have h : l.findIdx? p = some k := by
  rw [List.findIdx?_eq_some_iff_getElem]
  obtain ⟨h1, h2⟩ := List.getElem?_eq_some_iff.1 hx
  refine ⟨h1, by rw [h2]; exact hp, fun j hj => ?_⟩
  have h3 := List.all_eq_true.1 hn (l[j]'(by omega)) (by rw [List.mem_take_iff_getElem]; exact ⟨j, by omega, rfl⟩)
  simpa using h3
 simp [idxOf, h]
theorem idx_miss {α : Type} {p : α → Bool} {l : List α} (hn : l.all (fun y => !p y) = true) : idxOf p l = -1 := by
 have h : l.findIdx? p = none := by
  rw [List.findIdx?_eq_none_iff]
  intro x hx
  simpa using List.all_eq_true.1 hn x hx
 simp [idxOf, h]
def PredGr (fid : Nat) (capt : Array Value) (p : Gr → Bool) (w : World) (l : List Gr) : Prop :=
 ∀ x ∈ l, ∀ W, Below w.heap.size w W → Calls Tryz.prog fid (#[x.agg] ++ capt) W fun e w' => e = .returned (.bool (p x)) ∧ Below W.heap.size W w'
set_option maxRecDepth 100000 in
set_option maxHeartbeats 1000000 in
theorem indexFunc_gr (a : Option Addr) (len cap : Nat) (l : List Gr) (fid : Nat) (capt : Array Value) (p : Gr → Bool) (w : World) (hL : Grs w.heap.size w (.slice a len cap) l) (hll : l.length < 4294967281)
  (eg : ∀ args w, (callFunc fid args).run Tryz.prog w = .ok (.enter fid args) w)
  (hp : PredGr fid capt p w l) :
  Calls Tryz.prog 76 #[.slice a len cap, .func (.func fid) #[] capt] w fun e w' => e = .returned (.int .i64 (idxOf p l)) ∧ Below w.heap.size w w' := by
 obtain ⟨hlen, -⟩ := SlAt.elems gr_enc_len hL
 subst hlen
 have HP := Lib.hid hp
 clear hp
 go_enter Tryz.func76, Tryz.ntmps76
 go_wp2_with fail
 go_loopw [8] (fun i wr => ∃ k : Nat, i = .int .i64 k ∧ k ≤ l.length ∧ Below w.heap.size w wr ∧ Hid ((l.take k).all (fun y => !p y) = true)) (fun i _ => l.length - (intOf i).toNat)
 case atStart => exact ⟨0, rfl, Nat.zero_le _, Below.refl _ _, rfl⟩
 case round =>
  obtain ⟨k, rfl, hk, hB, HA⟩ := hrel
  by_cases hlt : k < l.length
  ·obtain ⟨x, hx⟩ : ∃ x, l[k]? = some x := ⟨_, List.getElem?_eq_getElem hlt⟩
   obtain ⟨b, off, rfl, hbb, hc⟩ := (SlAt.elems gr_enc_len (SlAt.below hB hL)).2 k x hx
   have c0 : wr.cell? ⟨b, off + k * 3, none⟩ = some (.int .u64 x.id) := hc 0 (by omega)
   have c1 : wr.cell? ⟨b, off + k * 3 + 1, none⟩ = some (.int .u64 x.tnt) := hc 1 (by omega)
   have c2 : wr.cell? ⟨b, off + k * 3 + 2, none⟩ = some (.string x.scope.1) := hc 2 (by omega)
   have hcall := HP.out x (List.mem_of_getElem? hx) wr hB
   have HX := Lib.hid hx
   clear hc hx hL
   unfold Gr.agg at hcall
   cases hpx : p x with
   | true =>
    rw [hpx] at hcall
    have HPX := Lib.hid hpx
    clear hpx
    go_wp2_with fail
    refine hcall.mono ?_
    rintro e w4 ⟨rfl, hb4⟩
    go_wp2_with fail
    go_ret
    exact ⟨by rw [idx_hit HX.out HPX.out HA.out]; rfl, hB.trans (hb4.mono hB.size)⟩
   | false =>
    rw [hpx] at hcall
    have HPX := Lib.hid hpx
    clear hpx
    go_wp2_with fail
    refine hcall.mono ?_
    rintro e w4 ⟨rfl, hb4⟩
    go_wp2_with fail
    go_roundw
    case rel => exact ⟨k + 1, by go_num, by omega, hB.trans (hb4.mono hB.size), all_yes l _ k x (take_snoc' HX.out) (by simp [HPX.out]) HA.out⟩
    case measure => simp [intOf]; omega
  ·obtain rfl : k = l.length := by omega
   clear hL
   go_wp2_with fail
   go_ret
   have h9 := HA.out
   rw [List.take_length] at h9
   exact ⟨by rw [idx_miss h9]; rfl, hB⟩
theorem idx_any {α : Type} (p : α → Bool) (l : List α) : decide (0 ≤ idxOf p l) = l.any p := by
 unfold idxOf
 cases h : l.findIdx? p with
 | none =>
  rw [List.findIdx?_eq_none_iff] at h
  have : l.any p = false := by rw [List.any_eq_false]; intro x hx; simp [h x hx]
  simp [this]
 | some i =>
  obtain ⟨h1, h2, _⟩ := List.findIdx?_eq_some_iff_getElem.1 h
  have : l.any p = true := List.any_eq_true.2 ⟨_, List.getElem_mem h1, h2⟩
  simp [this]
theorem containsFunc_gr (a : Option Addr) (len cap : Nat) (l : List Gr) (fid : Nat) (capt : Array Value) (p : Gr → Bool) (w : World) (hL : Grs w.heap.size w (.slice a len cap) l) (hll : l.length < 4294967281)
  (eg : ∀ args w, (callFunc fid args).run Tryz.prog w = .ok (.enter fid args) w)
  (hp : PredGr fid capt p w l) :
  Calls Tryz.prog 54 #[.slice a len cap, .func (.func fid) #[] capt] w fun e w' => e = .returned (.bool (l.any p)) ∧ Below w.heap.size w w' := by
 have hi := indexFunc_gr a len cap l fid capt p w hL hll eg hp
 have HI := Lib.hid (idx_any p l)
 clear hp hL eg
 go_enter Tryz.func54, Tryz.ntmps54
 go_wp2_with (go_at_call 76; refine hi.mono ?_; rintro e w4 ⟨rfl, hb4⟩)
 go_ret
 exact ⟨by rw [← HI.out]; rfl, hb4⟩
def mayOne (tnt : Int) (ls : List Lab) (x : Gr) : Bool := x.tnt == tnt && ((meansS x.scope ls).2 == 0 && (meansS x.scope ls).1)
set_option maxRecDepth 100000 in
set_option maxHeartbeats 1000000 in
theorem may1_any (x : Gr) (tnt : Int) (b1 b2 : Nat) (a0 : Option Addr) (cap : Nat) (ls : List LabK) (w : World) (h1 : Boxed w b1 41 (.int .u64 tnt)) (h2 : Boxed w b2 40 (.slice a0 ls.length cap)) (hL : Labs w.heap.size w (.slice a0 ls.length cap) (ls.map (·.1))) (hG : GW w) (h3 : ls.length < 4294967281) :
  Calls Tryz.prog 55 (#[x.agg] ++ #[.pointer (some ⟨b1, 0, none⟩), .pointer (some ⟨b2, 0, none⟩)]) w fun e w' => e = .returned (.bool (mayOne tnt (ls.map (·.1)) x)) ∧ Below w.heap.size w w' := by
 have c1 := h1.cell
 have c2 := h2.cell
 have l1 := h1.lt
 have l2 := h2.lt
 have hB : Below w.heap.size w (w.alloc (.cells #[.int .u64 x.id, .int .u64 x.tnt, .string x.scope.1] 89)) := (Below.refl _ w).alloc (Nat.le_refl _) _
 have hm := Means_any x.scope a0 cap ls _ ((SlAt.below hB hL).mono hB.size) (hG.below hB) h3
 unfold Gr.agg
 simp only [List.append_toArray, List.cons_append, List.nil_append]
 by_cases ht : x.tnt = tnt
 ·have ht' : (x.tnt != tnt) = false := by simp [ht]
  have HT := Lib.hid ht
  clear ht h1 h2 hL
  generalize hmm : meansS x.scope (ls.map (·.1)) = mm at hm
  have HM := Lib.hid hmm
  clear hmm
  by_cases he : mm.2 = 0
  ·have he' : (mm.2 == 0) = true := by simp [he]
   have HE := Lib.hid he
   clear he
   go_enter Tryz.func55, Tryz.ntmps55
   go_wp2_with (go_at_call 56; refine hm.mono ?_; rintro e w4 ⟨rfl, hb4⟩)
   go_ret
   exact ⟨by simp only [mayOne, HM.out, HT.out, HE.out]; simp, hB.trans (hb4.mono (by simp))⟩
  ·have he' : (mm.2 == 0) = false := by rw [beq_eq_false_iff_ne]; exact he
   have HE := Lib.hid he'
   clear he
   go_enter Tryz.func55, Tryz.ntmps55
   go_wp2_with (go_at_call 56; refine hm.mono ?_; rintro e w4 ⟨rfl, hb4⟩)
   go_ret
   exact ⟨by simp only [mayOne, HM.out, HE.out]; simp, hB.trans (hb4.mono (by simp))⟩
 ·have ht' : (x.tnt != tnt) = true := by simp [ht]
  have HT : Hid ((x.tnt == tnt) = false) := by rw [Hid, beq_eq_false_iff_ne]; exact ht
  clear ht h1 h2 hL hm
  go_enter Tryz.func55, Tryz.ntmps55
  go_wp2_with fail
  go_ret
  exact ⟨by simp [mayOne, HT.out], hB⟩
end Go.Proofs.YthbhmnakmhambaaGreatDoor
namespace Go.Proofs.YthbhmnakmhambaaGreatDoor
open Go Go.RowKit Go.Shelf
def mayS (g : Grants) (tnt : Int) (ls : List Lab) : Bool := grRight g && g.l.any (mayOne tnt ls)
theorem grRight_len {g : Grants} (h : grRight g = true) : g.l.length ≤ 10 ∧ 1 ≤ g.next := by
 simp only [grRight, Bool.and_eq_true, decide_eq_true_eq, Bool.not_eq_true', decide_eq_false_iff_not] at h
 exact ⟨h.1.2, by omega⟩
set_option maxRecDepth 100000 in
set_option maxHeartbeats 1000000 in
theorem May_any (g : Grants) (a : Option Addr) (len cap : Nat) (tnt : Int) (a0 : Option Addr) (lcap : Nat) (ls : List LabK) (w : World) (hL : Grs w.heap.size w (.slice a len cap) g.l) (hLs : Labs w.heap.size w (.slice a0 ls.length lcap) (ls.map (·.1))) (hG : GW w) (h3 : ls.length < 4294967281) :
  Calls Tryz.prog 24 #[.agg #[.int .u64 g.next, .slice a len cap], .int .u64 tnt, .slice a0 ls.length lcap] w fun e w' => e = .returned (.bool (mayS g tnt (ls.map (·.1)))) ∧ Below w.heap.size w w' := by
 have hB1 : Below w.heap.size w (w.alloc (.cells #[.int .u64 g.next, .slice a len cap] 49)) := (Below.refl _ w).alloc (Nat.le_refl _) _
 have hX := World.alloc_heap_new w (.cells #[.int .u64 g.next, .slice a len cap] 49)
 obtain ⟨W0, hW0, b1, b2, hB2, hs2⟩ := box2 (w.alloc (.cells #[.int .u64 g.next, .slice a len cap] 49)) (.int .u64 tnt) 41 (.slice a0 ls.length lcap) 40
 rw [World.size_alloc] at b1 b2 hs2 hB2
 have hB0 : Below w.heap.size w W0 := hB1.trans (hB2.mono (by omega))
 have hX0 := (hB2.block w.heap.size (by omega)).trans hX
 have c0 := cCc hX0 0
 have c1 := cCc hX0 1
 have hR := grant_Right_any g a len cap W0 ((SlAt.below hB0 hL).mono hB0.size) (hG.below hB0)
 simp at c0 c1
 clear hB1 hX hB2 hX0
 go_enter Tryz.func24, Tryz.ntmps24
 go_wp2_with fail
 refine hR.mono ?_
 rintro e w1 ⟨rfl, hb1⟩
 clear hW0 hR
 have d1 := (hb1.cell (p := ⟨w.heap.size, 1, none⟩) (by show w.heap.size < _; omega)).trans c1
 have e1 := bBoxed hb1 b1.lt b1
 have e2 := bBoxed hb1 b2.lt b2
 have hB1 : Below w.heap.size w w1 := hB0.trans (hb1.mono (by omega))
 have hz1 := hb1.size
 cases hr : grRight g with
 | false =>
  have HR := Lib.hid hr
  clear hr
  go_wp2_with fail
  go_ret
  exact ⟨by simp [mayS, HR.out], hB1⟩
 | true =>
  have HR := Lib.hid hr
  have hlen10 := (grRight_len hr).1
  have hp : PredGr 55 #[.pointer (some ⟨w.heap.size + 1, 0, none⟩), .pointer (some ⟨w.heap.size + 1 + 1, 0, none⟩)] (mayOne tnt (ls.map (·.1))) w1 g.l := by
   intro x _ W hW
   have hB2 : Below w.heap.size w W := hB1.trans (hW.mono hB1.size)
   have hL2 : Labs W.heap.size W (.slice a0 ls.length lcap) (ls.map (·.1)) := (SlAt.below hB2 hLs).mono hB2.size
   exact may1_any x tnt (w.heap.size + 1) (w.heap.size + 1 + 1) a0 lcap ls W (bBoxed hW e1.lt e1) (bBoxed hW e2.lt e2) hL2 (hG.below hB2) h3
  have hll : g.l.length < 4294967281 := by omega
  have hL1 : Grs w1.heap.size w1 (.slice a len cap) g.l := (SlAt.below hB1 hL).mono hB1.size
  have hen : ∀ args w, (callFunc 55 args).run Tryz.prog w = .ok (.enter 55 args) w := enters_of Tryz.func55 (by kernel_rfl) rfl
  have hcf := containsFunc_gr a len cap g.l _ _ _ w1 hL1 hll hen hp
  have HC := Lib.hid hcf
  clear hp hen hcf
  clear hr
  go_wp2_with (go_at_call 54; refine HC.out.mono ?_; rintro e w4 ⟨rfl, hb4⟩)
  go_ret
  have h9 : mayS g tnt (ls.map (·.1)) = g.l.any (mayOne tnt (ls.map (·.1))) := by simp only [mayS, HR.out, Bool.true_and]
  exact ⟨by rw [h9]; rfl, hB1.trans (hb4.mono hB1.size)⟩
end Go.Proofs.YthbhmnakmhambaaGreatDoor
namespace Go.Proofs.YthbhmnakmhambaaGreatDoor
open Go Go.RowKit Go.Shelf
def issueS (g : Grants) (tnt : Int) (s : StrK) : Grants × Int × Int :=
 if grRight g then (if scRight s then (if (g.l.length : Int) == 10 || g.next == 18446744073709551615 then (⟨0, []⟩, 0, 151) else (⟨g.next + 1, g.l ++ [⟨g.next, tnt, s⟩]⟩, g.next, 0)) else (⟨0, []⟩, 0, 50)) else (⟨0, []⟩, 0, 150)
def GrantsAt (lo n₀ : Nat) (w : World) (v : Value) (g : Grants) : Prop := ∃ a len cap, v = .agg #[.int .u64 g.next, .slice a len cap] ∧ Grs n₀ w (.slice a len cap) g.l ∧ ∀ x, a = some x → lo ≤ x.block
def IssuePost (r : Grants × Int × Int) (w : World) (e : Ending) (w' : World) : Prop :=
 ∃ v, e = .returned (.tuple #[v, .int .u64 r.2.1, .int .i64 r.2.2]) ∧ GrantsAt w.heap.size w'.heap.size w' v r.1 ∧ Below w.heap.size w w'
theorem info_grant : (Tryz.prog.info? 89).map (fun i => (i.zero, i.size, i.bytes)) = some (some (.agg #[.int .u64 0, .int .u64 0, .string ⟨#[]⟩]), 3, 32) := by kernel_rfl
theorem und_grants : Tryz.prog.underlying 47 = some (.slice 89) := by kernel_rfl
theorem grs_one (l : List Gr) : ∀ u ∈ l.flatMap Gr.enc, u.oneCell' = true := by
 intro u hu
 obtain ⟨x, _, hx⟩ := List.mem_flatMap.1 hu
 simp only [Gr.enc, List.mem_cons, List.not_mem_nil, or_false] at hx
 rcases hx with rfl | rfl | rfl <;> rfl
theorem issue_err {w W : World} {r : Grants × Int × Int} {en : Int} {tm : Array Value} (hY : W.heap[w.heap.size + 1]? = some (.cells #[.int .u64 0, .slice none 0 0] 49 (0, 0))) (hB : Below w.heap.size w W) (h9 : r = (⟨0, []⟩, 0, en))
  (t6 : tm[6]?.getD undef = .pointer (some ⟨w.heap.size + 1, 0, none⟩)) (t7 : tm[7]?.getD undef = .int .u64 0) (t8 : tm[8]?.getD undef = .int .i64 en) :
  bodyPost Tryz.prog Tryz.f15 (IssuePost r w) Exit.ret { tmps := tm, defers := [] } ((W.setCell ⟨w.heap.size + 1, 0, none⟩ (.int .u64 0)).setCell ⟨w.heap.size + 1, 1, none⟩ (.slice none 0 0)) := by
 have hf := set_cells2 (u := .int .u64 0) (v := .slice none 0 0) hY
 have f0 := cCc hf 0
 have f1 := cCc hf 1
 simp at f0 f1
 subst h9
 refine bodyPost_ret (v := .tuple #[.agg #[.int .u64 0, .slice none 0 0], .int .u64 0, .int .i64 en]) (by simp [results, Tryz.f15, go_sem, f0, f1, t6, t7, t8]) rfl ⟨_, rfl, ⟨none, 0, 0, rfl, .inl ⟨rfl, rfl, rfl⟩, fun x h => by cases h⟩, (hB.setCell (p := ⟨w.heap.size + 1, 0, none⟩) (Nat.le_succ _) _).setCell (p := ⟨w.heap.size + 1, 1, none⟩) (Nat.le_succ _) _⟩
set_option maxRecDepth 100000 in
set_option maxHeartbeats 2000000 in
theorem Issue_any (g : Grants) (a : Option Addr) (len cap : Nat) (tnt : Int) (s : StrK) (w : World) (hL : Grs w.heap.size w (.slice a len cap) g.l) (hG : GW w) (hu : U64 g.next) :
  Calls Tryz.prog 15 #[.agg #[.int .u64 g.next, .slice a len cap], .int .u64 tnt, .string s.1] w (IssuePost (issueS g tnt s) w) := by
 obtain ⟨hlen, -⟩ := SlAt.elems gr_enc_len hL
 subst hlen
 have hB1 : Below w.heap.size w (w.alloc (.cells #[.int .u64 g.next, .slice a g.l.length cap] 49)) := (Below.refl _ w).alloc (Nat.le_refl _) _
 have hX := World.alloc_heap_new w (.cells #[.int .u64 g.next, .slice a g.l.length cap] 49)
 obtain ⟨W0, hW0⟩ : ∃ W0, (w.alloc (.cells #[.int .u64 g.next, .slice a g.l.length cap] 49)).alloc (.cells #[.int .u64 0, .slice none 0 0] 49) = W0 := ⟨_, rfl⟩
 have hB0 : Below w.heap.size w W0 := by rw [← hW0]; exact hB1.alloc (by simp) _
 have hs0 : W0.heap.size = w.heap.size + 2 := by rw [← hW0]; simp
 have hX0 : W0.heap[w.heap.size]? = some (.cells #[.int .u64 g.next, .slice a g.l.length cap] 49 (0, 0)) := by rw [← hW0]; exact (Below.heap_alloc _ _ _ (by simp)).trans hX
 have hY0 : W0.heap[w.heap.size + 1]? = some (.cells #[.int .u64 0, .slice none 0 0] 49 (0, 0)) := by rw [← hW0]; have := World.alloc_heap_new (w.alloc (.cells #[.int .u64 g.next, .slice a g.l.length cap] 49)) (.cells #[.int .u64 0, .slice none 0 0] 49); rwa [World.size_alloc] at this
 have c0 := cCc hX0 0
 have c1 := cCc hX0 1
 have hR := grant_Right_any g a g.l.length cap W0 ((SlAt.below hB0 hL).mono hB0.size) (hG.below hB0)
 simp at c0 c1
 clear hB1 hX
 go_enter Tryz.func15, Tryz.ntmps15
 go_wp2_with fail
 refine hR.mono ?_
 rintro e w1 ⟨rfl, hb1⟩
 have hX1 := (hb1.block _ (by omega)).trans hX0
 have hY1 := (hb1.block _ (by omega)).trans hY0
 have hB1 : Below w.heap.size w w1 := hB0.trans (hb1.mono (by omega))
 have hz1 := hb1.size
 have d0 := cCc hY1 0
 have d1 := cCc hY1 1
 have d2 := cFz hY1 0
 have d3 := cFz hY1 1
 simp at d0 d1
 clear hW0 hR c0 c1 hX0 hY0 hb1
 cases hr : grRight g with
 | false =>
  have HR := Lib.hid hr
  clear hr
  go_wp2_with fail
  exact issue_err hY1 hB1 (by simp [issueS, HR.out]) rfl rfl rfl
 | true =>
  have HR := Lib.hid hr
  obtain ⟨hl10, hn1⟩ := grRight_len hr
  obtain ⟨hu0, hu1⟩ := hu
  have hS := scRight_any s w1 (hG.below hB1)
  clear hr
  go_wp2_with fail
  refine hS.mono ?_
  rintro e w2 ⟨rfl, hb2⟩
  have hX2 := (hb2.block _ (by omega)).trans hX1
  have hY2 := (hb2.block _ (by omega)).trans hY1
  have hB2 : Below w.heap.size w w2 := hB1.trans (hb2.mono (by omega))
  have hz2 := hb2.size
  have c0 := cCc hX2 0
  have c1 := cCc hX2 1
  clear d0 d1 d2 d3
  have d0 := cCc hY2 0
  have d1 := cCc hY2 1
  have d2 := cFz hY2 0
  have d3 := cFz hY2 1
  simp at c0 c1 d0 d1
  clear hS hX1 hY1 hb2
  cases hs : scRight s with
  | false =>
   have HS := Lib.hid hs
   clear hs
   go_wp2_with fail
   exact issue_err hY2 hB2 (by simp [issueS, HR.out, HS.out]) rfl rfl rfl
  | true =>
   have HS := Lib.hid hs
   clear hs
   by_cases h10 : g.l.length = 10
   ·have t1 : ((g.l.length : Int) == 10) = true := by simp [h10]
    have H1 := Lib.hid t1
    clear h10
    go_wp2_with fail
    exact issue_err hY2 hB2 (by simp [issueS, HR.out, HS.out, H1.out]) rfl rfl rfl
   have t1 : ((g.l.length : Int) == 10) = false := by rw [beq_eq_false_iff_ne]; omega
   by_cases hm : g.next = 18446744073709551615
   ·have t2 : (g.next == 18446744073709551615) = true := by rw [beq_iff_eq]; exact hm
    have H2 := Lib.hid t2
    clear hm
    go_wp2_with fail
    exact issue_err hY2 hB2 (by simp [issueS, HR.out, HS.out, H2.out]) rfl rfl rfl
   have t2 : (g.next == 18446744073709551615) = false := by rw [beq_eq_false_iff_ne]; exact hm
   have hnx : g.next ≤ 18446744073709551614 := by omega
   have H12 : Hid (issueS g tnt s = (⟨g.next + 1, g.l ++ [⟨g.next, tnt, s⟩]⟩, g.next, 0)) := by simp only [Hid, issueS, HR.out, HS.out, t1, t2]; rfl
   clear h10 hm
   obtain ⟨i0, hi, hz0, hz1, hz2'⟩ := info_parts info_grant
   obtain ⟨w3, hmk, hown3, hg3⟩ := run_make_own (P := Tryz.prog) w2 (w.heap.size + 2) 47 89 i0 _ 3 und_grants hi hz0 hz1 .i64 .i64 (g.l.length + 1) (by rw [hz2']; omega) (by unfold maxLen; omega) (by omega)
   have hcast : ((g.l.length + 1 : Nat) : Int) = (g.l.length : Int) + 1 := by omega
   rw [hcast] at hmk
   have hB3 : Below w.heap.size w w3 := hB2.grown hg3 (by omega) (fun k e => by cases e)
   have hX3 := (hg3.block w.heap.size (by omega) (by simp)).trans hX2
   have hY3 := (hg3.block (w.heap.size + 1) (by omega) (by simp)).trans hY2
   have hz3 := hg3.size
   have hL3 : Grs w3.heap.size w3 (.slice a g.l.length cap) g.l := (SlAt.below hB3 hL).mono hB3.size
   obtain ⟨v4, w4, hap4, hown4, hB4, hz4, hbl4, -⟩ := append_list Tryz.prog 47 und_grants info_grant rfl (by decide) hown3 hB3 (by omega) (by omega) hL3 (flat_len Gr.enc 3 gr_enc_len g.l) (grs_one g.l) (by omega) (by omega) (by decide)
   rw [Nat.zero_add, List.nil_append] at hown4
   obtain ⟨g5, cap5, w5, hap5, hown5, hB5, hz5, hbl5, -⟩ := append_one Tryz.prog 47 und_grants info_grant rfl (by decide) hown4 hB4 (by omega) (by omega) [.int .u64 g.next, .int .u64 tnt, .string s.1] rfl (by simp [Value.oneCell']) (by omega) (by decide)
   have hX4 := (hbl4 w.heap.size (by omega)).trans hX3
   have hX5 := (hbl5 w.heap.size (by omega)).trans hX4
   have hY5 := (hbl5 (w.heap.size + 1) (by omega)).trans ((hbl4 (w.heap.size + 1) (by omega)).trans hY3)
   have k0 := cCc hX3 1
   have k1 := cCc hX4 0
   have k2 := cCc hX5 0
   have m0 := cCc hY5 0
   have m1 := cCc hY5 1
   have m2 := cFz hY5 0
   have m3 := cFz hY5 1
   simp at k0 k1 k2 m0 m1
   obtain ⟨va, vc, rfl⟩ := owns_form hown4
   have hfin : Hid (w5.ownsRow (w.heap.size + 2) 89 3 (.slice (some ⟨g5, 0, none⟩) (g.l.length + 1) cap5) (g.l.length + 1) (g.l.flatMap Gr.enc ++ [.int .u64 g.next, .int .u64 tnt, .string s.1])) := hown5
   have hge5 : w.heap.size + 2 ≤ g5 := (hown5.lt g5 rfl).1
   clear hbl4 hbl5 hown3 hown4 hown5 hg3 hcast
   go_wp2_with (first | (at_builtin; refine wp_append_eq rfl (.tmp 33) (.tmp 35) _ rfl rfl rfl hap4 ?_) | (at_builtin; refine wp_append_eq rfl (.tmp 37) (.tmp 43) _ rfl rfl rfl hap5 ?_))
   go_region
   all_goals go_wp2_with fail
   have hf := set_cells2 (u := .int .u64 (g.next + 1)) (v := .slice (some ⟨g5, 0, none⟩) (g.l.length + 1) cap5) hY5
   have f0 := cCc hf 0
   have f1 := cCc hf 1
   simp at f0 f1
   have hq := ownsRow_setCell_below (ownsRow_setCell_below hfin.out (a := ⟨w.heap.size + 1, 0, none⟩) (by show w.heap.size + 1 < _; omega) (.int .u64 (g.next + 1))) (a := ⟨w.heap.size + 1, 1, none⟩) (by show w.heap.size + 1 < _; omega) (.slice (some ⟨g5, 0, none⟩) (g.l.length + 1) cap5)
   have hsl := (slAt_of_owns hq).drew
   rw [H12.out]
   refine bodyPost_ret (v := .tuple #[.agg #[.int .u64 (g.next + 1), .slice (some ⟨g5, 0, none⟩) (g.l.length + 1) cap5], .int .u64 g.next, .int .i64 0]) (by simp [results, Tryz.f15, go_sem, f0, f1]) rfl ⟨_, rfl, ⟨_, _, _, rfl, ?_, fun x h => by cases h; show w.heap.size ≤ g5; omega⟩, ((hB5.setCell (p := ⟨w.heap.size + 1, 0, none⟩) (Nat.le_succ _) _).setCell (p := ⟨w.heap.size + 1, 1, none⟩) (Nat.le_succ _) _).drew⟩
   unfold Grs
   simpa [Gr.enc] using hsl
end Go.Proofs.YthbhmnakmhambaaGreatDoor
namespace Go.Proofs.YthbhmnakmhambaaGreatDoor
open Go Go.RowKit Go.Shelf
theorem eql_nil (a : Option Addr) (n c : Nat) (w : World) : (binOp .eql 47 (.slice a n c) (.slice none 0 0)).run Tryz.prog w = .ok (.bool a.isNone) w := by
 exact Lib.run_eql_slice_nil w _ _ a n c 0 0 und_grants
set_option maxHeartbeats 1000000 in
theorem clone_gr (a : Option Addr) (len cap : Nat) (l : List Gr) (w : World) (hL : Grs w.heap.size w (.slice a len cap) l) (hll : l.length < 2147483648) :
  Calls Tryz.prog 79 #[.slice a len cap] w fun e w' => ∃ v, e = .returned v ∧ w'.ownsRow w.heap.size 89 3 v l.length (l.flatMap Gr.enc) ∧ Below w.heap.size w w' := by
 have he := eql_nil a len cap
 cases a with
 | none =>
  have hl0 : l = [] := by
   rcases hL with ⟨_, h, _⟩ | ⟨b, off, c, e, _⟩
   ·exact List.eq_nil_of_length_eq_zero h
   ·simp at e
  subst hl0
  go_enter Tryz.func79, Tryz.ntmps79
  go_wp2_with fail
  go_ret
  exact ⟨_, rfl, World.ownsRow_nil _ _ _ _, Below.refl _ _⟩
 | some a =>
  have hB1 : Below w.heap.size w (w.alloc (.cells #[] 89)) := (Below.refl _ w).alloc (Nat.le_refl _) _
  have hown : (w.alloc (.cells #[] 89)).ownsRow w.heap.size 89 3 (.slice (some ⟨w.heap.size, 0, none⟩) 0 0) 0 [] := ⟨rfl, .inr ⟨w.heap.size, 0, #[], rfl, Nat.le_refl _, World.alloc_heap_new _ _, Nat.le_refl _, by unfold maxLen; omega, rfl, rfl⟩⟩
  have hL1 : Grs (w.alloc (.cells #[] 89)).heap.size (w.alloc (.cells #[] 89)) (.slice (some a) len cap) l := (SlAt.below hB1 hL).mono (by simp)
  obtain ⟨v4, w4, hap4, hown4, hB4, hz4, -, -⟩ := append_list Tryz.prog 47 und_grants info_grant rfl (by decide) hown hB1 (Nat.le_refl _) (by simp) hL1 (flat_len Gr.enc 3 gr_enc_len l) (grs_one l) (by omega) (by omega) (by decide)
  rw [Nat.zero_add, List.nil_append] at hown4
  clear hL hL1 hown
  go_enter Tryz.func79, Tryz.ntmps79
  go_wp2_with (at_builtin; refine wp_append_eq rfl _ _ _ rfl rfl rfl hap4 ?_)
  go_ret
  exact ⟨_, rfl, hown4, hB4⟩
theorem flat_take {α : Type} (enc : α → List Value) (k : Nat) (hk : ∀ x, (enc x).length = k) : ∀ (l : List α) (i : Nat), (l.flatMap enc).take (i * k) = (l.take i).flatMap enc ∧ (l.flatMap enc).drop (i * k) = (l.drop i).flatMap enc
 | [], i => by simp
 | y :: ys, 0 => by simp
 | y :: ys, i + 1 => by
  obtain ⟨h1, h2⟩ := flat_take enc k hk ys i
  have e : (i + 1) * k = (enc y).length + i * k := by rw [hk, Nat.succ_mul]; omega
  simp only [List.flatMap_cons, List.take_succ_cons, List.drop_succ_cons]
  rw [e, List.take_length_add_append, List.drop_length_add_append, h1, h2]
  exact ⟨rfl, rfl⟩
theorem heap_setCells_known {g : Nat} {t : TypeId} {fz : Nat × Nat} : ∀ (vs : List Value) (o : Nat) (W : World) (cur : Array Value), W.heap[g]? = some (.cells cur t fz) → o + vs.length ≤ cur.size →
  ∃ cur', (W.setCells g o vs).heap[g]? = some (.cells cur' t fz) ∧ cur'.size = cur.size ∧ (∀ j, j < vs.length → cur'[o + j]? = vs[j]?) ∧ ∀ j, (j < o ∨ o + vs.length ≤ j) → cur'[j]? = cur[j]?
 | [], o, W, cur, h, _ => ⟨cur, h, rfl, fun j hj => absurd hj (by simp), fun _ _ => rfl⟩
 | v :: r, o, W, cur, h, hl => by
  simp only [List.length_cons] at hl
  obtain ⟨cur', h1, h2, h3, h4⟩ := heap_setCells_known r (o + 1) (W.setCell ⟨g, o, none⟩ v) (cur.setIfInBounds o v) (hSk h v) (by simp; omega)
  refine ⟨cur', h1, by simpa using h2, fun j hj => ?_, fun j hj => ?_⟩
  ·cases j with
   | zero =>
    rw [Nat.add_zero, h4 o (.inl (by omega))]
    simp [show o < cur.size by omega]
   | succ j =>
    have := h3 j (by simp at hj; omega)
    rw [show o + (j + 1) = o + 1 + j by omega, this]; simp
  ·simp only [List.length_cons] at hj
   rw [h4 j (by omega)]
   have : j ≠ o := by omega
   rw [Array.getElem?_setIfInBounds_ne (by omega)]
theorem erase_flat (l : List Gr) (i : Nat) : (l.eraseIdx i).flatMap Gr.enc = (l.flatMap Gr.enc).take (i * 3) ++ (l.flatMap Gr.enc).drop ((i + 1) * 3) := by
 rw [(flat_take Gr.enc 3 gr_enc_len l i).1, (flat_take Gr.enc 3 gr_enc_len l (i + 1)).2, List.eraseIdx_eq_take_drop_succ, List.flatMap_append]
theorem delete_append (g n m cap i : Nat) (cur : Array Value) (w : World) (hg : w.heap[g]? = some (.cells cur 89 (0, 0))) (hm1 : m < n) (hm2 : n ≤ m + 1) (hn : n ≤ cap) (hcs : cur.size = cap * 3) (hi : i ≤ m) (h1 : ∀ u ∈ cur.toList.take (n * 3), u.oneCell' = true) :
  (Builtin.append_ #[47, 47] 47 #[.slice (some ⟨g, 0, none⟩) i cap, .slice (if cap = i + 1 then some ⟨g, 0, none⟩ else some ⟨g, (i + 1) * 3, none⟩) (n - (i + 1)) (cap - (i + 1))]).run Tryz.prog w.drew =
   .ok (.slice (some ⟨g, 0, none⟩) m cap) (w.drew.setCells g (i * 3) ((cur.toList.take (n * 3)).drop ((i + 1) * 3))) := by
 obtain ⟨i0, hii, hz0, hz1, hz2⟩ := info_parts info_grant
 have hgd : w.drew.heap[g]? = some (.cells cur 89 (0, 0)) := hg
 have hlen : ((cur.toList.take (n * 3)).drop ((i + 1) * 3)).length = (n - (i + 1)) * i0.size := by
  rw [hz1, List.length_drop, List.length_take, Array.length_toList, hcs, Nat.min_eq_left (Nat.mul_le_mul_right 3 hn), ← Nat.sub_mul]
 have key : ∀ a : Addr, (a = ⟨g, (i + 1) * 3, none⟩ ∨ (cur.toList.take (n * 3)).drop ((i + 1) * 3) = []) → (Builtin.append_ #[47, 47] 47 #[.slice (some ⟨g, 0, none⟩) i cap, .slice (some a) (n - (i + 1)) (cap - (i + 1))]).run Tryz.prog w.drew =
   .ok (.slice (some ⟨g, 0, none⟩) (i + (n - (i + 1))) cap) (w.drew.setCells g (0 + i * i0.size) ((cur.toList.take (n * 3)).drop ((i + 1) * 3))) := by
  intro a ha
  refine run_append_room_cells (P := Tryz.prog) w.drew 47 47 89 i0 und_grants hii g 0 i cap a (n - (i + 1)) (cap - (i + 1)) _ hlen (fun j u hj => ?_) (fun u hu => h1 u (List.mem_of_mem_drop hu)) (by omega) (fun j hj => ?_) (fun j hj => cFz hgd _)
  ·rcases ha with rfl | ha
   ·have ea : (⟨g, (i + 1) * 3, none⟩ : Addr).add j = ⟨g, (i + 1) * 3 + j, none⟩ := by unfold Addr.add; split <;> simp_all
    rw [ea, cCc hgd]
    rw [List.getElem?_drop, List.getElem?_take] at hj
    split at hj
    ·rw [← hj]; simp
    ·cases hj
   ·rw [ha] at hj; simp at hj
  ·rw [cCc hgd]
   rw [hlen, hz1] at hj
   rw [hz1]
   have : i * 3 + j < cur.size := by rw [hcs]; omega
   simp [this]
 rw [hz1, Nat.zero_add, show i + (n - (i + 1)) = m by omega] at key
 split
 ·rename_i hc
  exact key _ (.inr (List.eq_nil_of_length_eq_zero (by rw [hlen, show n - (i + 1) = 0 by omega]; simp)))
 ·exact key _ (.inl rfl)
theorem clear_one (g o c : Nat) (W : World) (hc : ∀ j, j < 3 → (W.cell? ⟨g, o + j, none⟩).isSome = true) (hf : ∀ j, j < 3 → W.frozen? ⟨g, o + j, none⟩ = false) :
  (Builtin.clear_ #[47] 0 #[.slice (some ⟨g, o, none⟩) 1 c]).run Tryz.prog W = .ok (.tuple #[]) (W.setCells g o [.int .u64 0, .int .u64 0, .string ⟨#[]⟩]) := by
 have hst := run_storeCells_cells (P := Tryz.prog) g o [.int .u64 0, .int .u64 0, .string ⟨#[]⟩] 0 W (by simpa using hc) (by simpa using hf) (by simp [Value.oneCell'])
 simp only [Nat.add_zero] at hst
 have hzc : (Builtin.zeroCells (Value.agg #[.int .u64 0, .int .u64 0, .string ⟨#[]⟩]).cells 1).toList = [.int .u64 0, .int .u64 0, .string ⟨#[]⟩] := by kernel_rfl
 simp [Builtin.clear_, run_underlying und_grants, hzc, hst]
set_option maxRecDepth 100000 in
set_option maxHeartbeats 1000000 in
theorem delete_gr (g n m cap i : Nat) (cur : Array Value) (l : List Gr) (w : World) (hg : w.heap[g]? = some (.cells cur 89 (0, 0))) (hm1 : m < n) (hm2 : n ≤ m + 1) (hn : n ≤ cap) (hcap : n < 2147483648) (hi : i ≤ m) (hcs : cur.size = cap * 3) (h1 : ∀ u ∈ cur.toList.take (n * 3), u.oneCell' = true) (hl : cur.toList.take (n * 3) = l.flatMap Gr.enc) (hlm : l.length = n) :
  Calls Tryz.prog 78 #[.slice (some ⟨g, 0, none⟩) n cap, .int .i64 i, .int .i64 (i + 1)] w fun e w' => e = .returned (.slice (some ⟨g, 0, none⟩) m cap) ∧ Grs w'.heap.size w' (.slice (some ⟨g, 0, none⟩) m cap) (l.eraseIdx i) ∧ Below g w w' := by
 have b1 : (0 : Int) ≤ i := by omega
 have b2 : (i : Int) ≤ (i : Int) + 1 := by omega
 have b3 : (i : Int) + 1 ≤ (n : Nat) := by omega
 have b4 : ((n : Nat) : Int) ≤ cap := by omega
 have b5 : (i : Int) ≤ cap := by omega
 have b6 : (i : Int) ≤ (n : Nat) := by omega
 have b7 : (0 : Int) ≤ (i : Int) + 1 := by omega
 have b8 : ((i : Int) + 1).toNat = i + 1 := by omega
 have t1 : ((i : Int) == (i : Int) + 1) = false := by rw [beq_eq_false_iff_ne]; omega
 have hap := delete_append g n m cap i cur w hg hm1 hm2 hn hcs hi h1
 have HL := Lib.hid hl
 have HC := Lib.hid hcs
 have HM := Lib.hid hlm
 have HG := Lib.hid hg
 clear hl hcs hlm h1 hg
 go_enter Tryz.func78, Tryz.ntmps78
 go_wp2_with fail
 go_region_law (refine step_append_eq rfl (.tmp 22) (.tmp 25) _ rfl rfl rfl hap ?_)
 have hm3 : m * 3 + 3 ≤ cap * 3 := by omega
 have hcl : ((cur.toList.take (n * 3)).drop ((i + 1) * 3)).length = (m - i) * 3 := by
  rw [List.length_drop, List.length_take, Array.length_toList, HC.out, Nat.min_eq_left (Nat.mul_le_mul_right 3 hn)]; omega
 obtain ⟨cur', k1, k2, k3, k4⟩ := heap_setCells_known (g := g) ((cur.toList.take (n * 3)).drop ((i + 1) * 3)) (i * 3) w.drew cur HG.out (by rw [hcl, HC.out]; omega)
 have hB1 : Below g w (w.drew.setCells g (i * 3) ((cur.toList.take (n * 3)).drop ((i + 1) * 3))) := below_setCells (Below.refl g w).drew (Nat.le_refl _) _ _
 have hread : Hid (∀ j, j < m * 3 → cur'[j]? = ((l.eraseIdx i).flatMap Gr.enc)[j]?) := fun j hj => by
  rw [erase_flat l i, ← HL.out]
  by_cases h : j < i * 3
  ·rw [k4 j (.inl h), List.getElem?_append_left (by rw [List.length_take, List.length_take, Array.length_toList, HC.out]; omega), List.getElem?_take_of_lt h, List.getElem?_take_of_lt (by omega)]; simp
  ·have h5 := k3 (j - i * 3) (by rw [hcl]; omega)
   rw [show i * 3 + (j - i * 3) = j by omega] at h5
   rw [h5, List.getElem?_append_right (by rw [List.length_take]; omega)]
   congr 1
   rw [List.length_take, List.length_take, Array.length_toList, HC.out]; omega
 have hc2 : cur'.size = cap * 3 := k2.trans HC.out
 have HK := Lib.hid k1
 have HS := Lib.hid hc2
 have s0 : (w.drew.setCells g (i * 3) ((cur.toList.take (n * 3)).drop ((i + 1) * 3))).cell? ⟨g, m * 3, none⟩ = some (cur'[m * 3]'(by omega)) := by rw [cCc k1]; simp [show m * 3 < cur'.size by omega]
 have s1 : (w.drew.setCells g (i * 3) ((cur.toList.take (n * 3)).drop ((i + 1) * 3))).cell? ⟨g, m * 3 + 1, none⟩ = some (cur'[m * 3 + 1]'(by omega)) := by rw [cCc k1]; simp [show m * 3 + 1 < cur'.size by omega]
 have s2 : (w.drew.setCells g (i * 3) ((cur.toList.take (n * 3)).drop ((i + 1) * 3))).cell? ⟨g, m * 3 + 2, none⟩ = some (cur'[m * 3 + 2]'(by omega)) := by rw [cCc k1]; simp [show m * 3 + 2 < cur'.size by omega]
 have f0 := cFz k1 (m * 3)
 have f1 := cFz k1 (m * 3 + 1)
 have f2 := cFz k1 (m * 3 + 2)
 generalize cur'[m * 3]'(by omega) = x0 at s0
 generalize cur'[m * 3 + 1]'(by omega) = x1 at s1
 generalize cur'[m * 3 + 2]'(by omega) = x2 at s2
 generalize (w.drew.setCells g (i * 3) ((cur.toList.take (n * 3)).drop ((i + 1) * 3))) = W1 at *
 have bm : (m : Int) ≤ n := by omega
 have bn : n - m = 1 := by omega
 have hle : Hid ((l.eraseIdx i).length = m) := by rw [Hid, List.length_eraseIdx, HM.out]; split <;> omega
 have hlen' : Hid (((l.eraseIdx i).flatMap Gr.enc).length = m * 3) := by
  rw [Hid, flat_len Gr.enc 3 gr_enc_len, List.length_eraseIdx, HM.out]; split <;> omega
 clear k1 k2 k3 k4 hc2 hcl hap HL HC HM HG
 have hclr := clear_one g (m * 3) (cap - m) W1 (fun j hj => by rcases (by omega : j = 0 ∨ j = 1 ∨ j = 2) with rfl | rfl | rfl <;> simp [s0, s1, s2]) (fun j hj => by rcases (by omega : j = 0 ∨ j = 1 ∨ j = 2) with rfl | rfl | rfl <;> simp [f0, f1, f2])
 have hBf : Below g w (W1.setCells g (m * 3) [.int .u64 0, .int .u64 0, .string ⟨#[]⟩]) := below_setCells hB1 (Nat.le_refl _) _ _
 have hgr : Grs (W1.setCells g (m * 3) [.int .u64 0, .int .u64 0, .string ⟨#[]⟩]).heap.size (W1.setCells g (m * 3) [.int .u64 0, .int .u64 0, .string ⟨#[]⟩]) (.slice (some ⟨g, 0, none⟩) m cap) (l.eraseIdx i) := by
  obtain ⟨c3, q1, q2, q3, q4⟩ := heap_setCells_known (g := g) [.int .u64 0, .int .u64 0, .string ⟨#[]⟩] (m * 3) W1 cur' HK.out (by rw [HS.out]; simp; omega)
  refine .inr ⟨g, 0, cap, by rw [hle.out], (Array.getElem?_eq_some_iff.1 q1).1, fun j hj => ?_⟩
  rw [hlen'.out] at hj
  rw [cCc q1, Nat.zero_add, q4 j (.inl hj), hread j hj]
 clear hread HK HS s0 s1 s2 f0 f1 f2
 go_wp2_with fail
 all_goals go_ret
 ·rw [(by assumption : cap = i + 1)] at hgr
  exact ⟨rfl, hgr, hBf⟩
 ·exact ⟨rfl, hgr, hBf⟩
end Go.Proofs.YthbhmnakmhambaaGreatDoor
namespace Go.Proofs.YthbhmnakmhambaaGreatDoor
open Go Go.RowKit Go.Shelf
theorem revoke1_any (x : Gr) (id : Int) (b : Nat) (w : World) (h1 : Boxed w b 41 (.int .u64 id)) :
  Calls Tryz.prog 77 (#[x.agg] ++ #[.pointer (some ⟨b, 0, none⟩)]) w fun e w' => e = .returned (.bool (x.id == id)) ∧ Below w.heap.size w w' := by
 have c1 := h1.cell
 have l1 := h1.lt
 have hB : Below w.heap.size w (w.alloc (.cells #[.int .u64 x.id, .int .u64 x.tnt, .string x.scope.1] 89)) := (Below.refl _ w).alloc (Nat.le_refl _) _
 unfold Gr.agg
 simp only [List.append_toArray, List.cons_append, List.nil_append]
 clear h1
 go_enter Tryz.func77, Tryz.ntmps77
 go_wp2_with fail
 go_ret
 exact ⟨rfl, hB⟩
def revokeS (g : Grants) (id : Int) : Grants × Int :=
 if grRight g then (match g.l.findIdx? (fun x => x.id == id) with | none => (⟨0, []⟩, 121) | some i => (⟨g.next, g.l.eraseIdx i⟩, 0)) else (⟨0, []⟩, 150)
def RevPost (r : Grants × Int) (w : World) (e : Ending) (w' : World) : Prop :=
 ∃ v, e = .returned (.tuple #[v, .int .i64 r.2]) ∧ GrantsAt w.heap.size w'.heap.size w' v r.1 ∧ Below w.heap.size w w'
theorem revoke_err {w W : World} {r : Grants × Int} {en : Int} {tm : Array Value} (hY : W.heap[w.heap.size + 1 + 1]? = some (.cells #[.int .u64 0, .slice none 0 0] 49 (0, 0))) (hB : Below w.heap.size w W) (h9 : r = (⟨0, []⟩, en))
  (t6 : tm[4]?.getD undef = .pointer (some ⟨w.heap.size + 1 + 1, 0, none⟩)) (t8 : tm[5]?.getD undef = .int .i64 en) :
  bodyPost Tryz.prog Tryz.f42 (RevPost r w) Exit.ret { tmps := tm, defers := [] } ((W.setCell ⟨w.heap.size + 1 + 1, 0, none⟩ (.int .u64 0)).setCell ⟨w.heap.size + 1 + 1, 1, none⟩ (.slice none 0 0)) := by
 have hf := set_cells2 (u := .int .u64 0) (v := .slice none 0 0) hY
 have f0 := cCc hf 0
 have f1 := cCc hf 1
 simp at f0 f1
 subst h9
 refine bodyPost_ret (v := .tuple #[.agg #[.int .u64 0, .slice none 0 0], .int .i64 en]) (by simp [results, Tryz.f42, go_sem, f0, f1, t6, t8]) rfl ⟨_, rfl, ⟨none, 0, 0, rfl, .inl ⟨rfl, rfl, rfl⟩, fun x h => by cases h⟩, (hB.setCell (p := ⟨w.heap.size + 1 + 1, 0, none⟩) (by show _ ≤ w.heap.size + 1 + 1; omega) _).setCell (p := ⟨w.heap.size + 1 + 1, 1, none⟩) (by show _ ≤ w.heap.size + 1 + 1; omega) _⟩
theorem slAt_set_far {n₀ q off m m' cap : Nat} {w : World} {cs : List Value} {p : Addr} (hp : p.block ≠ q) (v : Value) : SlAt n₀ w (.slice (some ⟨q, off, none⟩) m cap) m' cs → SlAt n₀ (w.setCell p v) (.slice (some ⟨q, off, none⟩) m cap) m' cs
 | .inl ⟨e, _⟩ => by cases e
 | .inr ⟨b, o, c, e, hb, hc⟩ => .inr ⟨b, o, c, e, hb, fun j hj => by
   obtain ⟨rfl, _⟩ : b = q ∧ True := ⟨by injection e with e1; injection e1 with e1; injection e1 with e1; exact e1.symm, trivial⟩
   rw [World.cell?_setCell_other (h := fun h => hp (by rw [h]))]; exact hc j hj⟩
set_option maxRecDepth 100000 in
set_option maxHeartbeats 2000000 in
theorem Revoke_any (g : Grants) (a : Option Addr) (len cap : Nat) (id : Int) (w : World) (hL : Grs w.heap.size w (.slice a len cap) g.l) (hG : GW w) :
  Calls Tryz.prog 42 #[.agg #[.int .u64 g.next, .slice a len cap], .int .u64 id] w (RevPost (revokeS g id) w) := by
 obtain ⟨hlen, -⟩ := SlAt.elems gr_enc_len hL
 subst hlen
 have hB1 : Below w.heap.size w (w.alloc (.cells #[.int .u64 g.next, .slice a g.l.length cap] 49)) := (Below.refl _ w).alloc (Nat.le_refl _) _
 have hX := World.alloc_heap_new w (.cells #[.int .u64 g.next, .slice a g.l.length cap] 49)
 obtain ⟨Wa, hWa, b1, hB2, hs2⟩ := box1 (w.alloc (.cells #[.int .u64 g.next, .slice a g.l.length cap] 49)) (.int .u64 id) 41
 rw [World.size_alloc] at b1 hs2 hB2
 obtain ⟨W0, hW0⟩ : ∃ W0, Wa.alloc (.cells #[.int .u64 0, .slice none 0 0] 49) = W0 := ⟨_, rfl⟩
 have hBa0 : Below Wa.heap.size Wa W0 := by rw [← hW0]; exact (Below.refl _ _).alloc (Nat.le_refl _) _
 have hB0 : Below w.heap.size w W0 := (hB1.trans (hB2.mono (by omega))).trans (hBa0.mono (by omega))
 have hs0 : W0.heap.size = w.heap.size + 3 := by rw [← hW0]; simp; omega
 have hX0 : W0.heap[w.heap.size]? = some (.cells #[.int .u64 g.next, .slice a g.l.length cap] 49 (0, 0)) := (hBa0.block _ (by omega)).trans ((hB2.block w.heap.size (by omega)).trans hX)
 have hY0 : W0.heap[w.heap.size + 1 + 1]? = some (.cells #[.int .u64 0, .slice none 0 0] 49 (0, 0)) := by rw [← hW0]; have := World.alloc_heap_new Wa (.cells #[.int .u64 0, .slice none 0 0] 49); rwa [hs2] at this
 have e0 := bBoxed hBa0 b1.lt b1
 have c0 := cCc hX0 0
 have c1 := cCc hX0 1
 have hR := grant_Right_any g a g.l.length cap W0 ((SlAt.below hB0 hL).mono hB0.size) (hG.below hB0)
 simp at c0 c1
 clear hB1 hX hB2 hBa0 b1
 go_enter Tryz.func42, Tryz.ntmps42
 go_wp2_with fail
 refine hR.mono ?_
 rintro e w1 ⟨rfl, hb1⟩
 have hX1 := (hb1.block _ (by omega)).trans hX0
 have hY1 := (hb1.block _ (by omega)).trans hY0
 have e1 := bBoxed hb1 e0.lt e0
 have hB1 : Below w.heap.size w w1 := hB0.trans (hb1.mono (by omega))
 have hz1 := hb1.size
 have d0 := cCc hY1 0
 have d1 := cCc hY1 1
 have d2 := cFz hY1 0
 have d3 := cFz hY1 1
 simp at d0 d1
 clear hWa hW0 hR c0 c1 hX0 hY0 hb1
 cases hr : grRight g with
 | false =>
  have HR := Lib.hid hr
  clear hr
  go_wp2_with fail
  exact revoke_err hY1 hB1 (by simp [revokeS, HR.out]) rfl rfl
 | true =>
  have HR := Lib.hid hr
  obtain ⟨hl10, hn1⟩ := grRight_len hr
  have c1 := cCc hX1 1
  simp at c1
  have hp : PredGr 77 #[.pointer (some ⟨w.heap.size + 1, 0, none⟩)] (fun x => x.id == id) w1 g.l := by
   intro x _ W hW
   exact revoke1_any x id (w.heap.size + 1) W (bBoxed hW e1.lt e1)
  have hL1 : Grs w1.heap.size w1 (.slice a g.l.length cap) g.l := (SlAt.below hB1 hL).mono hB1.size
  have hen : ∀ args w, (callFunc 77 args).run Tryz.prog w = .ok (.enter 77 args) w := enters_of Tryz.func77 (by kernel_rfl) rfl
  have HC := Lib.hid (indexFunc_gr a g.l.length cap g.l _ _ _ w1 hL1 (by omega) hen hp)
  clear hp hen hr
  go_wp2_with fail
  refine HC.out.mono ?_
  rintro e w2 ⟨rfl, hb2⟩
  clear HC d0 d1 d2 d3 c1
  have hX2 := (hb2.block _ (by omega)).trans hX1
  have hY2 := (hb2.block _ (by omega)).trans hY1
  have hB2 : Below w.heap.size w w2 := hB1.trans (hb2.mono (by omega))
  have hz2 := hb2.size
  have d0 := cCc hY2 0
  have d1 := cCc hY2 1
  have d2 := cFz hY2 0
  have d3 := cFz hY2 1
  have c1 := cCc hX2 1
  simp at c1 d0 d1
  clear hX1 hY1 hb2 e1 e0 hL1
  cases hf : g.l.findIdx? (fun x => x.id == id) with
  | none =>
   have HF := Lib.hid hf
   have hi : idxOf (fun x => x.id == id) g.l = -1 := by simp only [idxOf, hf]
   rw [hi]
   clear hf hi
   go_wp2_with fail
   exact revoke_err hY2 hB2 (by simp [revokeS, HR.out, HF.out]) rfl rfl
  | some i =>
   have HF := Lib.hid hf
   have hi : idxOf (fun x => x.id == id) g.l = i := by simp only [idxOf, hf]
   have hil : i < g.l.length := (List.findIdx?_eq_some_iff_getElem.1 hf).1
   rw [hi]
   have t1 : decide ((i : Int) < 0) = false := by simp
   have HCl := Lib.hid (clone_gr a g.l.length cap g.l w2 ((SlAt.below hB2 hL).mono hB2.size) (by omega))
   clear hf hi
   go_wp2_with fail
   refine HCl.out.mono ?_
   rintro e w3 ⟨v3, rfl, hown, hb3⟩
   rcases hown.2 with ⟨_, h0⟩ | ⟨q, cap3, cur, rfl, hq, hqq, hnc, hcm, hcs, htk⟩
   ·omega
   have hX3 := (hb3.block _ (by omega)).trans hX2
   have hY3 := (hb3.block _ (by omega)).trans hY2
   have hB3 : Below w.heap.size w w3 := hB2.trans (hb3.mono (by omega))
   have hz3 := hb3.size
   obtain ⟨m, hm1, hm2⟩ : ∃ m, m < g.l.length ∧ g.l.length ≤ m + 1 := ⟨g.l.length - 1, by omega, by omega⟩
   have HD := Lib.hid (delete_gr q g.l.length m cap3 i cur g.l w3 hqq (by omega) (by omega) hnc (by omega) (by omega) hcs (by rw [htk]; exact grs_one g.l) htk rfl)
   clear HCl c1 d0 d1 d2 d3 hX2 hY2 hb3 hown hqq hnc hcm hcs htk
   go_wp2_with fail
   refine HD.out.mono ?_
   rintro e w4 ⟨rfl, hg4, hb4⟩
   have hX4 := (hb4.block _ (by omega)).trans hX3
   have hY4 := (hb4.block _ (by omega)).trans hY3
   have hB4 : Below w.heap.size w w4 := hB3.trans (hb4.mono (by omega))
   have hz4 := hb4.size
   have c0 := cCc hX4 0
   have d0 := cCc hY4 0
   have d1 := cCc hY4 1
   have d2 := cFz hY4 0
   have d3 := cFz hY4 1
   simp at c0 d0 d1
   clear HD hX3 hY3 hb4
   go_wp2_with fail
   have hf := set_cells2 (u := .int .u64 g.next) (v := .slice (some ⟨q, 0, none⟩) m cap3) hY4
   have f0 := cCc hf 0
   have f1 := cCc hf 1
   simp at f0 f1
   have hne : w.heap.size + 1 + 1 ≠ q := by omega
   have hg5 := slAt_set_far (p := ⟨w.heap.size + 1 + 1, 1, none⟩) hne (.slice (some ⟨q, 0, none⟩) m cap3) (slAt_set_far (p := ⟨w.heap.size + 1 + 1, 0, none⟩) hne (.int .u64 g.next) hg4)
   have h9 : revokeS g id = (⟨g.next, g.l.eraseIdx i⟩, 0) := by simp [revokeS, HR.out, HF.out]
   rw [h9]
   refine bodyPost_ret (v := .tuple #[.agg #[.int .u64 g.next, .slice (some ⟨q, 0, none⟩) m cap3], .int .i64 0]) (by simp [results, Tryz.f42, go_sem, f0, f1]) rfl ⟨_, rfl, ⟨_, _, _, rfl, ?_, fun x h => by cases h; show w.heap.size ≤ q; omega⟩, (hB4.setCell (p := ⟨w.heap.size + 1 + 1, 0, none⟩) (by show _ ≤ w.heap.size + 1 + 1; omega) _).setCell (p := ⟨w.heap.size + 1 + 1, 1, none⟩) (by show _ ≤ w.heap.size + 1 + 1; omega) _⟩
   exact hg5.mono (by simp [World.setCell])
end Go.Proofs.YthbhmnakmhambaaGreatDoor
namespace Go.Proofs.YthbhmnakmhambaaGreatDoor
open Go Go.RowKit Go.Shelf
theorem cut_any (s : ByteArray) (w : World) :
  Calls Tryz.prog 18 #[.string s] w fun e w' => e = .returned (.string (cutN 200 s)) ∧ Below w.heap.size w w' := by
 go_enter Tryz.func18, Tryz.ntmps18
 go_wp2_with fail
 go_ret
 exact ⟨rfl, Below.refl _ _⟩
end Go.Proofs.YthbhmnakmhambaaGreatDoor
namespace Go.Proofs.YthbhmnakmhambaaGreatDoor
open Go Go.RowKit Go.Shelf
def shS : StrK := ⟨⟨#[97, 61, 120]⟩, by decide⟩
def shG : Grants := ⟨2, [⟨1, 7, shS⟩]⟩
def shL : Lab := ⟨⟨#[97]⟩, ⟨#[120]⟩⟩
def shM : Lab := ⟨⟨#[97]⟩, ⟨#[121]⟩⟩
def shK : LabK := ⟨shL, by decide, by decide⟩
def shKM : LabK := ⟨shM, by decide, by decide⟩
theorem sh1 : issueS ⟨1, []⟩ 7 shS = (shG, 1, 0) := by kernel_rfl
theorem sh2 : revokeS shG 1 = (⟨2, []⟩, 0) := by kernel_rfl
theorem sh3 : mayS shG 7 [shL] = true := by kernel_rfl
theorem sh4 : mayS shG 8 [shL] = false := by kernel_rfl
theorem sh5 : mayS shG 7 [shM] = false := by kernel_rfl
theorem sh6 : mayS ⟨2, []⟩ 7 [shL] = false := by kernel_rfl
theorem labs_new (w : World) (x : Lab) {W : World} (h : W.heap[w.heap.size]? = some (.cells #[.string x.name, .string x.value] 70 (0, 0))) : Labs W.heap.size W (.slice (some ⟨w.heap.size, 0, none⟩) 1 1) [x] := by
 refine .inr ⟨w.heap.size, 0, 1, rfl, (Array.getElem?_eq_some_iff.1 h).1, fun i hi => ?_⟩
 rw [cCc h, Nat.zero_add]
 simp [Lab.enc]
theorem grow_keep {w w1 w2 : World} {b : Nat} {o : Obj} {sv : Value} {l : List Gr} {cs : Array Value} {t : TypeId} (hB1 : Below w.heap.size w w1) (hb2 : Below w1.heap.size w1 w2) (hX1 : w1.heap[b]? = some o) (hs1 : b < w1.heap.size) (hg2 : Grs w2.heap.size w2 sv l) :
  ∃ W2, w2.alloc (.cells cs t) = W2 ∧ Below w.heap.size w W2 ∧ W2.heap[b]? = some o ∧ W2.heap[w2.heap.size]? = some (.cells cs t (0, 0)) ∧ w2.heap.size < W2.heap.size ∧ Grs W2.heap.size W2 sv l ∧ Below w1.heap.size w1 W2 := by
 have hb : Below w2.heap.size w2 (w2.alloc (.cells cs t)) := (Below.refl _ w2).alloc (Nat.le_refl _) _
 exact ⟨_, rfl, (hB1.trans (hb2.mono hB1.size)).trans (hb.mono (Nat.le_trans hB1.size hb2.size)), (hb.block _ (Nat.lt_of_lt_of_le hs1 hb2.size)).trans ((hb2.block _ hs1).trans hX1), World.alloc_heap_new _ _, by simp, (SlAt.below hb hg2).mono hb.size, hb2.trans (hb.mono hb2.size)⟩
structure ShAt (w : World) (bg bh : Nat) (a2 : Option Addr) (len2 cap2 : Nat) (a3 : Option Addr) (len3 cap3 : Nat) (W : World) : Prop where
 below : Below w.heap.size w W
 hX : W.heap[bg]? = some (.cells #[.int .u64 shG.next, .slice a2 len2 cap2] 49 (0, 0))
 hZ : W.heap[bh]? = some (.cells #[.int .u64 2, .slice a3 len3 cap3] 49 (0, 0))
 hY : W.heap[w.heap.size]? = some (.cells #[.string ⟨#[97]⟩, .string ⟨#[120]⟩] 70 (0, 0))
 hg : Grs W.heap.size W (.slice a2 len2 cap2) shG.l
 hh : Grs W.heap.size W (.slice a3 len3 cap3) []
theorem ShAt.go {w : World} {bg bh : Nat} {a2 : Option Addr} {len2 cap2 : Nat} {a3 : Option Addr} {len3 cap3 : Nat} {W W' : World} (h : ShAt w bg bh a2 len2 cap2 a3 len3 cap3 W) (hb : Below W.heap.size W W') : ShAt w bg bh a2 len2 cap2 a3 len3 cap3 W' :=
 ⟨h.below.trans (hb.mono h.below.size), (hb.block _ (Array.getElem?_eq_some_iff.1 h.hX).1).trans h.hX, (hb.block _ (Array.getElem?_eq_some_iff.1 h.hZ).1).trans h.hZ, (hb.block _ (Array.getElem?_eq_some_iff.1 h.hY).1).trans h.hY, (SlAt.below hb h.hg).mono hb.size, (SlAt.below hb h.hh).mono hb.size⟩
set_option maxRecDepth 100000 in
set_option maxHeartbeats 2000000 in
theorem shown15_any (w : World) (hG : GW w) : Calls Tryz.prog 14 #[] w fun e w' => e = .returned (.bool true) ∧ Below w.heap.size w w' := by
 obtain ⟨W0, hW0⟩ : ∃ W0, w.alloc (.cells #[.string ⟨#[97]⟩, .string ⟨#[120]⟩] 70) = W0 := ⟨_, rfl⟩
 have hB0 : Below w.heap.size w W0 := by rw [← hW0]; exact (Below.refl _ w).alloc (Nat.le_refl _) _
 have hX0 : W0.heap[w.heap.size]? = some (.cells #[.string ⟨#[97]⟩, .string ⟨#[120]⟩] 70 (0, 0)) := by rw [← hW0]; exact World.alloc_heap_new w _
 have hs0 : w.heap.size < W0.heap.size := by rw [← hW0]; simp
 have hN := grant_New_any W0
 go_enter Tryz.func14, Tryz.ntmps14
 go_wp2_with fail
 refine hN.mono ?_
 rintro e w1 ⟨rfl, hb1⟩
 clear hW0 hN
 have hX1 := (hb1.block _ hs0).trans hX0
 have hB1 : Below w.heap.size w w1 := hB0.trans (hb1.mono (by omega))
 have hs1 : w.heap.size < w1.heap.size := Nat.lt_of_lt_of_le hs0 hb1.size
 clear hX0 hB0 hs0 hb1
 have hI := Issue_any ⟨1, []⟩ none 0 0 7 shS w1 (.inl ⟨rfl, rfl, rfl⟩) (hG.below hB1) ⟨by decide, by decide⟩
 rw [sh1] at hI
 go_wp2_with fail
 refine hI.mono ?_
 rintro e w2 ⟨v2, rfl, ⟨a2, len2, cap2, rfl, hg2, -⟩, hb2⟩
 clear hI
 obtain ⟨W2, hW2, hB2, hX2, hZ2, hs2, hg2', hB2'⟩ := grow_keep (cs := #[.int .u64 shG.next, .slice a2 len2 cap2]) (t := 49) hB1 hb2 hX1 hs1 hg2
 have c0 := cCc hZ2 0
 have c1 := cCc hZ2 1
 simp at c0 c1
 have hR := Revoke_any shG a2 len2 cap2 1 W2 hg2' (hG.below hB2)
 rw [sh2] at hR
 clear hb2 hg2 hX1 hB1 hs1
 go_wp2_with fail
 refine hR.mono ?_
 rintro e w3 ⟨v3, rfl, ⟨a3, len3, cap3, rfl, hg3, -⟩, hb3⟩
 clear hR hW2 c0 c1
 obtain ⟨W3, hW3, hB3, hX3, hZ3, hs3, hg3', hB3'⟩ := grow_keep (cs := #[.int .u64 2, .slice a3 len3 cap3]) (t := 49) hB2 hb3 hZ2 hs2 hg3
 have hY3 : W3.heap[w.heap.size]? = some (.cells #[.string ⟨#[97]⟩, .string ⟨#[120]⟩] 70 (0, 0)) := (hB3'.block _ (Array.getElem?_eq_some_iff.1 hX2).1).trans hX2
 have hg : Grs W3.heap.size W3 (.slice a2 len2 cap2) shG.l := (SlAt.below hB3' hg2').mono hB3'.size
 have hA3 : ShAt w w2.heap.size w3.heap.size a2 len2 cap2 a3 len3 cap3 W3 := ⟨hB3, hX3, hZ3, hY3, hg, hg3'⟩
 clear hb3 hg3 hB2 hX2 hZ2 hs2 hg2' hB2' hB3 hX3 hZ3 hs3 hg3' hB3' hY3 hg
 have c0 := cCc hA3.hX 0
 have c1 := cCc hA3.hX 1
 simp at c0 c1
 have hM1 := May_any shG a2 len2 cap2 7 (some ⟨w.heap.size, 0, none⟩) 1 [shK] W3 hA3.hg (labs_new w shL hA3.hY) (hG.below hA3.below) (by decide)
 have e1 : mayS shG 7 ([shK].map (·.1)) = true := sh3
 rw [e1] at hM1
 go_wp2_with fail
 refine hM1.mono ?_
 rintro e w4 ⟨rfl, hb4⟩
 clear hW3 hM1 c0 c1 e1
 have hA4 := hA3.go hb4
 clear hb4 hA3
 have c0 := cCc hA4.hX 0
 have c1 := cCc hA4.hX 1
 simp at c0 c1
 have hM2 := May_any shG a2 len2 cap2 8 (some ⟨w.heap.size, 0, none⟩) 1 [shK] w4 hA4.hg (labs_new w shL hA4.hY) (hG.below hA4.below) (by decide)
 have e1 : mayS shG 8 ([shK].map (·.1)) = false := sh4
 rw [e1] at hM2
 go_wp2_with fail
 refine hM2.mono ?_
 rintro e w5 ⟨rfl, hb5⟩
 clear hM2 c0 c1 e1
 have hA5 := hA4.go hb5
 clear hb5 hA4
 have c0 := cCc hA5.hX 0
 have c1 := cCc hA5.hX 1
 simp at c0 c1
 obtain ⟨W6, hW6⟩ : ∃ W6, w5.alloc (.cells #[.string ⟨#[97]⟩, .string ⟨#[121]⟩] 70) = W6 := ⟨_, rfl⟩
 have hA6 : ShAt w w2.heap.size w3.heap.size a2 len2 cap2 a3 len3 cap3 W6 := by rw [← hW6]; exact hA5.go ((Below.refl _ _).alloc (Nat.le_refl _) _)
 have hV6 : W6.heap[w5.heap.size]? = some (.cells #[.string ⟨#[97]⟩, .string ⟨#[121]⟩] 70 (0, 0)) := by rw [← hW6]; exact World.alloc_heap_new w5 _
 have hM3 := May_any shG a2 len2 cap2 7 (some ⟨w5.heap.size, 0, none⟩) 1 [shKM] W6 hA6.hg (labs_new w5 shM hV6) (hG.below hA6.below) (by decide)
 have e1 : mayS shG 7 ([shKM].map (·.1)) = false := sh5
 rw [e1] at hM3
 go_wp2_with fail
 refine hM3.mono ?_
 rintro e w7 ⟨rfl, hb7⟩
 clear hM3 c0 c1 e1 hW6
 have hA7 := hA6.go hb7
 clear hb7 hA6 hA5
 have c0 := cCc hA7.hZ 0
 have c1 := cCc hA7.hZ 1
 simp at c0 c1
 have hM4 := May_any ⟨2, []⟩ a3 len3 cap3 7 (some ⟨w.heap.size, 0, none⟩) 1 [shK] w7 hA7.hh (labs_new w shL hA7.hY) (hG.below hA7.below) (by decide)
 have e1 : mayS ⟨2, []⟩ 7 ([shK].map (·.1)) = false := sh6
 rw [e1] at hM4
 go_wp2_with fail
 refine hM4.mono ?_
 rintro e w8 ⟨rfl, hb8⟩
 have hA8 := hA7.go hb8
 clear hM4 c0 c1 e1 hb8 hA7
 go_wp2_with fail
 go_ret
 exact ⟨rfl, hA8.below⟩
end Go.Proofs.YthbhmnakmhambaaGreatDoor

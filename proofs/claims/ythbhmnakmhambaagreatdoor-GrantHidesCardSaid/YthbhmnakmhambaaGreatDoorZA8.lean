/- A region that draws its order and whose last operation stands behind all others. Of no program. -/
import Derived.Test.YthbhmnakmhambaaGreatDoorZA9
namespace Go.Proofs.YthbhmnakmhambaaGreatDoor
open Go Go.RowKit
section
variable {P : Program} {pre : Array Oper} {o : Oper} {Q : Exit → Act → World → Prop} {md : Region.Mode}
def lastB (md : Region.Mode) (pre : Array Oper) (o : Oper) : Bool :=
 o.guard.isNone && pre.toList.all (·.guard.isNone) &&
 (List.range pre.size).all (fun j => o.after.toList.any fun e => Region.binds md e && e.on == j) &&
 o.after.toList.all (fun e => !Region.binds md e || decide (e.on < pre.size)) &&
 (List.range pre.size).all (fun i => ((pre[i]?).map fun p => p.after.toList.all fun e => !Region.binds md e || decide (e.on < i)).getD true)
def lastQ (P : Program) (o : Oper) (Q : Exit → Act → World → Prop) : Exit → Act → World → Prop
 | .normal, a, w => o.wp P a w (fun a' w' => Q .normal a' w') Q
 | e, a, w => Q e a w
theorem wp_monoQ {o' : Oper} {a : Act} {w : World} {K : Act → World → Prop} (h : o'.wp P a w K (lastQ P o Q)) : o'.wp P a w K Q := by
 unfold Oper.wp at *
 generalize (execOp a.eval o').run P w = r at *
 cases r with
 | ok n w' =>
  cases n <;> simp only [Oper.upon] at h ⊢ <;>
   first
    | exact h
    | exact Calls.mono h (fun e w'' he => by cases e <;> first | exact he | exact (let ⟨a, w, hq⟩ := he; ⟨a, w, hq⟩))
 | halt x w' => cases x <;> simp only [Oper.upon] at h ⊢ <;> exact h
theorem ready_mem {ops : Array Oper} {L : Array Bool} {i : Nat} : i ∈ Region.ready md ops L ↔ i < ops.size ∧ L.getD i true = false ∧ ∃ p, ops[i]? = some p ∧ ∀ e ∈ p.after, Region.binds md e = true → L.getD e.on false = true := by
 unfold Region.ready
 rw [List.mem_filter, List.mem_range]
 constructor
 ·rintro ⟨h1, h2⟩
  rw [Bool.and_eq_true] at h2
  refine ⟨h1, by simpa using h2.1, ops[i], Array.getElem?_eq_getElem h1, ?_⟩
  have h3 := h2.2
  rw [Array.getElem?_eq_getElem h1] at h3
  simp only [Option.map_some, Option.getD_some] at h3
  rw [Array.all_eq_true_iff_forall_mem] at h3
  intro e he hb
  have := h3 e he
  simpa [hb] using this
 ·rintro ⟨h1, h2, p, hp, h3⟩
  refine ⟨h1, ?_⟩
  rw [Bool.and_eq_true]
  refine ⟨by simp [h2], ?_⟩
  rw [hp]
  simp only [Option.map_some, Option.getD_some]
  rw [Array.all_eq_true_iff_forall_mem]
  intro e he
  cases hb : Region.binds md e
  ·rfl
  ·simpa using h3 e he hb
structure LastOk (md : Region.Mode) (pre : Array Oper) (o : Oper) : Prop where
 go : o.guard = none
 gp : ∀ (i : Nat) p, pre[i]? = some p → p.guard = none
 last : ∀ j, j < pre.size → ∃ e ∈ o.after, Region.binds md e = true ∧ e.on = j
 lt : ∀ e ∈ o.after, Region.binds md e = true → e.on < pre.size
 lex : ∀ (i : Nat) p, pre[i]? = some p → ∀ e ∈ p.after, Region.binds md e = true → e.on < i
theorem lastB_ok (h : lastB md pre o = true) : LastOk md pre o := by
 simp only [lastB, Bool.and_eq_true, List.all_eq_true, List.any_eq_true, List.mem_range] at h
 obtain ⟨⟨⟨⟨h1, h2⟩, h3⟩, h4⟩, h5⟩ := h
 refine ⟨by simpa using h1, fun i p hp => ?_, fun j hj => ?_, fun e he hb => ?_, fun i p hp e he hb => ?_⟩
 ·have := h2 p (by rw [← Array.getElem?_toList] at hp; exact List.mem_of_getElem? hp)
  simpa using this
 ·obtain ⟨e, he, hb, ho⟩ := h3 j hj
  exact ⟨e, by simpa using he, hb, by simpa using ho⟩
 ·have := h4 e (by simpa using he)
  simpa [hb] using this
 ·have hi := (Array.getElem?_eq_some_iff.1 hp).1
  have := h5 i hi
  rw [hp] at this
  simp only [Option.map_some, Option.getD_some, List.all_eq_true] at this
  have := this e (by simpa using he)
  simpa [hb] using this
theorem getD_push (L : Array Bool) (n : Nat) : (L.push false).getD n false = L.getD n false := by
 simp only [Array.getD_eq_getD_getElem?, Array.getElem?_push]
 split
 ·rename_i h; subst h; simp
 ·rfl
theorem ready_nil {L : Array Bool} (hk : LastOk md pre o) (hL : L.size = pre.size) (h : Region.ready md pre L = []) : ∀ j, j < pre.size → L.getD j false = true := by
 intro j
 induction j using Nat.strongRecOn with
 | ind j ih =>
  intro hj
  cases hv : L.getD j false with
  | true => rfl
  | false =>
   exfalso
   have hm : j ∈ Region.ready md pre L := ready_mem.2 ⟨hj, by
    have hjl : j < L.size := by omega
    simp only [Array.getD_eq_getD_getElem?, Array.getElem?_eq_getElem hjl, Option.getD_some] at hv ⊢
    exact hv, pre[j], Array.getElem?_eq_getElem hj, fun e he hb => ih e.on (hk.lex j _ (Array.getElem?_eq_getElem hj) e he hb) (by have := hk.lex j _ (Array.getElem?_eq_getElem hj) e he hb; omega)⟩
   rw [h] at hm
   cases hm
theorem ready_sub {L : Array Bool} (hL : L.size = pre.size) {i : Nat} (h : i ∈ Region.ready md pre L) : i ∈ Region.ready md (pre.push o) (L.push false) := by
 obtain ⟨h1, h2, p, hp, h3⟩ := ready_mem.1 h
 refine ready_mem.2 ⟨by simp; omega, ?_, p, ?_, fun e he hb => by rw [getD_push]; exact h3 e he hb⟩
 ·have : i ≠ L.size := by omega
  simpa [Array.getD_eq_getD_getElem?, Array.getElem?_push, this] using h2
 ·rw [Array.getElem?_push, if_neg (by omega)]; exact hp
theorem ready_or {L : Array Bool} (hk : LastOk md pre o) (hL : L.size = pre.size) {i : Nat} (h : i ∈ Region.ready md (pre.push o) (L.push false)) :
  i ∈ Region.ready md pre L ∨ (i = pre.size ∧ ∀ j, j < pre.size → L.getD j false = true) := by
 obtain ⟨h1, h2, p, hp, h3⟩ := ready_mem.1 h
 by_cases hi : i = pre.size
 ·subst hi
  rw [Array.getElem?_push_size] at hp
  cases hp
  refine .inr ⟨rfl, fun j hj => ?_⟩
  obtain ⟨e, he, hb, rfl⟩ := hk.last j hj
  rw [← getD_push]
  exact h3 e he hb
 ·have hs : i < pre.size := by simp at h1; omega
  rw [Array.getElem?_push, if_neg hi] at hp
  refine .inl (ready_mem.2 ⟨hs, ?_, p, hp, fun e he hb => by rw [← getD_push]; exact h3 e he hb⟩)
  have : i ≠ L.size := by omega
  simpa [Array.getD_eq_getD_getElem?, Array.getElem?_push, this] using h2
theorem ready_all {ops : Array Oper} {L : Array Bool} (hL : L.size = ops.size) (h : ∀ j, j < ops.size → L.getD j false = true) : Region.ready md ops L = [] := by
 rw [List.eq_nil_iff_forall_not_mem]
 intro i hi
 obtain ⟨h1, h2, _⟩ := ready_mem.1 hi
 have h3 := h i h1
 have hjl : i < L.size := by omega
 simp only [Array.getD_eq_getD_getElem?, Array.getElem?_eq_getElem hjl, Option.getD_some] at h2 h3
 rw [h2] at h3
 cases h3
theorem wpAny_at_end {ops : Array Oper} {L : Array Bool} {a : Act} {w : World} (h : Region.ready md ops L = []) (hq : Q .normal a w) : ∀ fuel, wpAny P md ops Q fuel L a w
 | 0 => ⟨h, hq⟩
 | _ + 1 => ⟨fun _ => hq, fun i hi => by rw [h] at hi; cases hi⟩
theorem wpOp_last {K : Act → World → Prop} {a : Act} {w : World} (hk : LastOk md pre o) (hK : ∀ a w, Q .normal a w → K a w) (h : lastQ P o Q .normal a w) : wpOp P (pre.push o) Q pre.size K a w := by
 unfold wpOp
 rw [Array.getElem?_push_size]
 simp only [Region.wanted, hk.go, if_true]
 exact .inl (Oper.wp_mono hK h)
theorem wpAny_last (hk : LastOk md pre o) (fuel : Nat) : ∀ (L : Array Bool) (a : Act) (w : World), L.size = pre.size → wpAny P md pre (lastQ P o Q) fuel L a w → wpAny P md (pre.push o) Q (fuel + 1) (L.push false) a w := by
 have hne : ∀ L : Array Bool, L.size = pre.size → Region.ready md (pre.push o) (L.push false) ≠ [] := fun L hL h0 => by
  cases hr : Region.ready md pre L with
  | nil =>
   have hall := ready_nil hk hL hr
   have hm : pre.size ∈ Region.ready md (pre.push o) (L.push false) := ready_mem.2 ⟨by simp, by simp [Array.getD_eq_getD_getElem?, ← hL], o, Array.getElem?_push_size, fun e he hb => by rw [getD_push]; exact hall _ (hk.lt e he hb)⟩
   rw [h0] at hm; cases hm
  | cons i r =>
   have hm := ready_sub (o := o) hL (show i ∈ Region.ready md pre L by rw [hr]; exact List.mem_cons_self ..)
   rw [h0] at hm; cases hm
 have hend : ∀ (L : Array Bool), L.size = pre.size → (∀ j, j < pre.size → L.getD j false = true) → Region.ready md (pre.push o) ((L.push false).setIfInBounds pre.size true) = [] := fun L hL hall => by
  refine ready_all (by simp [hL]) (fun j hj => ?_)
  simp only [Array.getD_eq_getD_getElem?, Array.getElem?_setIfInBounds, Array.size_push]
  by_cases hjp : pre.size = j
  ·rw [if_pos hjp, if_pos (by omega)]; rfl
  ·rw [if_neg hjp]
   have := hall j (by simp at hj; omega)
   rw [← getD_push, Array.getD_eq_getD_getElem?] at this
   exact this
 induction fuel with
 | zero =>
  intro L a w hL h
  refine ⟨fun h0 => absurd h0 (hne L hL), fun i hi => ?_⟩
  rcases ready_or hk hL hi with h1 | ⟨rfl, hall⟩
  ·rw [h.1] at h1; cases h1
  ·exact wpOp_last hk (fun a w hq => wpAny_at_end (hend L hL hall) hq _) h.2
 | succ k ih =>
  intro L a w hL h
  refine ⟨fun h0 => absurd h0 (hne L hL), fun i hi => ?_⟩
  rcases ready_or hk hL hi with h1 | ⟨rfl, hall⟩
  ·have h2 := h.2 i h1
   obtain ⟨hs, _, p, hp, _⟩ := ready_mem.1 h1
   have hp' : (pre.push o)[i]? = some p := by rw [Array.getElem?_push, if_neg (by omega)]; exact hp
   unfold wpOp at h2 ⊢
   rw [hp] at h2
   rw [hp']
   simp only [Region.wanted, hk.gp i p hp, if_true] at h2 ⊢
   rcases h2 with h2 | ⟨h2, b, v, h3⟩
   ·refine .inl (Oper.wp_mono (fun a' w' h' => ?_) (wp_monoQ h2))
    have h4 := ih (L.setIfInBounds i true) a' w' (by simp [hL]) h'
    have e : (L.push false).setIfInBounds i true = (L.setIfInBounds i true).push false := by
     apply Array.ext_getElem?
     intro n
     simp only [Array.getElem?_setIfInBounds, Array.getElem?_push, Array.size_push, Array.size_setIfInBounds]
     by_cases h5 : i = n
     ·subst h5
      rw [if_pos rfl, if_pos (by omega), if_neg (by omega), if_pos rfl, if_pos (by omega)]
     ·simp [h5]
    rw [e]; exact h4
   ·exact .inr ⟨h2, b, v, h3⟩
  ·refine wpOp_last hk (fun a w hq => wpAny_at_end (hend L hL hall) hq _) (h.1 (ready_all hL hall))
end
theorem wp_region_class_last {P : Program} (Inv : World → Prop) {id : Nat} {Q : Exit → Act → World → Prop} {a : Act} {w : World} {l : List Oper} {o : Oper} (hm : P.follows .mixedOrders = true) (hB : Region.lexB .any l.toArray = true) (hb : lastB .any l.toArray o = true) (hC : Inv w.drew)
  (h : wpQuiet P l.toArray (fun w' => ∃ X : WIn Inv, w' = X.world) (fun a' => ∀ w', (∃ X : WIn Inv, w' = X.world) → o.wp P a' w' (fun a'' w'' => Q .normal a'' w'') Q) l a) : (Code.region id (l ++ [o]).toArray true).wp P Q a w := by
 refine wp_region_any hm ?_
 have hB' := hB
 simp only [Region.lexB, Bool.and_eq_true] at hB'
 have h1 := wpAnyQ_lex (C := fun w' => ∃ X : WIn Inv, w' = X.world) (md := .any) hB'.1 l 0 (Array.replicate l.toArray.size false) a (by simp) (by simpa using hB'.2) h
 have h2 := wpAny_of_quiet (Q' := lastQ P o Q) (fun a' w' hw' hh => hh w' hw') _ _ _ w.drew ⟨⟨_, hC⟩, rfl⟩ h1
 have h3 := wpAny_last (lastB_ok hb) _ _ _ _ (by simp) h2
 have e1 : (l ++ [o]).toArray = l.toArray.push o := by simp
 rw [e1]
 have e2 : Array.replicate (l.toArray.push o).size false = (Array.replicate l.toArray.size false).push false := by simp [Array.replicate_succ]
 rw [e2]
 simpa using h3
end Go.Proofs.YthbhmnakmhambaaGreatDoor

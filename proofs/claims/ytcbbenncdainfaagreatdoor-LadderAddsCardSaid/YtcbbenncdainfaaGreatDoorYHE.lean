/- aviarylaw06 .. 09: Few. A region that draws its order and whose last operation stands behind all others. Of no program. aviarylaw10.Few. Package hll: tell, done, blank, begin. Package hll: done, blank, begin. Package hll: begin, add. Package hll: Of, Add, Lower. -/
import Derived.StillTactics
import Derived.Laws.Rows
import Derived.Test.YtcbbenncdainfaaGreatDoorYXL
namespace Go.Proofs.YtcbbenncdainfaaGreatDoor
open Go Go.RowKit
theorem und_exact : Tryz.prog.underlying 24 = some (.struct (Tryz.prog.fieldsOf 24)) := by kernel_rfl
theorem size_exact : (Tryz.prog.info? 24).map (·.size) = some 1 := by kernel_rfl
theorem und_hll : Tryz.prog.underlying 26 = some (.struct (Tryz.prog.fieldsOf 26)) := by kernel_rfl
theorem size_hll : (Tryz.prog.info? 26).map (·.size) = some 2 := by kernel_rfl
theorem und_cms : Tryz.prog.underlying 28 = some (.struct (Tryz.prog.fieldsOf 28)) := by kernel_rfl
theorem size_cms : (Tryz.prog.info? 28).map (·.size) = some 3 := by kernel_rfl
theorem und_hist : Tryz.prog.underlying 31 = some (.struct (Tryz.prog.fieldsOf 31)) := by kernel_rfl
theorem size_hist : (Tryz.prog.info? 31).map (·.size) = some 2 := by kernel_rfl
theorem set_cells3 {W : World} {B : Nat} {x y z u v q : Value} {t : TypeId} (h : W.heap[B]? = some (.cells #[x, y, z] t (0, 0))) : (((W.setCell ⟨B, 0, none⟩ u).setCell ⟨B, 1, none⟩ v).setCell ⟨B, 2, none⟩ q).heap[B]? = some (.cells #[u, v, q] t (0, 0)) := hSk (hSk (hSk h u) v) q
theorem min_nat (len n : Nat) : (min (len : Int) n).toNat = min len n := by omega
set_option maxRecDepth 100000 in
set_option maxHeartbeats 1000000 in
theorem few06_any (a : Option Addr) (len cap : Nat) (w : World) (hc : len ≤ cap) :
  Calls Tryz.prog 27 #[.agg #[.slice a len cap]] w fun e w' => e = .returned (.agg #[.slice a (min len 70) cap]) ∧ Below w.heap.size w w' := by
 obtain ⟨W0, hW0, hX0, hB0, hs0⟩ := boxes1 w #[.slice a len cap] 24
 have c0 : W0.cell? ⟨w.heap.size, 0, none⟩ = some (.slice a len cap) := cCc hX0 0
 have HM := Lib.hid (min_nat len 70)
 go_enter Tryz.func27, Tryz.ntmps27
 go_wp2_with fail
 refine bodyPost_ret (results_cell_row rfl _ _ (w.heap.size + 1) 24 #[.slice a (min (len : Int) 70).toNat cap] (0, 0) _ rfl (by rw [← hs0]; exact World.alloc_heap_new _ _) und_exact rfl size_exact) rfl ⟨by rw [← HM.out]; rfl, hB0.alloc hB0.size _⟩
set_option maxRecDepth 100000 in
set_option maxHeartbeats 1000000 in
theorem few07_any (b : Int) (s : ByteArray) (w : World) :
  Calls Tryz.prog 28 #[.agg #[.int .i64 b, .string s]] w fun e w' => e = .returned (.agg #[.int .i64 b, .string (cutN 260 s)]) ∧ Below w.heap.size w w' := by
 obtain ⟨W0, hW0, hX0, hX1, hB0, hs0⟩ := boxes2 w #[.int .i64 b, .string s] 26 #[.int .i64 0, .string ⟨#[]⟩] 26
 obtain ⟨c0, c1⟩ := cl2 hX0
 have d0 : W0.cell? ⟨w.heap.size + 1, 0, none⟩ = some (.int .i64 0) := cCc hX1 0
 have f0 : W0.frozen? ⟨w.heap.size + 1, 0, none⟩ = false := Lib.frozen_of_heap hX1 0
 have d1 : W0.cell? ⟨w.heap.size + 1, 1, none⟩ = some (.string ⟨#[]⟩) := cCc hX1 1
 have f1 : W0.frozen? ⟨w.heap.size + 1, 1, none⟩ = false := Lib.frozen_of_heap hX1 1
 have m1 : 0 ≤ min (s.size : Int) 260 := by omega
 have m2 : min (s.size : Int) 260 ≤ s.size := by omega
 go_enter Tryz.func28, Tryz.ntmps28
 go_wp2_with fail
 go_region
 go_wp2_with fail
 refine bodyPost_ret (results_cell_row rfl _ _ (w.heap.size + 1) 26 #[.int .i64 b, .string (s.extract 0 (min (s.size : Int) 260).toNat)] (0, 0) _ rfl (set_cells2 hX1) und_hll rfl size_hll) rfl ⟨rfl, Below.drew (((hB0.setCell (p := ⟨w.heap.size + 1, 0, none⟩) (Nat.le_succ _) _).setCell (p := ⟨w.heap.size + 1, 1, none⟩) (Nat.le_succ _) _))⟩
set_option maxRecDepth 100000 in
set_option maxHeartbeats 1000000 in
theorem few08_any (r c : Int) (a : Option Addr) (len cap : Nat) (w : World) (hc : len ≤ cap) :
  Calls Tryz.prog 29 #[.agg #[.int .i64 r, .int .i64 c, .slice a len cap]] w fun e w' => e = .returned (.agg #[.int .i64 r, .int .i64 c, .slice a (min len 200) cap]) ∧ Below w.heap.size w w' := by
 obtain ⟨W0, hW0, hX0, hX1, hB0, hs0⟩ := boxes2 w #[.int .i64 r, .int .i64 c, .slice a len cap] 28 #[.int .i64 0, .int .i64 0, .slice none 0 0] 28
 obtain ⟨c0, c1, c2⟩ := cl3 hX0
 have d0 : W0.cell? ⟨w.heap.size + 1, 0, none⟩ = some (.int .i64 0) := cCc hX1 0
 have f0 : W0.frozen? ⟨w.heap.size + 1, 0, none⟩ = false := Lib.frozen_of_heap hX1 0
 have d1 : W0.cell? ⟨w.heap.size + 1, 1, none⟩ = some (.int .i64 0) := cCc hX1 1
 have f1 : W0.frozen? ⟨w.heap.size + 1, 1, none⟩ = false := Lib.frozen_of_heap hX1 1
 have d2 : W0.cell? ⟨w.heap.size + 1, 2, none⟩ = some (.slice none 0 0) := cCc hX1 2
 have f2 : W0.frozen? ⟨w.heap.size + 1, 2, none⟩ = false := Lib.frozen_of_heap hX1 2
 have m1 : 0 ≤ min (len : Int) 200 := by omega
 have m2 : min (len : Int) 200 ≤ cap := by omega
 have HM := Lib.hid (min_nat len 200)
 go_enter Tryz.func29, Tryz.ntmps29
 go_wp2_with fail
 go_region
 go_wp2_with fail
 refine bodyPost_ret (results_cell_row rfl _ _ (w.heap.size + 1) 28 #[.int .i64 r, .int .i64 c, .slice a (min (len : Int) 200).toNat cap] (0, 0) _ rfl (set_cells3 hX1) und_cms rfl size_cms) rfl ⟨by rw [← HM.out]; rfl, Below.drew ((((hB0.setCell (p := ⟨w.heap.size + 1, 0, none⟩) (Nat.le_succ _) _).setCell (p := ⟨w.heap.size + 1, 1, none⟩) (Nat.le_succ _) _).setCell (p := ⟨w.heap.size + 1, 2, none⟩) (Nat.le_succ _) _))⟩
set_option maxRecDepth 100000 in
set_option maxHeartbeats 1000000 in
theorem few09_any (f : Int) (a : Option Addr) (len cap : Nat) (w : World) (hc : len ≤ cap) :
  Calls Tryz.prog 30 #[.agg #[.int .i64 f, .slice a len cap]] w fun e w' => e = .returned (.agg #[.int .i64 f, .slice a (min len 300) cap]) ∧ Below w.heap.size w w' := by
 obtain ⟨W0, hW0, hX0, hX1, hB0, hs0⟩ := boxes2 w #[.int .i64 f, .slice a len cap] 31 #[.int .i64 0, .slice none 0 0] 31
 obtain ⟨c0, c1⟩ := cl2 hX0
 have d0 : W0.cell? ⟨w.heap.size + 1, 0, none⟩ = some (.int .i64 0) := cCc hX1 0
 have f0 : W0.frozen? ⟨w.heap.size + 1, 0, none⟩ = false := Lib.frozen_of_heap hX1 0
 have d1 : W0.cell? ⟨w.heap.size + 1, 1, none⟩ = some (.slice none 0 0) := cCc hX1 1
 have f1 : W0.frozen? ⟨w.heap.size + 1, 1, none⟩ = false := Lib.frozen_of_heap hX1 1
 have m1 : 0 ≤ min (len : Int) 300 := by omega
 have m2 : min (len : Int) 300 ≤ cap := by omega
 have HM := Lib.hid (min_nat len 300)
 go_enter Tryz.func30, Tryz.ntmps30
 go_wp2_with fail
 go_region
 go_wp2_with fail
 refine bodyPost_ret (results_cell_row rfl _ _ (w.heap.size + 1) 31 #[.int .i64 f, .slice a (min (len : Int) 300).toNat cap] (0, 0) _ rfl (set_cells2 hX1) und_hist rfl size_hist) rfl ⟨by rw [← HM.out]; rfl, Below.drew (((hB0.setCell (p := ⟨w.heap.size + 1, 0, none⟩) (Nat.le_succ _) _).setCell (p := ⟨w.heap.size + 1, 1, none⟩) (Nat.le_succ _) _))⟩
end Go.Proofs.YtcbbenncdainfaaGreatDoor
namespace Go.Proofs.YtcbbenncdainfaaGreatDoor
open Go Go.RowKit
section
variable {P : Program} {pre : Array Oper} {o : Oper} {Q : Exit → Act → World → Prop} {md : Region.Mode}
def lastB (md : Region.Mode) (pre : Array Oper) (o : Oper) : Bool :=
 o.guard.isNone && pre.toList.all (·.guard.isNone) &&
 (List.range pre.size).all (fun j => o.after.toList.any fun e => Region.binds md e && e.on == j) &&
 o.after.toList.all (fun e => !Region.binds md e || decide (e.on < pre.size)) &&
 (List.range pre.size).all (fun i => ((pre[i]?).map fun p => p.after.toList.all fun e => !Region.binds md e || decide (e.on < i)).getD true)
def lastQ (P : Program) (o : Oper) (Q : Exit → Act → World → Prop) : Exit → Act → World → Prop
 | .normal, a, w => o.wp P a w (fun a' w' => Q .normal a' w') Q
 | e, a, w => Q e a w
theorem wp_monoQ {o' : Oper} {a : Act} {w : World} {K : Act → World → Prop} (h : o'.wp P a w K (lastQ P o Q)) : o'.wp P a w K Q := by
 unfold Oper.wp at *
 generalize (execOp a.eval o').run P w = r at *
 cases r with
 | ok n w' =>
  cases n <;> simp only [Oper.upon] at h ⊢ <;>
   first
    | exact h
    | exact Calls.mono h (fun e w'' he => by cases e <;> first | exact he | exact (let ⟨a, w, hq⟩ := he; ⟨a, w, hq⟩))
 | halt x w' => cases x <;> simp only [Oper.upon] at h ⊢ <;> exact h
theorem ready_mem {ops : Array Oper} {L : Array Bool} {i : Nat} : i ∈ Region.ready md ops L ↔ i < ops.size ∧ L.getD i true = false ∧ ∃ p, ops[i]? = some p ∧ ∀ e ∈ p.after, Region.binds md e = true → L.getD e.on false = true := by
 unfold Region.ready
 rw [List.mem_filter, List.mem_range]
 constructor
 ·rintro ⟨h1, h2⟩
  rw [Bool.and_eq_true] at h2
  refine ⟨h1, by simpa using h2.1, ops[i], Array.getElem?_eq_getElem h1, ?_⟩
  have h3 := h2.2
  rw [Array.getElem?_eq_getElem h1] at h3
  simp only [Option.map_some, Option.getD_some] at h3
  rw [Array.all_eq_true_iff_forall_mem] at h3
  intro e he hb
  have := h3 e he
  simpa [hb] using this
 ·rintro ⟨h1, h2, p, hp, h3⟩
  refine ⟨h1, ?_⟩
  rw [Bool.and_eq_true]
  refine ⟨by simp [h2], ?_⟩
  rw [hp]
  simp only [Option.map_some, Option.getD_some]
  rw [Array.all_eq_true_iff_forall_mem]
  intro e he
  cases hb : Region.binds md e
  ·rfl
  ·simpa using h3 e he hb
structure LastOk (md : Region.Mode) (pre : Array Oper) (o : Oper) : Prop where
 go : o.guard = none
 gp : ∀ (i : Nat) p, pre[i]? = some p → p.guard = none
 last : ∀ j, j < pre.size → ∃ e ∈ o.after, Region.binds md e = true ∧ e.on = j
 lt : ∀ e ∈ o.after, Region.binds md e = true → e.on < pre.size
 lex : ∀ (i : Nat) p, pre[i]? = some p → ∀ e ∈ p.after, Region.binds md e = true → e.on < i
theorem lastB_ok (h : lastB md pre o = true) : LastOk md pre o := by
 simp only [lastB, Bool.and_eq_true, List.all_eq_true, List.any_eq_true, List.mem_range] at h
 obtain ⟨⟨⟨⟨h1, h2⟩, h3⟩, h4⟩, h5⟩ := h
 refine ⟨by simpa using h1, fun i p hp => ?_, fun j hj => ?_, fun e he hb => ?_, fun i p hp e he hb => ?_⟩
 ·have := h2 p (by rw [← Array.getElem?_toList] at hp; exact List.mem_of_getElem? hp)
  simpa using this
 ·obtain ⟨e, he, hb, ho⟩ := h3 j hj
  exact ⟨e, by simpa using he, hb, by simpa using ho⟩
 ·have := h4 e (by simpa using he)
  simpa [hb] using this
 ·have hi := (Array.getElem?_eq_some_iff.1 hp).1
  have := h5 i hi
  rw [hp] at this
  simp only [Option.map_some, Option.getD_some, List.all_eq_true] at this
  have := this e (by simpa using he)
  simpa [hb] using this
theorem getD_push (L : Array Bool) (n : Nat) : (L.push false).getD n false = L.getD n false := by
 simp only [Array.getD_eq_getD_getElem?, Array.getElem?_push]
 split
 ·rename_i h; subst h; simp
 ·rfl
theorem ready_nil {L : Array Bool} (hk : LastOk md pre o) (hL : L.size = pre.size) (h : Region.ready md pre L = []) : ∀ j, j < pre.size → L.getD j false = true := by
 intro j
 induction j using Nat.strongRecOn with
 | ind j ih =>
  intro hj
  cases hv : L.getD j false with
  | true => rfl
  | false =>
   exfalso
   have hm : j ∈ Region.ready md pre L := ready_mem.2 ⟨hj, by
    have hjl : j < L.size := by omega
    simp only [Array.getD_eq_getD_getElem?, Array.getElem?_eq_getElem hjl, Option.getD_some] at hv ⊢
    exact hv, pre[j], Array.getElem?_eq_getElem hj, fun e he hb => ih e.on (hk.lex j _ (Array.getElem?_eq_getElem hj) e he hb) (by have := hk.lex j _ (Array.getElem?_eq_getElem hj) e he hb; omega)⟩
   rw [h] at hm
   cases hm
theorem ready_sub {L : Array Bool} (hL : L.size = pre.size) {i : Nat} (h : i ∈ Region.ready md pre L) : i ∈ Region.ready md (pre.push o) (L.push false) := by
 obtain ⟨h1, h2, p, hp, h3⟩ := ready_mem.1 h
 refine ready_mem.2 ⟨by simp; omega, ?_, p, ?_, fun e he hb => by rw [getD_push]; exact h3 e he hb⟩
 ·have : i ≠ L.size := by omega
  simpa [Array.getD_eq_getD_getElem?, Array.getElem?_push, this] using h2
 ·rw [Array.getElem?_push, if_neg (by omega)]; exact hp
theorem ready_or {L : Array Bool} (hk : LastOk md pre o) (hL : L.size = pre.size) {i : Nat} (h : i ∈ Region.ready md (pre.push o) (L.push false)) :
  i ∈ Region.ready md pre L ∨ (i = pre.size ∧ ∀ j, j < pre.size → L.getD j false = true) := by
 obtain ⟨h1, h2, p, hp, h3⟩ := ready_mem.1 h
 by_cases hi : i = pre.size
 ·subst hi
  rw [Array.getElem?_push_size] at hp
  cases hp
  refine .inr ⟨rfl, fun j hj => ?_⟩
  obtain ⟨e, he, hb, rfl⟩ := hk.last j hj
  rw [← getD_push]
  exact h3 e he hb
 ·have hs : i < pre.size := by simp at h1; omega
  rw [Array.getElem?_push, if_neg hi] at hp
  refine .inl (ready_mem.2 ⟨hs, ?_, p, hp, fun e he hb => by rw [← getD_push]; exact h3 e he hb⟩)
  have : i ≠ L.size := by omega
  simpa [Array.getD_eq_getD_getElem?, Array.getElem?_push, this] using h2
theorem ready_all {ops : Array Oper} {L : Array Bool} (hL : L.size = ops.size) (h : ∀ j, j < ops.size → L.getD j false = true) : Region.ready md ops L = [] := by
 rw [List.eq_nil_iff_forall_not_mem]
 intro i hi
 obtain ⟨h1, h2, _⟩ := ready_mem.1 hi
 have h3 := h i h1
 have hjl : i < L.size := by omega
 simp only [Array.getD_eq_getD_getElem?, Array.getElem?_eq_getElem hjl, Option.getD_some] at h2 h3
 rw [h2] at h3
 cases h3
theorem wpAny_at_end {ops : Array Oper} {L : Array Bool} {a : Act} {w : World} (h : Region.ready md ops L = []) (hq : Q .normal a w) : ∀ fuel, wpAny P md ops Q fuel L a w
 | 0 => ⟨h, hq⟩
 | _ + 1 => ⟨fun _ => hq, fun i hi => by rw [h] at hi; cases hi⟩
theorem wpOp_last {K : Act → World → Prop} {a : Act} {w : World} (hk : LastOk md pre o) (hK : ∀ a w, Q .normal a w → K a w) (h : lastQ P o Q .normal a w) : wpOp P (pre.push o) Q pre.size K a w := by
 unfold wpOp
 rw [Array.getElem?_push_size]
 simp only [Region.wanted, hk.go, if_true]
 exact .inl (Oper.wp_mono hK h)
theorem wpAny_last (hk : LastOk md pre o) (fuel : Nat) : ∀ (L : Array Bool) (a : Act) (w : World), L.size = pre.size → wpAny P md pre (lastQ P o Q) fuel L a w → wpAny P md (pre.push o) Q (fuel + 1) (L.push false) a w := by
 have hne : ∀ L : Array Bool, L.size = pre.size → Region.ready md (pre.push o) (L.push false) ≠ [] := fun L hL h0 => by
  cases hr : Region.ready md pre L with
  | nil =>
   have hall := ready_nil hk hL hr
   have hm : pre.size ∈ Region.ready md (pre.push o) (L.push false) := ready_mem.2 ⟨by simp, by simp [Array.getD_eq_getD_getElem?, ← hL], o, Array.getElem?_push_size, fun e he hb => by rw [getD_push]; exact hall _ (hk.lt e he hb)⟩
   rw [h0] at hm; cases hm
  | cons i r =>
   have hm := ready_sub (o := o) hL (show i ∈ Region.ready md pre L by rw [hr]; exact List.mem_cons_self ..)
   rw [h0] at hm; cases hm
 have hend : ∀ (L : Array Bool), L.size = pre.size → (∀ j, j < pre.size → L.getD j false = true) → Region.ready md (pre.push o) ((L.push false).setIfInBounds pre.size true) = [] := fun L hL hall => by
  refine ready_all (by simp [hL]) (fun j hj => ?_)
  simp only [Array.getD_eq_getD_getElem?, Array.getElem?_setIfInBounds, Array.size_push]
  by_cases hjp : pre.size = j
  ·rw [if_pos hjp, if_pos (by omega)]; rfl
  ·rw [if_neg hjp]
   have := hall j (by simp at hj; omega)
   rw [← getD_push, Array.getD_eq_getD_getElem?] at this
   exact this
 induction fuel with
 | zero =>
  intro L a w hL h
  refine ⟨fun h0 => absurd h0 (hne L hL), fun i hi => ?_⟩
  rcases ready_or hk hL hi with h1 | ⟨rfl, hall⟩
  ·rw [h.1] at h1; cases h1
  ·exact wpOp_last hk (fun a w hq => wpAny_at_end (hend L hL hall) hq _) h.2
 | succ k ih =>
  intro L a w hL h
  refine ⟨fun h0 => absurd h0 (hne L hL), fun i hi => ?_⟩
  rcases ready_or hk hL hi with h1 | ⟨rfl, hall⟩
  ·have h2 := h.2 i h1
   obtain ⟨hs, _, p, hp, _⟩ := ready_mem.1 h1
   have hp' : (pre.push o)[i]? = some p := by rw [Array.getElem?_push, if_neg (by omega)]; exact hp
   unfold wpOp at h2 ⊢
   rw [hp] at h2
   rw [hp']
   simp only [Region.wanted, hk.gp i p hp, if_true] at h2 ⊢
   rcases h2 with h2 | ⟨h2, b, v, h3⟩
   ·refine .inl (Oper.wp_mono (fun a' w' h' => ?_) (wp_monoQ h2))
    have h4 := ih (L.setIfInBounds i true) a' w' (by simp [hL]) h'
    have e : (L.push false).setIfInBounds i true = (L.setIfInBounds i true).push false := by
     apply Array.ext_getElem?
     intro n
     simp only [Array.getElem?_setIfInBounds, Array.getElem?_push, Array.size_push, Array.size_setIfInBounds]
     by_cases h5 : i = n
     ·subst h5
      rw [if_pos rfl, if_pos (by omega), if_neg (by omega), if_pos rfl, if_pos (by omega)]
     ·simp [h5]
    rw [e]; exact h4
   ·exact .inr ⟨h2, b, v, h3⟩
  ·refine wpOp_last hk (fun a w hq => wpAny_at_end (hend L hL hall) hq _) (h.1 (ready_all hL hall))
end
theorem wp_region_class_last {P : Program} (Inv : World → Prop) {id : Nat} {Q : Exit → Act → World → Prop} {a : Act} {w : World} {l : List Oper} {o : Oper} (hm : P.follows .mixedOrders = true) (hB : Region.lexB .any l.toArray = true) (hb : lastB .any l.toArray o = true) (hC : Inv w.drew)
  (h : wpQuiet P l.toArray (fun w' => ∃ X : WIn Inv, w' = X.world) (fun a' => ∀ w', (∃ X : WIn Inv, w' = X.world) → o.wp P a' w' (fun a'' w'' => Q .normal a'' w'') Q) l a) : (Code.region id (l ++ [o]).toArray true).wp P Q a w := by
 refine wp_region_any hm ?_
 have hB' := hB
 simp only [Region.lexB, Bool.and_eq_true] at hB'
 have h1 := wpAnyQ_lex (C := fun w' => ∃ X : WIn Inv, w' = X.world) (md := .any) hB'.1 l 0 (Array.replicate l.toArray.size false) a (by simp) (by simpa using hB'.2) h
 have h2 := wpAny_of_quiet (Q' := lastQ P o Q) (fun a' w' hw' hh => hh w' hw') _ _ _ w.drew ⟨⟨_, hC⟩, rfl⟩ h1
 have h3 := wpAny_last (lastB_ok hb) _ _ _ _ (by simp) h2
 have e1 : (l ++ [o]).toArray = l.toArray.push o := by simp
 rw [e1]
 have e2 : Array.replicate (l.toArray.push o).size false = (Array.replicate l.toArray.size false).push false := by simp [Array.replicate_succ]
 rw [e2]
 simpa using h3
end Go.Proofs.YtcbbenncdainfaaGreatDoor
namespace Go.Proofs.YtcbbenncdainfaaGreatDoor
open Go Go.RowKit
def Sk.cut (x : Sk) : Sk := { x with e := x.e.take 70, hr := cutN 260 x.hr, cl := x.cl.take 200, gl := x.gl.take 300 }
def SS.cut (s : SS) : SS := { s with el := min s.el 70, cl := min s.cl 200, gl := min s.gl 300 }
theorem SlC.take_min {α : Type} {enc : α → List Value} {k n₀ : Nat} {w : World} {a : Option Addr} {len cap : Nat} {l : List α} (h : SlC enc k n₀ w a len cap l) (m : Nat) : SlC enc k n₀ w a (min len m) cap (l.take m) := by
 have h1 := h.take (min len m) (Nat.min_le_left _ _)
 have h2 : l.take (min len m) = l.take m := by rw [h.1.1, Nat.min_comm]; exact List.take_eq_take_min.symm
 rwa [h2] at h1
theorem SS.At.cut {s : SS} {n : Nat} {w : World} {x : Sk} (h : s.At n w x) : s.cut.At n w x.cut := ⟨h.e.take_min 70, h.c.take_min 200, h.g.take_min 300⟩
theorem wp_region_class_lit {P : Program} (Inv : World → Prop) {id : Nat} {Q : Exit → Act → World → Prop} {a : Act} {w : World} {L l : List Oper} {o : Oper} (hl : L = l ++ [o]) (hm : P.follows .mixedOrders = true) (hB : Region.lexB .any l.toArray = true) (hb : lastB .any l.toArray o = true) (hC : Inv w.drew)
  (h : wpQuiet P l.toArray (fun w' => ∃ X : WIn Inv, w' = X.world) (fun a' => ∀ w', (∃ X : WIn Inv, w' = X.world) → o.wp P a' w' (fun a'' w'' => Q .normal a'' w'') Q) l a) : (Code.region id L.toArray true).wp P Q a w := by
 subst hl
 exact wp_region_class_last Inv hm hB hb hC h
theorem und_sketch : Tryz.prog.underlying 33 = some (.struct (Tryz.prog.fieldsOf 33)) := by kernel_rfl
theorem size_sketch : (Tryz.prog.info? 33).map (·.size) = some 10 := by kernel_rfl
structure FewIn (x : Sk) (s : SS) (w W : World) : Prop where
 box : W.heap[w.heap.size]? = some (.cells #[.int .i64 x.kind, .int .i64 x.level, .slice s.ea s.el s.ec, .int .i64 x.hb, .string x.hr, .int .i64 x.cr, .int .i64 x.cc, .slice s.ca s.cl s.cc, .int .i64 x.gf, .slice s.ga s.gl s.gc] 33 (0, 0))
 res : W.heap[w.heap.size + 1]? = some (.cells #[.int .i64 0, .int .i64 0, .slice none 0 0, .int .i64 0, .string ⟨#[]⟩, .int .i64 0, .int .i64 0, .slice none 0 0, .int .i64 0, .slice none 0 0] 33 (0, 0))
 below : Below w.heap.size w W
theorem FewIn.go {x : Sk} {s : SS} {w W W' : World} (h : FewIn x s w W) (hb : Below W.heap.size W W') : FewIn x s w W' := ⟨known hb (Nat.le_refl _) h.box, known hb (Nat.le_refl _) h.res, h.below.trans (hb.mono h.below.size)⟩
set_option maxRecDepth 100000 in
set_option maxHeartbeats 2000000 in
theorem few10_any (x : Sk) (s : SS) (w : World) (h : s.At w.heap.size w x) :
  Calls Tryz.prog 6 #[skVal x s] w fun e w' => e = .returned (skVal x.cut s.cut) ∧ Below w.heap.size w w' := by
 have he := h.e.2.1
 have hc := h.c.2.1
 have hg := h.g.2.1
 unfold skVal
 obtain ⟨W0, hW0, hX0, hX1, hB0, hs0⟩ := boxes2 w #[.int .i64 x.kind, .int .i64 x.level, .slice s.ea s.el s.ec, .int .i64 x.hb, .string x.hr, .int .i64 x.cr, .int .i64 x.cc, .slice s.ca s.cl s.cc, .int .i64 x.gf, .slice s.ga s.gl s.gc] 33 #[.int .i64 0, .int .i64 0, .slice none 0 0, .int .i64 0, .string ⟨#[]⟩, .int .i64 0, .int .i64 0, .slice none 0 0, .int .i64 0, .slice none 0 0] 33
 have hI : FewIn x s w W0 := ⟨hX0, hX1, hB0⟩
 let Inv : World → Prop := FewIn x s w
 have hgo : ∀ W W', Inv W → Below W.heap.size W W' → Inv W' := fun W W' h hb => FewIn.go h hb
 have q0 : ∀ X : WIn Inv, X.world.cell? ⟨w.heap.size, 0, none⟩ = some (.int .i64 x.kind) := fun X => cCc X.ok.box 0
 have q1 : ∀ X : WIn Inv, X.world.cell? ⟨w.heap.size, 1, none⟩ = some (.int .i64 x.level) := fun X => cCc X.ok.box 1
 have q2 : ∀ X : WIn Inv, X.world.cell? ⟨w.heap.size, 2, none⟩ = some (.slice s.ea s.el s.ec) := fun X => cCc X.ok.box 2
 have q3 : ∀ X : WIn Inv, X.world.cell? ⟨w.heap.size, 3, none⟩ = some (.int .i64 x.hb) := fun X => cCc X.ok.box 3
 have q4 : ∀ X : WIn Inv, X.world.cell? ⟨w.heap.size, 4, none⟩ = some (.string x.hr) := fun X => cCc X.ok.box 4
 have q5 : ∀ X : WIn Inv, X.world.cell? ⟨w.heap.size, 5, none⟩ = some (.int .i64 x.cr) := fun X => cCc X.ok.box 5
 have q6 : ∀ X : WIn Inv, X.world.cell? ⟨w.heap.size, 6, none⟩ = some (.int .i64 x.cc) := fun X => cCc X.ok.box 6
 have q7 : ∀ X : WIn Inv, X.world.cell? ⟨w.heap.size, 7, none⟩ = some (.slice s.ca s.cl s.cc) := fun X => cCc X.ok.box 7
 have q8 : ∀ X : WIn Inv, X.world.cell? ⟨w.heap.size, 8, none⟩ = some (.int .i64 x.gf) := fun X => cCc X.ok.box 8
 have q9 : ∀ X : WIn Inv, X.world.cell? ⟨w.heap.size, 9, none⟩ = some (.slice s.ga s.gl s.gc) := fun X => cCc X.ok.box 9
 have K6 : Hid (∀ X : WIn Inv, Calls Tryz.prog 27 #[.agg #[.slice s.ea s.el s.ec]] X.world fun e w' => e = .returned (.agg #[.slice s.ea (min s.el 70) s.ec]) ∧ ∃ Y : WIn Inv, w' = Y.world) := fun X => calls_class_below hgo (few06_any _ _ _ X.world he)
 have K7 : Hid (∀ X : WIn Inv, Calls Tryz.prog 28 #[.agg #[.int .i64 x.hb, .string x.hr]] X.world fun e w' => e = .returned (.agg #[.int .i64 x.hb, .string (cutN 260 x.hr)]) ∧ ∃ Y : WIn Inv, w' = Y.world) := fun X => calls_class_below hgo (few07_any _ _ X.world)
 have K8 : Hid (∀ X : WIn Inv, Calls Tryz.prog 29 #[.agg #[.int .i64 x.cr, .int .i64 x.cc, .slice s.ca s.cl s.cc]] X.world fun e w' => e = .returned (.agg #[.int .i64 x.cr, .int .i64 x.cc, .slice s.ca (min s.cl 200) s.cc]) ∧ ∃ Y : WIn Inv, w' = Y.world) := fun X => calls_class_below hgo (few08_any _ _ _ _ _ X.world hc)
 have K9 : Hid (∀ X : WIn Inv, Calls Tryz.prog 30 #[.agg #[.int .i64 x.gf, .slice s.ga s.gl s.gc]] X.world fun e w' => e = .returned (.agg #[.int .i64 x.gf, .slice s.ga (min s.gl 300) s.gc]) ∧ ∃ Y : WIn Inv, w' = Y.world) := fun X => calls_class_below hgo (few09_any _ _ _ _ X.world hg)
 have hfin : Hid (∀ X : WIn Inv, FewIn x s w X.world) := fun X => X.ok
 have hI0 : Hid (Inv W0.drew) := hI.go (Below.refl _ _).drew
 have hne : Nonempty (WIn Inv) := ⟨⟨_, hI0.out⟩⟩
 clear h hI hgo hX0 hX1 hB0 hs0
 clear_value Inv
 go_enter Tryz.func6, Tryz.ntmps6
 go_wp2_with fail
 refine wp_region_class_lit Inv (l := [_, _, _, _, _, _, _, _, _, _, _, _, _, _, _, _, _]) (o := _) rfl (by kernel_rfl) (by kernel_rfl) (by kernel_rfl) hI0.out ?_
 repeat (first | go_big_quiet_step ((first | (go_at_call 27; with_reducible exact K6.out _) | (go_at_call 28; with_reducible exact K7.out _) | (go_at_call 29; with_reducible exact K8.out _) | (go_at_call 30; with_reducible exact K9.out _))) | quiet_step ((first | (go_at_call 27; with_reducible exact K6.out _) | (go_at_call 28; with_reducible exact K7.out _) | (go_at_call 29; with_reducible exact K8.out _) | (go_at_call 30; with_reducible exact K9.out _))))
 refine wpQuiet_nil ?_
 rintro _ ⟨X, rfl⟩
 have hF := hfin.out X
 have hres := hF.res
 have hbel := hF.below
 generalize X.world = W at hres hbel
 clear hF hfin hI0 hne K6 K7 K8 K9 q0 q1 q2 q3 q4 q5 q6 q7 q8 q9 hW0
 obtain ⟨d0, d1, d2, d3, d4, d5, d6, d7, d8, d9⟩ := cl10 hres
 obtain ⟨f0, f1, f2, f3, f4, f5, f6, f7, f8, f9⟩ := cz10 hres
 go_wp2_with fail
 refine bodyPost_ret (results_cell_row rfl _ _ (w.heap.size + 1) 33 #[.int .i64 x.kind, .int .i64 x.level, .slice s.ea (min s.el 70) s.ec, .int .i64 x.hb, .string (cutN 260 x.hr), .int .i64 x.cr, .int .i64 x.cc, .slice s.ca (min s.cl 200) s.cc, .int .i64 x.gf, .slice s.ga (min s.gl 300) s.gc] (0, 0) _ rfl (set10 hres) und_sketch rfl size_sketch) rfl ⟨rfl, ((((((((((hbel.setCell (p := ⟨w.heap.size + 1, 0, none⟩) (Nat.le_succ _) _).setCell (p := ⟨w.heap.size + 1, 1, none⟩) (Nat.le_succ _) _).setCell (p := ⟨w.heap.size + 1, 2, none⟩) (Nat.le_succ _) _).setCell (p := ⟨w.heap.size + 1, 3, none⟩) (Nat.le_succ _) _).setCell (p := ⟨w.heap.size + 1, 4, none⟩) (Nat.le_succ _) _).setCell (p := ⟨w.heap.size + 1, 5, none⟩) (Nat.le_succ _) _).setCell (p := ⟨w.heap.size + 1, 6, none⟩) (Nat.le_succ _) _).setCell (p := ⟨w.heap.size + 1, 7, none⟩) (Nat.le_succ _) _).setCell (p := ⟨w.heap.size + 1, 8, none⟩) (Nat.le_succ _) _).setCell (p := ⟨w.heap.size + 1, 9, none⟩) (Nat.le_succ _) _)⟩
end Go.Proofs.YtcbbenncdainfaaGreatDoor
namespace Go.Proofs.YtcbbenncdainfaaGreatDoor
open Go Go.RowKit Go.Shelf
theorem gb_set (W : World) (b o : Nat) (v : Value) : W.grownBy (W.setCell ⟨b, o, none⟩ v) (some b) :=
 ⟨rfl, rfl, rfl, (KeepsWalks.setCell W _ v).size, fun k _ hk => Below.heap_setCell _ _ _ k (fun e => hk (by rw [e]))⟩
theorem gb_drew {W V : World} {row : Option Nat} (h : W.grownBy V row) : W.grownBy V.drew row := ⟨h.os, h.tape, h.output, h.size, h.block⟩
set_option maxRecDepth 100000 in
set_option maxHeartbeats 1000000 in
theorem tell_any (bt : Int) (s : ByteArray) (g len cap p k : Nat) (r : List Nat) (w : World) (hr : RegsAt w g r) (hp : p < r.length) (hl : r.length = len) :
  Calls Tryz.prog 151 #[.agg #[.int .i64 bt, .string s, .slice (some ⟨g, 0, none⟩) len cap, .func (.func 148) #[] #[]], .int .i64 p, .int .u8 k] w fun e w' => e = .returned (.tuple #[]) ∧ RegsAt w' g (hlTell r p k) ∧ w.grownBy w' (some g) := by
 obtain ⟨x, hx⟩ : ∃ x, r[p]? = some x := ⟨_, List.getElem?_eq_getElem hp⟩
 obtain ⟨W0, hW0, hX0, hB0, hs0⟩ := boxes1 w #[.int .i64 bt, .string s, .slice (some ⟨g, 0, none⟩) len cap, .func (.func 148) #[] #[]] 210
 have hr0 : RegsAt W0.drew g r := (hr.go hB0).block rfl
 have hp2 : (p : Int) < len := by omega
 let Inv : World → Prop := fun W => W = W0.drew
 have q0 : ∀ X : WIn Inv, X.world.cell? ⟨w.heap.size, 1, none⟩ = some (.string s) := fun X => by rw [X.ok]; exact cCc hX0 1
 have q2 : ∀ X : WIn Inv, X.world.cell? ⟨w.heap.size, 2, none⟩ = some (.slice (some ⟨g, 0, none⟩) len cap) := fun X => by rw [X.ok]; exact cCc hX0 2
 have q3 : ∀ X : WIn Inv, X.world.cell? ⟨w.heap.size, 3, none⟩ = some (.func (.func 148) #[] #[]) := fun X => by rw [X.ok]; exact cCc hX0 3
 have q4 : ∀ X : WIn Inv, X.world.cell? ⟨g, p, none⟩ = some (.int .u8 x) := fun X => by rw [X.ok]; exact hr0.cell hx
 have KG : Hid (∀ X : WIn Inv, Calls Tryz.prog 148 #[.int .u8 x, .int .u8 k] X.world fun e w' => e = .returned (.int .u8 (max (x : Int) k)) ∧ ∃ Y : WIn Inv, w' = Y.world) := fun X => (greater_any x k X.world).mono fun e w' h => ⟨h.1, X, h.2⟩
 have hne : Nonempty (WIn Inv) := ⟨⟨W0.drew, rfl⟩⟩
 have hI0 : Hid (Inv W0.drew) := rfl
 have hfin : Hid (∀ X : WIn Inv, X.world = W0.drew) := fun X => X.ok
 have HR := Lib.hid hr0
 have HX := Lib.hid hx
 have HG : Hid (w.grownBy W0 none) := by rw [← hW0]; exact World.grownBy_alloc w _ none
 clear_value Inv
 clear hr hr0 hx
 go_enter Tryz.func151, Tryz.ntmps151
 go_wp2_with fail
 refine wp_region_class_lit Inv (l := [_, _, _, _, _, _, _, _, _, _, _, _, _]) (o := _) rfl (by kernel_rfl) (by kernel_rfl) (by kernel_rfl) hI0.out ?_
 repeat (first | go_big_quiet_step ((go_at_call 148; with_reducible exact KG.out _)) | quiet_step ((go_at_call 148; with_reducible exact KG.out _)))
 refine wpQuiet_nil ?_
 rintro _ ⟨X, rfl⟩
 rw [hfin.out X]
 clear hfin hI0 hne KG q0 q2 q3 q4 hW0
 have d0 := HR.out.cell HX.out
 have d1 := HR.out.frozen HX.out
 go_wp2_with fail
 go_end0
 have e : (max (x : Int) (k : Int)) = ((max (r.getD p 0) k : Nat) : Int) := by rw [List.getD_eq_getElem?_getD, HX.out]; simp only [Option.getD_some]; omega
 rw [e]
 exact ⟨rfl, (RegsAt.set (W := W0.drew) HR.out p _).block rfl, gb_drew ((HG.out.but (some g)).trans (gb_set W0 g p _))⟩
end Go.Proofs.YtcbbenncdainfaaGreatDoor
namespace Go.Proofs.YtcbbenncdainfaaGreatDoor
open Go Go.RowKit Go.Shelf
theorem und_bytes8 : Tryz.prog.underlying 119 = some (.slice 5) := by kernel_rfl
theorem info_u8 : (Tryz.prog.info? 5).map (fun i => (i.zero, i.size, i.bytes)) = some (some (.int .u8 0), 1, 1) := by kernel_rfl
def hlStr (r : List Nat) : ByteArray := strOfNums (r.map fun (n : Nat) => (n : Int))
theorem make_u8 (w : World) (len : Nat) (h : len ≤ 1000) : ∃ w1, (Instr.makeSlice 119 (.int .i64 (len : Int)) (.int .i64 (len : Int))).run Tryz.prog w = .ok (.slice (some ⟨w.heap.size, 0, none⟩) len len) w1 ∧ RegsAt w1 w.heap.size (List.replicate len 0) ∧ Below w.heap.size w w1 ∧ w1.heap.size = w.heap.size + 1 := by
 obtain ⟨i, hi, hz, hsize, hby⟩ := info_parts info_u8
 have hr := run_makeSlice (P := Tryz.prog) (w := w) 119 5 i _ und_bytes8 hi hz .i64 .i64 (len : Int) (len : Int) (by omega) (Int.le_refl _) (by rw [hsize]; omega) (by rw [hby]; omega) (by omega)
 rw [Int.toNat_natCast] at hr
 refine ⟨_, hr, ⟨_, (0, 0), World.alloc_heap_new _ _, fun j x hx => ?_, .inl rfl⟩, (Below.refl _ w).alloc (Nat.le_refl _) _, by simp⟩
 rw [List.getElem?_replicate] at hx
 split at hx
 ·cases hx
  rename_i hj
  rw [hsize, Nat.mul_one]
  simp [madeCells, Value.cells, hj, Nat.mod_one]
 ·cases hx
theorem str_cells {W : World} {g len cap : Nat} {r : List Nat} (hr : RegsAt W g r) (hl : r.length = len) : (convert 119 9 (.slice (some ⟨g, 0, none⟩) len cap)).run Tryz.prog W = .ok (.string (hlStr r)) W :=
 run_convert_bytes_arg W 119 5 und_bytes8 Tryz.underlying5 g 0 len cap (r.map fun (n : Nat) => (n : Int)) (by rw [List.length_map, hl]) (fun i hi => by
  have hx := List.getElem?_eq_getElem (show i < r.length by omega)
  rw [Nat.zero_add, hr.cell hx]
  simp [List.getD_eq_getElem?_getD, hx]) 9 Tryz.underlying9
set_option maxRecDepth 100000 in
set_option maxHeartbeats 1000000 in
theorem hdone_any (bt : Int) (s : ByteArray) (g len cap : Nat) (pk : Value) (r : List Nat) (w : World) (hr : RegsAt w g r) (hl : r.length = len) :
  Calls Tryz.prog 145 #[.agg #[.int .i64 bt, .string s, .slice (some ⟨g, 0, none⟩) len cap, pk]] w fun e w' => e = .returned (.agg #[.int .i64 bt, .string (hlStr r)]) ∧ Below w.heap.size w w' := by
 obtain ⟨W0, hW0, hX0, hX1, hB0, hs0⟩ := boxes2 w #[.int .i64 bt, .string s, .slice (some ⟨g, 0, none⟩) len cap, pk] 210 #[.int .i64 0, .string ⟨#[]⟩] 26
 have hcv := str_cells (cap := cap) (hr.go hB0) hl
 obtain ⟨c0, c1, c2, c3⟩ := cl4 hX0
 obtain ⟨d0, d1⟩ := cl2 hX1
 obtain ⟨f0, f1⟩ := cz2 hX1
 generalize hlStr r = out at hcv ⊢
 have HX := Lib.hid hX1
 clear hr hl hX0 hX1
 go_enter Tryz.func145, Tryz.ntmps145
 go_wp2_with fail
 have hX2 := set_cells2 (u := .int .i64 bt) (v := .string out) HX.out
 have hB2 := (hB0.setCell (p := ⟨w.heap.size + 1, 0, none⟩) (Nat.le_succ _) (.int .i64 bt)).setCell (p := ⟨w.heap.size + 1, 1, none⟩) (Nat.le_succ _) (.string out)
 generalize (W0.setCell ⟨w.heap.size + 1, 0, none⟩ (.int .i64 bt)).setCell ⟨w.heap.size + 1, 1, none⟩ (.string out) = V at hX2 hB2 ⊢
 obtain ⟨k0, k1⟩ := cl2 hX2
 exact bodyPost_ret (v := .agg #[.int .i64 bt, .string out]) (by simp [results, Tryz.f145, go_sem, k0, k1]) rfl ⟨rfl, hB2⟩
theorem st_fn {W : World} {B off : Nat} {cs : Array Value} {t : TypeId} {old : Value} (h : W.heap[B]? = some (.cells cs t (0, 0))) (ho : cs[off]? = some old) (f : Fn) : (store ⟨B, off, none⟩ (.func f #[] #[])).run Tryz.prog W = .ok () (W.setCell ⟨B, off, none⟩ (.func f #[] #[])) := by
 rw [run_store Tryz.prog W ⟨B, off, none⟩ _ _ (by rfl)]
 simp [World.cell?, World.frozen?, h, ho]
set_option maxRecDepth 100000 in
set_option maxHeartbeats 1000000 in
theorem blank_any (b : Nat) (w : World) (h1 : 3 ≤ b) (h2 : b ≤ 8) :
  Calls Tryz.prog 142 #[.int .i64 b] w fun e w' => ∃ g, e = .returned (.tuple #[.agg #[.int .i64 b, .string ⟨#[]⟩, .slice (some ⟨g, 0, none⟩) (2 ^ b) (2 ^ b), .func (.func 148) #[] #[]], .nilIface]) ∧ RegsAt w' g (hlNone b) ∧ w.heap.size ≤ g ∧ Below w.heap.size w w' := by
 have hib : ∀ w, Calls Tryz.prog 103 #[.int .i64 b] w fun e w' => e = .returned (.bool true) ∧ w' = w := fun w => (isBits_any b w).mono fun e w' ⟨h3, h4⟩ => ⟨by rw [h3]; simp [isBitsB]; omega, h4.symm⟩
 have hp : 2 ^ b ≤ 2 ^ 8 := Nat.pow_le_pow_right (by omega) h2
 have hw : IntKind.i64.wrap (2 ^ b) = ((2 ^ b : Nat) : Int) := by
  have h9 : ∀ n : Nat, n ≤ 256 → IntKind.i64.wrap (n : Int) = n := fun n h => IntWalk.i64_in _ (by omega)
  simpa using h9 (2 ^ b) hp
 unfold hlNone
 generalize 2 ^ b = len at hp hw ⊢
 obtain ⟨W0, hW0, hX0, hB0, hs0⟩ := boxes1 w #[.int .i64 0, .string ⟨#[]⟩, .slice none 0 0, .nilFunc] 210
 obtain ⟨W1, hmk, hr1, hB1, hs1⟩ := make_u8 W0 len (by omega)
 have hX1 := (hB1.block _ (by omega)).trans hX0
 rw [hs0] at hmk hr1
 obtain ⟨d0, d1, d2, d3⟩ := cl4 hX1
 obtain ⟨f0, f1, f2, f3⟩ := cz4 hX1
 have HR := Lib.hid hr1
 have HB := Lib.hid (hB0.trans (hB1.mono hB0.size))
 obtain ⟨W4, hW4⟩ : ∃ W4, ((W1.setCell ⟨w.heap.size, 0, none⟩ (.int .i64 b)).setCell ⟨w.heap.size, 1, none⟩ (.string ⟨#[]⟩)).setCell ⟨w.heap.size, 2, none⟩ (.slice (some ⟨w.heap.size + 1, 0, none⟩) len len) = W4 := ⟨_, rfl⟩
 have hX4 : W4.heap[w.heap.size]? = some (.cells #[.int .i64 b, .string ⟨#[]⟩, .slice (some ⟨w.heap.size + 1, 0, none⟩) len len, .nilFunc] 210 (0, 0)) := by rw [← hW4]; exact hSk (hSk (hSk hX1 _) _) _
 have hB4 : Below w.heap.size w W4 := by rw [← hW4]; exact (((hB0.trans (hB1.mono hB0.size)).setCell (p := ⟨w.heap.size, 0, none⟩) (Nat.le_refl _) _).setCell (p := ⟨w.heap.size, 1, none⟩) (Nat.le_refl _) _).setCell (p := ⟨w.heap.size, 2, none⟩) (Nat.le_refl _) _
 have hr4 : RegsAt W4 (w.heap.size + 1) (List.replicate len 0) := by rw [← hW4]; exact ((hr1.other (by omega) _).other (by omega) _).other (by omega) _
 have hst := st_fn (off := 3) hX4 rfl (.func 148)
 clear hp hX0 hX1 hr1 hB0 hB1 hs1
 go_enter Tryz.func142, Tryz.ntmps142
 go_wp2_with (first | (go_at_call 103; refine (hib _).mono ?_; rintro e w' ⟨rfl, rfl⟩) | fail)
 have hX5 : (W4.setCell ⟨w.heap.size, 3, none⟩ (.func (.func 148) #[] #[])).heap[w.heap.size]? = some (.cells #[.int .i64 b, .string ⟨#[]⟩, .slice (some ⟨w.heap.size + 1, 0, none⟩) len len, .func (.func 148) #[] #[]] 210 (0, 0)) := hSk hX4 _
 have hB5 := hB4.setCell (p := ⟨w.heap.size, 3, none⟩) (Nat.le_refl _) (.func (.func 148) #[] #[])
 have hr5 := hr4.other (b := w.heap.size) (o := 3) (by omega) (.func (.func 148) #[] #[])
 generalize W4.setCell ⟨w.heap.size, 3, none⟩ (.func (.func 148) #[] #[]) = V at hX5 hB5 hr5 ⊢
 obtain ⟨k0, k1, k2, k3⟩ := cl4 hX5
 exact bodyPost_ret (v := .tuple #[.agg #[.int .i64 b, .string ⟨#[]⟩, .slice (some ⟨w.heap.size + 1, 0, none⟩) len len, .func (.func 148) #[] #[]], .nilIface]) (by simp [results, Tryz.f142, go_sem, k0, k1, k2, k3]) rfl ⟨_, rfl, hr5, Nat.le_succ _, hB5⟩
theorem run_bytes_of (W : World) (s : ByteArray) : ∃ W1 cap, (convert 9 119 (.string s)).run Tryz.prog W = .ok (.slice (some ⟨W.heap.size, 0, none⟩) s.size cap) W1 ∧ RegsAt W1 W.heap.size (s.data.toList.map (·.toNat)) ∧ Below W.heap.size W W1 ∧ W1.heap.size = W.heap.size + 1 := by
 refine ⟨_, _, Lib.run_convert_string_bytes W 9 119 5 s Tryz.underlying9 und_bytes8 Tryz.underlying5, ⟨_, _, Lib.bytesWorld_at_new W 5 s, fun j x hx => ?_, .inr ?_⟩, ?_, Lib.bytesWorld_size W _ s⟩
 ·rw [List.getElem?_map] at hx
  cases hb : s.data.toList[j]? with
  | none => rw [hb] at hx; cases hx
  | some y =>
   rw [hb] at hx
   cases hx
   have hj := (List.getElem?_eq_some_iff.1 hb).1
   rw [Array.length_toList] at hj
   unfold Lib.bytesCells
   rw [Array.getElem?_append_left (by simpa using hj), Array.getElem?_map, ← Array.getElem?_toList, hb]
   rfl
 ·simp [Lib.bytesCells]
 ·exact (Below.refl _ W).grown (row := none) ⟨rfl, rfl, rfl, by rw [Lib.bytesWorld_size]; omega, fun k hk _ => Lib.bytesWorld_at_old W _ s k hk⟩ (Nat.le_refl _) (fun k e => by cases e)
end Go.Proofs.YtcbbenncdainfaaGreatDoor
namespace Go.Proofs.YtcbbenncdainfaaGreatDoor
open Go Go.RowKit Go.Shelf
attribute [local go_sem] Oper.semAt_some
theorem hlStr_size (r : List Nat) : (hlStr r).size = r.length := by simp [hlStr, strOfNums, ByteArray.size]
theorem hlStr_nums (r : List Nat) (h : ∀ x ∈ r, x < 256) : (hlStr r).data.toList.map (·.toNat) = r := by
 unfold hlStr
 rw [strOfNums_data, List.map_map, List.map_map]
 conv => rhs; rw [← List.map_id r]
 refine List.map_congr_left (fun x hx => ?_)
 have := h x hx
 simp [UInt8.toNat_ofNat']
 omega
theorem le_getD {r : List Nat} {m : Nat} (h : ∀ i, r.getD i 0 ≤ m) : ∀ x ∈ r, x ≤ m := fun x hx => by
 obtain ⟨i, hi⟩ := List.getElem?_of_mem hx
 have := h i
 rwa [List.getD_eq_getElem?_getD, hi] at this
theorem hlRight_str (b : Nat) (r : List Nat) (h1 : 3 ≤ b) (h2 : b ≤ 8) (hl : r.length = 2 ^ b) (hr : ∀ i, r.getD i 0 ≤ 65 - b) : hlRight b (hlStr r) = true := by
 have h3 := le_getD hr
 have hn := hlStr_nums r (fun x hx => by have := h3 x hx; omega)
 unfold hlRight
 have e1 : isBitsB b = true := by simp [isBitsB]; omega
 have e2 : (((hlStr r).size : Int) == 2 ^ (b : Int).toNat) = true := by rw [beq_iff_eq, hlStr_size, hl, Int.toNat_natCast]; simp
 have e3 : regsOk b (hlStr r) = true := by
  unfold regsOk
  rw [List.all_eq_true]
  intro c hc
  have : c.toNat ∈ r := by rw [← hn]; exact List.mem_map_of_mem hc
  have := h3 _ this
  simp
  omega
 rw [e1, e2, e3]; rfl
set_option maxRecDepth 100000 in
set_option maxHeartbeats 1000000 in
theorem hbegin_any (b : Nat) (r : List Nat) (w : World) (h1 : 3 ≤ b) (h2 : b ≤ 8) (hl : r.length = 2 ^ b) (hr : ∀ i, r.getD i 0 ≤ 65 - b) :
  Calls Tryz.prog 169 #[.agg #[.int .i64 b, .string (hlStr r)]] w fun e w' => ∃ g cap, e = .returned (.tuple #[.agg #[.int .i64 b, .string (hlStr r), .slice (some ⟨g, 0, none⟩) (2 ^ b) cap, .func (.func 148) #[] #[]], .nilIface]) ∧ RegsAt w' g r ∧ w.heap.size ≤ g ∧ Below w.heap.size w w' := by
 have hR : Hid (∀ w1, Below w.heap.size w w1 → Calls Tryz.prog 96 #[.agg #[.int .i64 b, .string (hlStr r)]] w1 fun e w' => e = .returned (.bool true) ∧ Below w1.heap.size w1 w') := fun w1 hb => (hll_Right_any b (hlStr r) w1).mono fun e w' h => ⟨by rw [h.1, hlRight_str b r h1 h2 hl hr], h.2⟩
 have hn := hlStr_nums r (fun x hx => by have := le_getD hr x hx; omega)
 have hz := hlStr_size r
 rw [hl] at hz
 generalize hlStr r = s at hn hz hR ⊢
 obtain ⟨W0, hW0, hX0, hX1, hB0, hs0⟩ := boxes2 w #[.int .i64 b, .string s] 26 #[.int .i64 0, .string ⟨#[]⟩, .slice none 0 0, .nilFunc] 210
 have HX0 := Lib.hid hX0
 have HX1 := Lib.hid hX1
 have HZ := Lib.hid hz
 have HN := Lib.hid hn
 obtain ⟨c0, c1⟩ := cl2 hX0
 clear hz hl hr hn hX0 hX1 h1 h2
 go_enter Tryz.func169, Tryz.ntmps169
 go_wp2_with fail
 refine (hR.out _ hB0).mono ?_
 rintro e w1 ⟨rfl, hb1⟩
 have hX0 := known hb1 (Nat.le_refl _) HX0.out
 have hX1 := known hb1 (Nat.le_refl _) HX1.out
 obtain ⟨k0, k1⟩ := cl2 hX0
 obtain ⟨W2, cap, hcv, hr2, hB2, hs2⟩ := run_bytes_of w1 s
 rw [HN.out] at hr2
 rw [HZ.out] at hcv
 generalize hg : w1.heap.size = g at hcv hr2 hB2 hs2
 have hwg : w.heap.size + 1 < g := by rw [← hg]; have := hb1.size; omega
 have hX2 := (hB2.block _ hwg).trans hX1
 have hBw : Below w.heap.size w W2 := (hB0.trans (hb1.mono hB0.size)).trans (hB2.mono (by omega))
 obtain ⟨d0, d1, d2, d3⟩ := cl4 hX2
 obtain ⟨f0, f1, f2, f3⟩ := cz4 hX2
 obtain ⟨W4, hW4⟩ : ∃ W4, ((W2.setCell ⟨w.heap.size + 1, 0, none⟩ (.int .i64 b)).setCell ⟨w.heap.size + 1, 1, none⟩ (.string s)).setCell ⟨w.heap.size + 1, 2, none⟩ (.slice (some ⟨g, 0, none⟩) (2 ^ b) cap) = W4 := ⟨_, rfl⟩
 have hX4 : W4.heap[w.heap.size + 1]? = some (.cells #[.int .i64 b, .string s, .slice (some ⟨g, 0, none⟩) (2 ^ b) cap, .nilFunc] 210 (0, 0)) := by rw [← hW4]; exact hSk (hSk (hSk hX2 _) _) _
 have hB4 : Below w.heap.size w W4 := by rw [← hW4]; exact ((hBw.setCell (p := ⟨w.heap.size + 1, 0, none⟩) (Nat.le_succ _) _).setCell (p := ⟨w.heap.size + 1, 1, none⟩) (Nat.le_succ _) _).setCell (p := ⟨w.heap.size + 1, 2, none⟩) (Nat.le_succ _) _
 have hr4 : RegsAt W4 g r := by rw [← hW4]; exact ((hr2.other (by omega) _).other (by omega) _).other (by omega) _
 have hst := st_fn (off := 3) hX4 rfl (.func 148)
 clear hg hX0 hX1 hX2 hr2 hB2 hBw hs2 hb1
 go_wp2_with fail
 have hX5 : (W4.setCell ⟨w.heap.size + 1, 3, none⟩ (.func (.func 148) #[] #[])).heap[w.heap.size + 1]? = some (.cells #[.int .i64 b, .string s, .slice (some ⟨g, 0, none⟩) (2 ^ b) cap, .func (.func 148) #[] #[]] 210 (0, 0)) := hSk hX4 _
 have hB5 := hB4.setCell (p := ⟨w.heap.size + 1, 3, none⟩) (Nat.le_succ _) (.func (.func 148) #[] #[])
 have hr5 := hr4.other (b := w.heap.size + 1) (o := 3) (by omega) (.func (.func 148) #[] #[])
 generalize W4.setCell ⟨w.heap.size + 1, 3, none⟩ (.func (.func 148) #[] #[]) = V at hX5 hB5 hr5 ⊢
 obtain ⟨q0, q1, q2, q3⟩ := cl4 hX5
 exact bodyPost_ret (v := .tuple #[.agg #[.int .i64 b, .string s, .slice (some ⟨g, 0, none⟩) (2 ^ b) cap, .func (.func 148) #[] #[]], .nilIface]) (by simp [results, Tryz.f169, go_sem, q0, q1, q2, q3]) rfl ⟨g, cap, rfl, hr5, by omega, hB5⟩
theorem wp_range_all1 {α : Type} {P : Program} {g : Operand} {ps : Array Tmp} {assign body : Code} {Q : Exit → Act → World → Prop} {a : Act} {w : World} (L : List Nat) (s1 : Nat) (v1 : α → Value)
  {gf : Nat} {lb : Array Value} (hg : a.eval g = .func (.func gf) #[] lb) (eg : ∀ args w, (callFunc gf args).run P w = .ok (.enter gf args) w)
  {encs : α → Array Value} {xs : List α} {N : Nat} {w0 : World} (hseq : SeqStopsK Fence.wide 8 P gf lb encs (KL L) (fun ys => ys = xs) (fun pre => pre <+: xs) N w0)
  (hL : ∀ b ∈ L, b < w.heap.size) (hb0 : Below w0.heap.size w0 w) (hps : ∀ x, (encs x).size = ps.size)
  (I : List α → World → Prop) (hI : OwnFrom w.heap.size I) (h0 : I [] w)
  (hassign : ∀ (l : Nat) (pre : List α) (x : α) (W : World) (K : Act → World → Prop), I pre W → (I pre W → K { tmps := ((ps.zip (encs x)).foldl (fun t (p, v) => t.setIfInBounds p v) a.tmps).setIfInBounds s1 (v1 x), defers := [] } W) →
   assign.wpIn (Fence.wide.inRound l) 7 P (Exit.then K (fun _ _ _ => False)) { tmps := (ps.zip (encs x)).foldl (fun t (p, v) => t.setIfInBounds p v) a.tmps, defers := [] } W)
  (hbody : ∀ (l : Nat) (pre : List α) (x : α) (W : World), I pre W → pre.length < N → body.wpIn (Fence.wide.inRound l) 7 P (ownPostG w.heap.size (KL L) I (fun _ _ _ => False) (pre ++ [x]) W) { tmps := ((ps.zip (encs x)).foldl (fun t (p, v) => t.setIfInBounds p v) a.tmps).setIfInBounds s1 (v1 x), defers := [] } W)
  (hdone : ∀ (D : Nat) (W : World), w.heap.size ≤ D → I xs W → W.heap[D]? = some (.deferred (some [])) → Q .normal { a with defers := { target := .collected D, args := #[] } :: a.defers } W) :
  (Code.rangeFunc g ps assign body).wp P Q a w :=
 wp_range_all L (fun x => ((ps.zip (encs x)).foldl (fun t (p, v) => t.setIfInBounds p v) a.tmps).setIfInBounds s1 (v1 x)) hg eg hseq hL hb0 hps I hI h0 hassign hbody hdone
def AI (b g B : Nat) (wv : Array Value) (r : List Nat) (w : World) (pre : List { n : Int // U64 n }) (W : World) : Prop := RegsAt W g (hlSum b r (pre.map fun x => x.1.toNat)) ∧ W.heap[B]? = some (.cells wv 210 (0, 0)) ∧ w.grownBy W (some g)
theorem ai_own (b g B : Nat) (wv : Array Value) (r : List Nat) (w : World) (C : Nat) (hC : w.heap.size ≤ C) : OwnFrom C (AI b g B wv r w) := fun pre X Y row hs hg hr => by
 obtain ⟨h1, h2, h3⟩ := hs
 have hne : ∀ k o, X.heap[k]? = some o → o.isCells = true → some k ≠ row := fun k o hk hc e => by
  obtain ⟨-, o', ho', hc'⟩ := hr k e.symm
  rw [hk] at ho'
  cases ho'
  rw [hc] at hc'
  cases hc'
 obtain ⟨cs, fz, hc, -⟩ := id h1
 exact ⟨h1.grown hg (hne _ _ hc rfl), (hg.block _ (Array.getElem?_eq_some_iff.1 h2).1 (hne _ _ h2 rfl)).trans h2, h3.andThen hg (fun j e => .inl (Nat.le_trans hC (hr j e).1))⟩
set_option maxRecDepth 100000 in
set_option maxHeartbeats 2000000 in
theorem hadd_any (b : Nat) (s : ByteArray) (g cap : Nat) (r : List Nat) (l : List Int) (a : Option Addr) (len lcap : Nat) (w : World) (h1 : 3 ≤ b) (h2 : b ≤ 8) (hr : RegsAt w g r) (hl : r.length = 2 ^ b) (hL : SlE encU 1 w.heap.size w a len l) (hu : U64s l) (hne : 0 < len → ∀ x, a = some x → x.block ≠ g) (hlen : len ≤ 1000) :
  Calls Tryz.prog 144 #[.agg #[.int .i64 b, .string s, .slice (some ⟨g, 0, none⟩) (2 ^ b) cap, .func (.func 148) #[] #[]], .slice a len lcap] w fun e w' => e = .returned (.tuple #[]) ∧ RegsAt w' g (hlSum b r (l.map Int.toNat)) ∧ w.grownBy w' (some g) := by
 refine calls_marks Tryz.func144 rfl ?_
 simp only [Tryz.ntmps144, List.size_toArray, List.length_cons, List.length_nil, Nat.reduceAdd, Nat.reduceSub, Array.replicate_succ, Array.replicate_zero, List.push_toArray, List.append_toArray, List.nil_append, List.cons_append]
 obtain ⟨W0, hW0, hX0, hB0, hs0⟩ := boxes1 w #[.int .i64 b, .string s, .slice (some ⟨g, 0, none⟩) (2 ^ b) cap, .func (.func 148) #[] #[]] 210
 obtain ⟨W1, hW1, hX1, hB1, hs1⟩ := boxes1 W0 #[.slice a len lcap] 22
 have HW1 := Lib.hid hW1
 clear hW1
 go_wp2_with (go_at_call 149; refine (slicesValues_any _ _ _ _).mono ?_; rintro e w' ⟨rfl, rfl⟩; rw [HW1.out])
 have hgl := hr.lt
 have hz1 : W1.heap.size = w.heap.size + 2 := by omega
 have hbx : W1.heap[w.heap.size]? = some (.cells #[.int .i64 b, .string s, .slice (some ⟨g, 0, none⟩) (2 ^ b) cap, .func (.func 148) #[] #[]] 210 (0, 0)) := (hB1.block _ (by omega)).trans hX0
 rw [hs0] at hX1
 have hBw : Below w.heap.size w W1 := hB0.trans (hB1.mono hB0.size)
 have hgw : w.grownBy W1 (some g) := ((by rw [← hW0]; exact World.grownBy_alloc w _ _ : w.grownBy W0 (some g))).trans (by rw [← HW1.out]; exact World.grownBy_alloc W0 _ _)
 obtain ⟨bl, hbl, hblt, hblg⟩ : ∃ bl, (0 < len → ∀ x, a = some x → x.block = bl) ∧ bl < w.heap.size + 2 ∧ bl ≠ g := by
  rcases Nat.eq_zero_or_pos len with h | h
  ·exact ⟨w.heap.size + 1, fun h' => by omega, by omega, by omega⟩
  ·obtain ⟨x, bb, off, -, e, hb, -⟩ := hL.at h
   exact ⟨bb, fun _ y hy => by rw [e] at hy; cases hy; rfl, by omega, hne h _ e⟩
 obtain ⟨ls, hls⟩ : ∃ ls : List { n : Int // U64 n }, ls.map (·.1) = l := ⟨l.attachWith U64 (fun n hn => hu n hn), List.attachWith_map_subtype_val _⟩
 subst hls
 have hseq := values_kl (fun x : { n : Int // U64 n } => x.1) (w.heap.size + 1) bl w.heap.size a len lcap ls (by omega) W1 (by omega) hX1 (hL.below hBw) hbl
 have HL := Lib.hid hl
 have H12 : Hid (3 ≤ b ∧ b ≤ 8) := ⟨h1, h2⟩
 have hI0 : AI b g w.heap.size #[.int .i64 b, .string s, .slice (some ⟨g, 0, none⟩) (2 ^ b) cap, .func (.func 148) #[] #[]] r w [] W1 := ⟨hr.block (hBw.block _ hr.lt), hbx, hgw⟩
 clear hW0 hX0 hX1 hL hu hne hbl hl h1 h2
 refine wp_range_all1 [w.heap.size + 1, bl] 4 (fun x : { n : Int // U64 n } => .int .u64 x.1) (gf := 154) (lb := #[.pointer (some ⟨w.heap.size + 1, 0, none⟩)]) rfl (enters_of Tryz.func154 (by kernel_rfl) rfl)
  hseq (by intro k hk; simp at hk; omega) (Below.refl _ _) (fun _ => rfl) (AI b g w.heap.size #[.int .i64 b, .string s, .slice (some ⟨g, 0, none⟩) (2 ^ b) cap, .func (.func 148) #[] #[]] r w) (ai_own b g w.heap.size _ r w _ hBw.size) hI0 ?assign ?body ?fin
 case assign =>
  rintro l pre x W K hI hK
  simp only [List.zip_toArray, List.zip_cons_cons, List.zip_nil_right, List.size_toArray, List.foldl_toArray', List.foldl_cons, List.foldl_nil, List.setIfInBounds_toArray, List.set_cons_succ, List.set_cons_zero] at hK ⊢
  gi_wp2
  exact hI
 case body =>
  rintro lo pre x W ⟨hR, hX, hG⟩ hlt
  simp only [List.zip_toArray, List.zip_cons_cons, List.zip_nil_right, List.size_toArray, List.foldl_toArray', List.foldl_cons, List.foldl_nil, List.setIfInBounds_toArray, List.set_cons_succ, List.set_cons_zero]
  have hP := Place_any b x.1 W H12.out.1 H12.out.2 x.2
  have hx0 := x.2
  generalize hn : x.1 = n at hP hx0
  have hat := hlAt_lt b n.toNat H12.out.2 (by unfold U64 at hx0; omega)
  have hrk := hlRank_le b n.toNat H12.out.2
  have HS : Hid (hlTell (hlSum b r (pre.map fun x => x.1.toNat)) (hlAt b n.toNat) (hlRank b n.toNat) = hlSum b r ((pre ++ [x]).map fun x => x.1.toNat)) := by
   unfold Hid hlSum
   rw [List.map_append, List.foldl_append, List.map_singleton, hn]
   rfl
  have hlen2 := hlSum_len b (pre.map fun x => x.1.toNat) r
  rw [HL.out] at hlen2
  generalize hlAt b n.toNat = q at hP hat HS
  generalize hlRank b n.toNat = k at hP hrk HS
  generalize hlSum b r (pre.map fun x => x.1.toNat) = r1 at hR hlen2 HS
  have hT := tell_any b s g (2 ^ b) cap q k r1 W hR (by omega) hlen2
  have hku : IntKind.u8.wrap (k : Int) = (k : Int) := by have : k < 256 := by omega
                                                         simp [IntKind.wrap, IntKind.bits, IntKind.signed]; omega
  obtain ⟨c0, c1, c2, c3⟩ := cl4 hX
  have HG := Lib.hid hG
  have HX := Lib.hid hX
  clear hG hX hx0 hn hR hat hlen2 hrk
  gi_wp2_with fail
  refine ⟨trivial, (CallsIn.inRound lo (callsIn_wide.2 hP)).mono ?_⟩
  rintro e W6 ⟨rfl, rfl⟩
  gi_wp2_with fail
  refine ⟨trivial, (CallsIn.inRound lo (callsIn_wide.2 hT)).mono ?_⟩
  rintro e W7 ⟨rfl, hR7, hG7⟩
  gi_wp2_with fail
  refine ⟨KeepsFrom.of_grownBy hG7 (fun j e => by cases e; omega), KL.grown hG7 (fun k hk => by simp at hk; rcases hk with rfl | rfl <;> (intro e; cases e; omega)), by rw [← HS.out]; exact hR7, (hG7.block _ (Array.getElem?_eq_some_iff.1 HX.out).1 (fun e => by cases e; omega)).trans HX.out, HG.out.trans hG7⟩
 case fin =>
  rintro D W hD ⟨hR, hX, hG⟩ hK
  have hne : some g ≠ some D := fun e => by cases e; omega
  refine marks_ret1 (v := .tuple #[]) hK (results_none rfl _ _ _) ⟨rfl, ?_, ?_⟩
  ·rw [List.map_map]
   exact hR.grown (grownBy_putObj' _ D _) hne
  ·exact hG.andThen (grownBy_putObj' _ D _) (fun j e => by cases e; exact .inl (by omega))
end Go.Proofs.YtcbbenncdainfaaGreatDoor
namespace Go.Proofs.YtcbbenncdainfaaGreatDoor
open Go Go.RowKit Go.Shelf
set_option maxRecDepth 100000 in
set_option maxHeartbeats 1000000 in
theorem hOf_any (b : Nat) (l : List Int) (a : Option Addr) (len cap : Nat) (w : World) (h1 : 3 ≤ b) (h2 : b ≤ 8) (hL : SlE encU 1 w.heap.size w a len l) (hu : U64s l) (hlen : len ≤ 1000) :
  Calls Tryz.prog 138 #[.int .i64 b, .slice a len cap] w fun e w' => e = .returned (.tuple #[.agg #[.int .i64 b, .string (hlStr (hlSum b (hlNone b) (l.map Int.toNat)))], .int .i64 0]) ∧ Below w.heap.size w w' := by
 have hB := fun w => blank_any b w h1 h2
 obtain ⟨W0, hW0, hX0, hB0, hs0⟩ := boxes1 w #[.int .i64 0, .string ⟨#[]⟩] 26
 have HX0 := Lib.hid hX0
 have HL := Lib.hid hL
 have HU := Lib.hid hu
 have H12 : Hid (3 ≤ b ∧ b ≤ 8) := ⟨h1, h2⟩
 obtain ⟨out, hout⟩ : ∃ out, hlStr (hlSum b (hlNone b) (l.map Int.toNat)) = out := ⟨_, rfl⟩
 rw [hout]
 have HOUT := Lib.hid hout
 clear hL hu hX0 h1 h2 hout
 go_enter Tryz.func138, Tryz.ntmps138
 go_wp2_with fail
 refine (hB _).mono ?_
 rintro e w1 ⟨g, rfl, hr1, hg1, hb1⟩
 obtain ⟨W2, hW2, hX2, hB2, hs2⟩ := boxes1 w1 #[.int .i64 b, .string ⟨#[]⟩, .slice (some ⟨g, 0, none⟩) (2 ^ b) (2 ^ b), .nilFunc] 210
 have hst := st_fn (off := 3) hX2 rfl (.func 148)
 obtain ⟨W3, hW3⟩ : ∃ W3, W2.setCell ⟨w1.heap.size, 3, none⟩ (.func (.func 148) #[] #[]) = W3 := ⟨_, rfl⟩
 have hX3 : W3.heap[w1.heap.size]? = some (.cells #[.int .i64 b, .string ⟨#[]⟩, .slice (some ⟨g, 0, none⟩) (2 ^ b) (2 ^ b), .func (.func 148) #[] #[]] 210 (0, 0)) := by rw [← hW3]; exact hSk hX2 _
 have hgl := hr1.lt
 have hB13 : Below w1.heap.size w1 W3 := by rw [← hW3]; exact hB2.setCell (p := ⟨w1.heap.size, 3, none⟩) (Nat.le_refl _) _
 have hr3 : RegsAt W3 g (hlNone b) := hr1.go hB13
 have hBw : Below w.heap.size w W3 := (hB0.trans (hb1.mono hB0.size)).trans (hB13.mono (by have := hb1.size; omega))
 have hA := hadd_any b ⟨#[]⟩ g (2 ^ b) (hlNone b) l a len cap W3 H12.out.1 H12.out.2 hr3 (by simp [hlNone]) ((HL.out.below hBw).mono hBw.size) HU.out (fun h x hx => by obtain ⟨y, bb, off, -, e, hb, -⟩ := HL.out.at h; rw [e] at hx; cases hx; show bb ≠ g; omega) hlen
 obtain ⟨c0, c1, c2, c3⟩ := cl4 hX3
 have HR := Lib.hid (hlSum_len b (l.map Int.toNat) (hlNone b))
 clear hX2 hr1 hr3 hB2
 go_wp2_with fail
 refine hA.mono ?_
 rintro e w4 ⟨rfl, hr4, hg4⟩
 have hX4 := (hg4.block _ (Array.getElem?_eq_some_iff.1 hX3).1 (fun e => by cases e; omega)).trans hX3
 have hB4 : Below w.heap.size w w4 := hBw.grown hg4 hBw.size (fun k e => by cases e; omega)
 have hX04 := known (hb1.trans (hB13.mono hb1.size)) (Nat.le_refl _) HX0.out
 have hX05 := (hg4.block _ (Array.getElem?_eq_some_iff.1 hX04).1 (fun e => by cases e; omega)).trans hX04
 have hD := hdone_any b ⟨#[]⟩ g (2 ^ b) (2 ^ b) (.func (.func 148) #[] #[]) _ w4 hr4 (by rw [HR.out]; simp [hlNone])
 rw [HOUT.out] at hD
 obtain ⟨d0, d1, d2, d3⟩ := cl4 hX4
 go_wp2_with fail
 refine hD.mono ?_
 rintro e w5 ⟨rfl, hb5⟩
 have hX5 := known hb5 (Nat.le_refl _) hX05
 have hB5 := hB4.trans (hb5.mono hB4.size)
 obtain ⟨q0, q1⟩ := cl2 hX5
 obtain ⟨f0, f1⟩ := cz2 hX5
 have hX6 := set_cells2 (u := .int .i64 b) (v := .string out) hX5
 have hB6 := (hB5.setCell (p := ⟨w.heap.size, 0, none⟩) (Nat.le_refl _) (.int .i64 b)).setCell (p := ⟨w.heap.size, 1, none⟩) (Nat.le_refl _) (.string out)
 go_wp2_with fail
 generalize (w5.setCell ⟨w.heap.size, 0, none⟩ (.int .i64 b)).setCell ⟨w.heap.size, 1, none⟩ (.string out) = V at hX6 hB6 ⊢
 obtain ⟨k0, k1⟩ := cl2 hX6
 exact bodyPost_ret (v := .tuple #[.agg #[.int .i64 b, .string out], .int .i64 0]) (by simp [results, Tryz.f138, go_sem, k0, k1]) rfl ⟨rfl, hB6⟩
set_option maxRecDepth 100000 in
set_option maxHeartbeats 1000000 in
theorem hAdd_any (b : Nat) (r : List Nat) (n : Int) (w : World) (h1 : 3 ≤ b) (h2 : b ≤ 8) (hl : r.length = 2 ^ b) (hr : ∀ i, r.getD i 0 ≤ 65 - b) (hn : U64 n) :
  Calls Tryz.prog 165 #[.agg #[.int .i64 b, .string (hlStr r)], .int .u64 n] w fun e w' => e = .returned (.tuple #[.agg #[.int .i64 b, .string (hlStr (hlAdd b r n.toNat))], .int .i64 0]) ∧ Below w.heap.size w w' := by
 have hB := fun w => hbegin_any b r w h1 h2 hl hr
 have HU := Lib.hid hn
 have HLN := Lib.hid hl
 have H12 : Hid (3 ≤ b ∧ b ≤ 8) := ⟨h1, h2⟩
 generalize hlStr r = s at hB ⊢
 obtain ⟨W0, hW0, hXp, hX0, hB0, hs0⟩ := boxes2 w #[.int .i64 b, .string s] 26 #[.int .i64 0, .string ⟨#[]⟩] 26
 have HX0 := Lib.hid hX0
 obtain ⟨z0, z1⟩ := cl2 hXp
 obtain ⟨out, hout⟩ : ∃ out, hlStr (hlAdd b r n.toNat) = out := ⟨_, rfl⟩
 rw [hout]
 have HOUT := Lib.hid hout
 clear hn hX0 h1 h2 hl hr hXp hout
 go_enter Tryz.func165, Tryz.ntmps165
 go_wp2_with fail
 refine (hB _).mono ?_
 rintro e w1 ⟨g, cap, rfl, hr1, hg1, hb1⟩
 obtain ⟨W2, hW2, hX2, hB2, hs2⟩ := boxes1 w1 #[.int .i64 b, .string s, .slice (some ⟨g, 0, none⟩) (2 ^ b) cap, .nilFunc] 210
 have hst := st_fn (off := 3) hX2 rfl (.func 148)
 obtain ⟨W3, hW3⟩ : ∃ W3, W2.setCell ⟨w1.heap.size, 3, none⟩ (.func (.func 148) #[] #[]) = W3 := ⟨_, rfl⟩
 have hX3 : W3.heap[w1.heap.size]? = some (.cells #[.int .i64 b, .string s, .slice (some ⟨g, 0, none⟩) (2 ^ b) cap, .func (.func 148) #[] #[]] 210 (0, 0)) := by rw [← hW3]; exact hSk hX2 _
 have hgl := hr1.lt
 have hB13 : Below w1.heap.size w1 W3 := by rw [← hW3]; exact hB2.setCell (p := ⟨w1.heap.size, 3, none⟩) (Nat.le_refl _) _
 have hs3 : W3.heap.size = w1.heap.size + 1 := by rw [← hW3, size_set, hs2]
 obtain ⟨W4, hW4, hX4, hB4, hs4⟩ := boxes1 W3 #[.int .u64 n] 43
 rw [hs3] at hX4
 have hr4 : RegsAt W4 g r := (hr1.go hB13).go hB4
 have hX34 := (hB4.block _ (by omega)).trans hX3
 have hBw : Below w.heap.size w W4 := ((hB0.trans (hb1.mono hB0.size)).trans (hB13.mono (by have := hb1.size; omega))).trans (hB4.mono (by have := hb1.size; omega))
 have hL : SlE encU 1 W4.heap.size W4 (some ⟨w1.heap.size + 1, 0, none⟩) 1 [n] := by
  refine ⟨rfl, fun j x hx => ⟨w1.heap.size + 1, 0, rfl, by omega, fun i hi => ?_⟩⟩
  obtain rfl : i = 0 := by omega
  have h5 := flat_cell encU 1 (fun _ => rfl) [n] j 0 x hx (by omega)
  rw [cCc hX4, Nat.zero_add]
  simpa [encU] using h5
 have hA := hadd_any b s g cap r [n] (some ⟨w1.heap.size + 1, 0, none⟩) 1 1 W4 H12.out.1 H12.out.2 hr4 HLN.out hL (fun m hm => by rw [List.mem_singleton.1 hm]; exact HU.out) (fun h x hx => by cases hx; show w1.heap.size + 1 ≠ g; omega) (by omega)
 obtain ⟨c0, c1, c2, c3⟩ := cl4 hX3
 have HR := Lib.hid (hlAdd_len b r n.toNat)
 clear hX2 hr1 hr4 hB2 hL hX4
 go_wp2_with fail
 refine hA.mono ?_
 rintro e w4 ⟨rfl, hr4, hg4⟩
 have hr4 : RegsAt w4 g (hlAdd b r n.toNat) := hr4
 have hX4 := (hg4.block _ (Array.getElem?_eq_some_iff.1 hX34).1 (fun e => by cases e; omega)).trans hX34
 have hB5 : Below w.heap.size w w4 := hBw.grown hg4 hBw.size (fun k e => by cases e; omega)
 have hX04 := known ((hb1.trans (hB13.mono hb1.size)).trans (hB4.mono (by have := hb1.size; omega))) (Nat.le_refl _) HX0.out
 have hX05 := (hg4.block _ (Array.getElem?_eq_some_iff.1 hX04).1 (fun e => by cases e; omega)).trans hX04
 have hB4 := hB5
 have hD := hdone_any b s g (2 ^ b) cap (.func (.func 148) #[] #[]) _ w4 hr4 (by rw [HR.out]; exact HLN.out)
 rw [HOUT.out] at hD
 obtain ⟨d0, d1, d2, d3⟩ := cl4 hX4
 go_wp2_with fail
 refine hD.mono ?_
 rintro e w5 ⟨rfl, hb5⟩
 have hX5 := known hb5 (Nat.le_refl _) hX05
 have hB5 := hB4.trans (hb5.mono hB4.size)
 obtain ⟨q0, q1⟩ := cl2 hX5
 obtain ⟨f0, f1⟩ := cz2 hX5
 have hX6 := set_cells2 (u := .int .i64 b) (v := .string out) hX5
 have hB6 := (hB5.setCell (p := ⟨w.heap.size + 1, 0, none⟩) (Nat.le_succ _) (.int .i64 b)).setCell (p := ⟨w.heap.size + 1, 1, none⟩) (Nat.le_succ _) (.string out)
 go_wp2_with fail
 generalize (w5.setCell ⟨w.heap.size + 1, 0, none⟩ (.int .i64 b)).setCell ⟨w.heap.size + 1, 1, none⟩ (.string out) = V at hX6 hB6 ⊢
 obtain ⟨k0, k1⟩ := cl2 hX6
 exact bodyPost_ret (v := .tuple #[.agg #[.int .i64 b, .string out], .int .i64 0]) (by simp [results, Tryz.f165, go_sem, k0, k1]) rfl ⟨rfl, hB6⟩
end Go.Proofs.YtcbbenncdainfaaGreatDoor

/- A region that draws its order and whose last operation stands behind all others. Of no program. aviarylaw10.Few. Package hist: done. Package ladder: the four bodies' add and lower; told. errors.As at a target of type **ladder.fault: lines of the worked example ToyasAs turned to this program; ladder.errno, isFull. What rows have in common: the program's closed facts, sketches and numbers opened, errors.errorType. Printed by gen_rz.py. aviarylaw12: One: printed by wip/tools/gen_f8.py. Tables of series in memory. series.add. Series of Go's sizes; aviarylaw12.shown. Package ladder: stores into a box, kept bodies and sketches; lowered at the bottom; told. Laws of layer 10: items; New, whatever the kind. What rows have in common: items opened. Printed by gen_rz.py. The law of a range over a function whose iterator reads one block. Of no program. Frames of several blocks. Of no program. -/
import Derived.StillTactics
import Derived.Laws.Rows
import Derived.Lib.MinMax
import Derived.Shelf.SlSorted.Search
import Derived.ArgAppend
import Derived.Laws.CopyRow
import Derived.Laws.CopyOwn
import Derived.Laws.Tables
import Derived.Laws.BytesArg
import Derived.Lib.ConvBytes
import Derived.Maps.OwnOps
import Derived.Maps.OwnSet
import Derived.Maps.RangeWalk
import Derived.Maps.Ext
import Derived.Shelf.SlIterI.Nil
import Derived.Ground.GgzProg
import Derived.LaidEql
import Derived.Stop.Asserts
import Derived.RowKitTokens
import Derived.Test.YtpklkhgnjbopnaaGreatDoorCards
import Derived.Test.YtpklkhgnjbopnaaGreatDoorTie
import Derived.LaidHandle
import Derived.Shelf.Vars
import Derived.ChangeMaps5
import Derived.Test.YtpklkhgnjbopnaaGreatDoorVL6
namespace Go.Proofs.YtpklkhgnjbopnaaGreatDoor
open Go Go.RowKit
section
variable {P : Program} {pre : Array Oper} {o : Oper} {Q : Exit → Act → World → Prop} {md : Region.Mode}
def lastB (md : Region.Mode) (pre : Array Oper) (o : Oper) : Bool :=
 o.guard.isNone && pre.toList.all (·.guard.isNone) &&
 (List.range pre.size).all (fun j => o.after.toList.any fun e => Region.binds md e && e.on == j) &&
 o.after.toList.all (fun e => !Region.binds md e || decide (e.on < pre.size)) &&
 (List.range pre.size).all (fun i => ((pre[i]?).map fun p => p.after.toList.all fun e => !Region.binds md e || decide (e.on < i)).getD true)
def lastQ (P : Program) (o : Oper) (Q : Exit → Act → World → Prop) : Exit → Act → World → Prop
 | .normal, a, w => o.wp P a w (fun a' w' => Q .normal a' w') Q
 | e, a, w => Q e a w
theorem wp_monoQ {o' : Oper} {a : Act} {w : World} {K : Act → World → Prop} (h : o'.wp P a w K (lastQ P o Q)) : o'.wp P a w K Q := by
 unfold Oper.wp at *
 generalize (execOp a.eval o').run P w = r at *
 cases r with
 | ok n w' =>
  cases n <;> simp only [Oper.upon] at h ⊢ <;>
   first
    | exact h
    | exact Calls.mono h (fun e w'' he => by cases e <;> first | exact he | exact (let ⟨a, w, hq⟩ := he; ⟨a, w, hq⟩))
 | halt x w' => cases x <;> simp only [Oper.upon] at h ⊢ <;> exact h
theorem ready_mem {ops : Array Oper} {L : Array Bool} {i : Nat} : i ∈ Region.ready md ops L ↔ i < ops.size ∧ L.getD i true = false ∧ ∃ p, ops[i]? = some p ∧ ∀ e ∈ p.after, Region.binds md e = true → L.getD e.on false = true := by
 unfold Region.ready
 rw [List.mem_filter, List.mem_range]
 constructor
 ·rintro ⟨h1, h2⟩
  rw [Bool.and_eq_true] at h2
  refine ⟨h1, by simpa using h2.1, ops[i], Array.getElem?_eq_getElem h1, ?_⟩
  have h3 := h2.2
  rw [Array.getElem?_eq_getElem h1] at h3
  simp only [Option.map_some, Option.getD_some] at h3
  rw [Array.all_eq_true_iff_forall_mem] at h3
  intro e he hb
  have := h3 e he
  simpa [hb] using this
 ·rintro ⟨h1, h2, p, hp, h3⟩
  refine ⟨h1, ?_⟩
  rw [Bool.and_eq_true]
  refine ⟨by simp [h2], ?_⟩
  rw [hp]
  simp only [Option.map_some, Option.getD_some]
  rw [Array.all_eq_true_iff_forall_mem]
  intro e he
  cases hb : Region.binds md e
  ·rfl
  ·simpa using h3 e he hb
structure LastOk (md : Region.Mode) (pre : Array Oper) (o : Oper) : Prop where
 go : o.guard = none
 gp : ∀ (i : Nat) p, pre[i]? = some p → p.guard = none
 last : ∀ j, j < pre.size → ∃ e ∈ o.after, Region.binds md e = true ∧ e.on = j
 lt : ∀ e ∈ o.after, Region.binds md e = true → e.on < pre.size
 lex : ∀ (i : Nat) p, pre[i]? = some p → ∀ e ∈ p.after, Region.binds md e = true → e.on < i
theorem lastB_ok (h : lastB md pre o = true) : LastOk md pre o := by
 simp only [lastB, Bool.and_eq_true, List.all_eq_true, List.any_eq_true, List.mem_range] at h
 obtain ⟨⟨⟨⟨h1, h2⟩, h3⟩, h4⟩, h5⟩ := h
 refine ⟨by simpa using h1, fun i p hp => ?_, fun j hj => ?_, fun e he hb => ?_, fun i p hp e he hb => ?_⟩
 ·have := h2 p (by rw [← Array.getElem?_toList] at hp; exact List.mem_of_getElem? hp)
  simpa using this
 ·obtain ⟨e, he, hb, ho⟩ := h3 j hj
  exact ⟨e, by simpa using he, hb, by simpa using ho⟩
 ·have := h4 e (by simpa using he)
  simpa [hb] using this
 ·have hi := (Array.getElem?_eq_some_iff.1 hp).1
  have := h5 i hi
  rw [hp] at this
  simp only [Option.map_some, Option.getD_some, List.all_eq_true] at this
  have := this e (by simpa using he)
  simpa [hb] using this
theorem getD_push (L : Array Bool) (n : Nat) : (L.push false).getD n false = L.getD n false := by
 simp only [Array.getD_eq_getD_getElem?, Array.getElem?_push]
 split
 ·rename_i h; subst h; simp
 ·rfl
theorem ready_nil {L : Array Bool} (hk : LastOk md pre o) (hL : L.size = pre.size) (h : Region.ready md pre L = []) : ∀ j, j < pre.size → L.getD j false = true := by
 intro j
 induction j using Nat.strongRecOn with
 | ind j ih =>
  intro hj
  cases hv : L.getD j false with
  | true => rfl
  | false =>
   exfalso
   have hm : j ∈ Region.ready md pre L := ready_mem.2 ⟨hj, by
    have hjl : j < L.size := by omega
    simp only [Array.getD_eq_getD_getElem?, Array.getElem?_eq_getElem hjl, Option.getD_some] at hv ⊢
    exact hv, pre[j], Array.getElem?_eq_getElem hj, fun e he hb => ih e.on (hk.lex j _ (Array.getElem?_eq_getElem hj) e he hb) (by have := hk.lex j _ (Array.getElem?_eq_getElem hj) e he hb; omega)⟩
   rw [h] at hm
   cases hm
theorem ready_sub {L : Array Bool} (hL : L.size = pre.size) {i : Nat} (h : i ∈ Region.ready md pre L) : i ∈ Region.ready md (pre.push o) (L.push false) := by
 obtain ⟨h1, h2, p, hp, h3⟩ := ready_mem.1 h
 refine ready_mem.2 ⟨by simp; omega, ?_, p, ?_, fun e he hb => by rw [getD_push]; exact h3 e he hb⟩
 ·have : i ≠ L.size := by omega
  simpa [Array.getD_eq_getD_getElem?, Array.getElem?_push, this] using h2
 ·rw [Array.getElem?_push, if_neg (by omega)]; exact hp
theorem ready_or {L : Array Bool} (hk : LastOk md pre o) (hL : L.size = pre.size) {i : Nat} (h : i ∈ Region.ready md (pre.push o) (L.push false)) :
  i ∈ Region.ready md pre L ∨ (i = pre.size ∧ ∀ j, j < pre.size → L.getD j false = true) := by
 obtain ⟨h1, h2, p, hp, h3⟩ := ready_mem.1 h
 by_cases hi : i = pre.size
 ·subst hi
  rw [Array.getElem?_push_size] at hp
  cases hp
  refine .inr ⟨rfl, fun j hj => ?_⟩
  obtain ⟨e, he, hb, rfl⟩ := hk.last j hj
  rw [← getD_push]
  exact h3 e he hb
 ·have hs : i < pre.size := by simp at h1; omega
  rw [Array.getElem?_push, if_neg hi] at hp
  refine .inl (ready_mem.2 ⟨hs, ?_, p, hp, fun e he hb => by rw [← getD_push]; exact h3 e he hb⟩)
  have : i ≠ L.size := by omega
  simpa [Array.getD_eq_getD_getElem?, Array.getElem?_push, this] using h2
theorem ready_all {ops : Array Oper} {L : Array Bool} (hL : L.size = ops.size) (h : ∀ j, j < ops.size → L.getD j false = true) : Region.ready md ops L = [] := by
 rw [List.eq_nil_iff_forall_not_mem]
 intro i hi
 obtain ⟨h1, h2, _⟩ := ready_mem.1 hi
 have h3 := h i h1
 have hjl : i < L.size := by omega
 simp only [Array.getD_eq_getD_getElem?, Array.getElem?_eq_getElem hjl, Option.getD_some] at h2 h3
 rw [h2] at h3
 cases h3
theorem wpAny_at_end {ops : Array Oper} {L : Array Bool} {a : Act} {w : World} (h : Region.ready md ops L = []) (hq : Q .normal a w) : ∀ fuel, wpAny P md ops Q fuel L a w
 | 0 => ⟨h, hq⟩
 | _ + 1 => ⟨fun _ => hq, fun i hi => by rw [h] at hi; cases hi⟩
theorem wpOp_last {K : Act → World → Prop} {a : Act} {w : World} (hk : LastOk md pre o) (hK : ∀ a w, Q .normal a w → K a w) (h : lastQ P o Q .normal a w) : wpOp P (pre.push o) Q pre.size K a w := by
 unfold wpOp
 rw [Array.getElem?_push_size]
 simp only [Region.wanted, hk.go, if_true]
 exact .inl (Oper.wp_mono hK h)
theorem wpAny_last (hk : LastOk md pre o) (fuel : Nat) : ∀ (L : Array Bool) (a : Act) (w : World), L.size = pre.size → wpAny P md pre (lastQ P o Q) fuel L a w → wpAny P md (pre.push o) Q (fuel + 1) (L.push false) a w := by
 have hne : ∀ L : Array Bool, L.size = pre.size → Region.ready md (pre.push o) (L.push false) ≠ [] := fun L hL h0 => by
  cases hr : Region.ready md pre L with
  | nil =>
   have hall := ready_nil hk hL hr
   have hm : pre.size ∈ Region.ready md (pre.push o) (L.push false) := ready_mem.2 ⟨by simp, by simp [Array.getD_eq_getD_getElem?, ← hL], o, Array.getElem?_push_size, fun e he hb => by rw [getD_push]; exact hall _ (hk.lt e he hb)⟩
   rw [h0] at hm; cases hm
  | cons i r =>
   have hm := ready_sub (o := o) hL (show i ∈ Region.ready md pre L by rw [hr]; exact List.mem_cons_self ..)
   rw [h0] at hm; cases hm
 have hend : ∀ (L : Array Bool), L.size = pre.size → (∀ j, j < pre.size → L.getD j false = true) → Region.ready md (pre.push o) ((L.push false).setIfInBounds pre.size true) = [] := fun L hL hall => by
  refine ready_all (by simp [hL]) (fun j hj => ?_)
  simp only [Array.getD_eq_getD_getElem?, Array.getElem?_setIfInBounds, Array.size_push]
  by_cases hjp : pre.size = j
  ·rw [if_pos hjp, if_pos (by omega)]; rfl
  ·rw [if_neg hjp]
   have := hall j (by simp at hj; omega)
   rw [← getD_push, Array.getD_eq_getD_getElem?] at this
   exact this
 induction fuel with
 | zero =>
  intro L a w hL h
  refine ⟨fun h0 => absurd h0 (hne L hL), fun i hi => ?_⟩
  rcases ready_or hk hL hi with h1 | ⟨rfl, hall⟩
  ·rw [h.1] at h1; cases h1
  ·exact wpOp_last hk (fun a w hq => wpAny_at_end (hend L hL hall) hq _) h.2
 | succ k ih =>
  intro L a w hL h
  refine ⟨fun h0 => absurd h0 (hne L hL), fun i hi => ?_⟩
  rcases ready_or hk hL hi with h1 | ⟨rfl, hall⟩
  ·have h2 := h.2 i h1
   obtain ⟨hs, _, p, hp, _⟩ := ready_mem.1 h1
   have hp' : (pre.push o)[i]? = some p := by rw [Array.getElem?_push, if_neg (by omega)]; exact hp
   unfold wpOp at h2 ⊢
   rw [hp] at h2
   rw [hp']
   simp only [Region.wanted, hk.gp i p hp, if_true] at h2 ⊢
   rcases h2 with h2 | ⟨h2, b, v, h3⟩
   ·refine .inl (Oper.wp_mono (fun a' w' h' => ?_) (wp_monoQ h2))
    have h4 := ih (L.setIfInBounds i true) a' w' (by simp [hL]) h'
    have e : (L.push false).setIfInBounds i true = (L.setIfInBounds i true).push false := by
     apply Array.ext_getElem?
     intro n
     simp only [Array.getElem?_setIfInBounds, Array.getElem?_push, Array.size_push, Array.size_setIfInBounds]
     by_cases h5 : i = n
     ·subst h5
      rw [if_pos rfl, if_pos (by omega), if_neg (by omega), if_pos rfl, if_pos (by omega)]
     ·simp [h5]
    rw [e]; exact h4
   ·exact .inr ⟨h2, b, v, h3⟩
  ·refine wpOp_last hk (fun a w hq => wpAny_at_end (hend L hL hall) hq _) (h.1 (ready_all hL hall))
end
theorem wp_region_class_last {P : Program} (Inv : World → Prop) {id : Nat} {Q : Exit → Act → World → Prop} {a : Act} {w : World} {l : List Oper} {o : Oper} (hm : P.follows .mixedOrders = true) (hB : Region.lexB .any l.toArray = true) (hb : lastB .any l.toArray o = true) (hC : Inv w.drew)
  (h : wpQuiet P l.toArray (fun w' => ∃ X : WIn Inv, w' = X.world) (fun a' => ∀ w', (∃ X : WIn Inv, w' = X.world) → o.wp P a' w' (fun a'' w'' => Q .normal a'' w'') Q) l a) : (Code.region id (l ++ [o]).toArray true).wp P Q a w := by
 refine wp_region_any hm ?_
 have hB' := hB
 simp only [Region.lexB, Bool.and_eq_true] at hB'
 have h1 := wpAnyQ_lex (C := fun w' => ∃ X : WIn Inv, w' = X.world) (md := .any) hB'.1 l 0 (Array.replicate l.toArray.size false) a (by simp) (by simpa using hB'.2) h
 have h2 := wpAny_of_quiet (Q' := lastQ P o Q) (fun a' w' hw' hh => hh w' hw') _ _ _ w.drew ⟨⟨_, hC⟩, rfl⟩ h1
 have h3 := wpAny_last (lastB_ok hb) _ _ _ _ (by simp) h2
 have e1 : (l ++ [o]).toArray = l.toArray.push o := by simp
 rw [e1]
 have e2 : Array.replicate (l.toArray.push o).size false = (Array.replicate l.toArray.size false).push false := by simp [Array.replicate_succ]
 rw [e2]
 simpa using h3
end Go.Proofs.YtpklkhgnjbopnaaGreatDoor
namespace Go.Proofs.YtpklkhgnjbopnaaGreatDoor
open Go Go.RowKit
theorem wp_region_class_lit {P : Program} (Inv : World → Prop) {id : Nat} {Q : Exit → Act → World → Prop} {a : Act} {w : World} {L l : List Oper} {o : Oper} (hl : L = l ++ [o]) (hm : P.follows .mixedOrders = true) (hB : Region.lexB .any l.toArray = true) (hb : lastB .any l.toArray o = true) (hC : Inv w.drew)
  (h : wpQuiet P l.toArray (fun w' => ∃ X : WIn Inv, w' = X.world) (fun a' => ∀ w', (∃ X : WIn Inv, w' = X.world) → o.wp P a' w' (fun a'' w'' => Q .normal a'' w'') Q) l a) : (Code.region id L.toArray true).wp P Q a w := by
 subst hl
 exact wp_region_class_last Inv hm hB hb hC h
end Go.Proofs.YtpklkhgnjbopnaaGreatDoor
namespace Go.Proofs.YtpklkhgnjbopnaaGreatDoor
open Go Go.RowKit Go.Shelf Go.Maps Go.Sort
abbrev encI : Int → List Value := fun x => [encZ x]
attribute [-go_sem] Builtin.append_
end Go.Proofs.YtpklkhgnjbopnaaGreatDoor
namespace Go.Proofs.YtpklkhgnjbopnaaGreatDoor
open Go Go.RowKit Go.Shelf
def FaultAt (W : World) (v : Value) (no : Int) : Prop := ∃ b, v = .iface 360 (.pointer (some ⟨b, 0, none⟩)) ∧ W.heap[b]? = some (.cells #[.int .i64 no] 362 (0, 0))
-- METHODS
end Go.Proofs.YtpklkhgnjbopnaaGreatDoor
namespace Go.Proofs.YtpklkhgnjbopnaaGreatDoor
open Go Go.RowKit Go.Extern.Stop Go.Stop Go.Extern
theorem as_nil (t : Value) (w : World) :
  Calls Tryz.prog 97 #[.nilIface, t] w fun e w' => e = .returned (.bool false) ∧ w' = w := by
 go_enter Tryz.func97, Tryz.ntmps97
 go_wp2
 go_ret
 exact ⟨rfl, rfl⟩
theorem as_valueOf27 (t : Addr) (w : World) : (ReflectliteValue.unpack (.iface 476 (.pointer (some t)))).run Tryz.prog w
  = .ok (.agg #[.pointer (some ⟨6, 476, none⟩), .pointer (some ⟨w.heap.size, 0, none⟩), .int .u64 150]) (w.alloc (.cells #[.pointer (some t)] 476)) := by kernel_rfl
theorem as_type27 (a : Addr) (w : World) : (ReflectliteValue.methodAny (ReflectliteValue.valueError "reflectlite.Value.Type" 0) (fun t _ _ _ => ReflectliteType.toType t) #[.agg #[.pointer (some ⟨6, 476, none⟩), .pointer (some a), .int .u64 150]]).run Tryz.prog w
  = .ok (.iface 283 (.agg #[.pointer (some ⟨6, 476, none⟩)])) w := by kernel_rfl
theorem as_methodKind (h : Value) (w : World) : (Go.method 742 283 (.agg #[h]) "Kind").run Tryz.prog w = .ok (342, h) w := by kernel_rfl
theorem as_kind27 (w : World) : ((ReflectliteType.abiMethod fun t => (fun a : Nat => Value.int IntKind.u8 (a : Int)) <$> Rtype.kind t) #[.pointer (some ⟨6, 476, none⟩)]).run Tryz.prog w = .ok (.int .u8 22) w := by kernel_rfl
theorem as_kind25 (w : World) : ((ReflectliteType.abiMethod fun t => (fun a : Nat => Value.int IntKind.u8 (a : Int)) <$> Rtype.kind t) #[.pointer (some ⟨6, 360, none⟩)]).run Tryz.prog w = .ok (.int .u8 22) w := by kernel_rfl
theorem rlm (z : Sem Value) (f : TypeId → Addr → Nat → Nat → Sem Value) (v : Value) :
  ReflectliteValue.method z f #[v] = (do match ← ReflectliteValue.parts v with | none => z | some (t, a, fl) => f t a fl (fl % 32)) := rfl
theorem as_parts27 (a : Addr) (w : World) : (ReflectliteValue.parts (.agg #[.pointer (some ⟨6, 476, none⟩), .pointer (some a), .int .u64 150])).run Tryz.prog w = .ok (some (476, a, 150)) w := by kernel_rfl
theorem as_isNil27 (a p : Addr) (W : World) (ha : W.cell? a = some (.pointer (some p))) :
  (ReflectliteValue.method (ReflectliteValue.valueError "reflectlite.Value.IsNil" 0) ReflectliteValue.isNil #[.agg #[.pointer (some ⟨6, 476, none⟩), .pointer (some a), .int .u64 150]]).run Tryz.prog W = .ok (.bool false) W := by
 rw [rlm]
 simp only [Sem.run_bind, as_parts27, Result.andThen]
 simp [ReflectliteValue.isNil, loadVar, isAgg, underlying, Tryz.underlying476, ha, Result.andThen]
theorem as_methodElem (h : Value) (w : World) : (Go.method 742 283 (.agg #[h]) "Elem").run Tryz.prog w = .ok (358, .agg #[h]) w := by kernel_rfl
theorem as_methodImplements (h : Value) (w : World) : (Go.method 742 283 (.agg #[h]) "Implements").run Tryz.prog w = .ok (359, .agg #[h]) w := by kernel_rfl
theorem as_methodAssignableTo (h : Value) (w : World) : (Go.method 742 283 (.agg #[h]) "AssignableTo").run Tryz.prog w = .ok (356, .agg #[h]) w := by kernel_rfl
theorem as_elem27 (w : World) : (ReflectliteType.method ReflectliteType.elem #[.agg #[.pointer (some ⟨6, 476, none⟩)]]).run Tryz.prog w = .ok (.iface 283 (.agg #[.pointer (some ⟨6, 360, none⟩)])) w := by kernel_rfl
theorem as_implements25 (w : World) : (ReflectliteType.relation "Implements" ReflectliteType.implements_ #[.agg #[.pointer (some ⟨6, 360, none⟩)], .iface 283 (.agg #[.pointer (some ⟨6, 88, none⟩)])]).run Tryz.prog w = .ok (.bool true) w := by kernel_rfl
theorem as_typeOf25 (v : Value) (w : World) : (ReflectliteType.typeOf #[.iface 360 v]).run Tryz.prog w = .ok (.iface 283 (.agg #[.pointer (some ⟨6, 360, none⟩)])) w := by kernel_rfl
theorem as_assignable25 (w : World) : (ReflectliteType.relation "AssignableTo" ReflectliteType.assignableTo #[.agg #[.pointer (some ⟨6, 360, none⟩)], .iface 283 (.agg #[.pointer (some ⟨6, 360, none⟩)])]).run Tryz.prog w = .ok (.bool true) w := by kernel_rfl
theorem as_valueOf25 (e : Addr) (w : World) : (ReflectliteValue.unpack (.iface 360 (.pointer (some e)))).run Tryz.prog w
  = .ok (.agg #[.pointer (some ⟨6, 360, none⟩), .pointer (some ⟨w.heap.size, 0, none⟩), .int .u64 150]) (w.alloc (.cells #[.pointer (some e)] 360)) := by kernel_rfl
theorem as_elemOf27 (w : World) : (Rtype.elem? 476).run Tryz.prog w = .ok (some 360) w := by kernel_rfl
theorem as_mk25 (p : Addr) (w : World) : (ReflectliteValue.mk 360 p ReflectliteValue.flagAddr).run Tryz.prog w = .ok (.agg #[.pointer (some ⟨6, 360, none⟩), .pointer (some p), .int .u64 406]) w := by kernel_rfl
theorem as_elemV27 (a p : Addr) (W : World) (ha : W.cell? a = some (.pointer (some p))) :
  (ReflectliteValue.method (ReflectliteValue.valueError "reflectlite.Value.Elem" 0) ReflectliteValue.elem #[.agg #[.pointer (some ⟨6, 476, none⟩), .pointer (some a), .int .u64 150]]).run Tryz.prog W
   = .ok (.agg #[.pointer (some ⟨6, 360, none⟩), .pointer (some p), .int .u64 406]) W := by
 rw [rlm]
 simp only [Sem.run_bind, as_parts27, Result.andThen]
 simp [ReflectliteValue.elem, loadVar, isAgg, underlying, Tryz.underlying476, ha, Result.andThen, as_elemOf27, as_mk25]
theorem rls (v x : Value) : ReflectliteValue.set #[v, x] = (do
  let (some (dst, a, fl), some (src, b, _)) := (← ReflectliteValue.parts v, ← ReflectliteValue.parts x)
   | unsupported (.noEntry "extern/(internal/reflectlite.Value).Set.zeroValue")
  if fl / ReflectliteValue.flagAddr % 2 == 0 then unsupported (.noEntry "extern/(internal/reflectlite.Value).Set.unaddressable")
  let val ← loadVar src b
  if ← Rtype.directlyAssignable dst src then storeVar dst a val
  else if ← Rtype.implements dst src then
   if (← Rtype.kind src) == 20 then
    match val with
    | .nilIface => unsupported (.noEntry "extern/reflectlite: a nil value of one interface type handed on as a value of another")
    | _ => storeVar dst a val
   else storeVar dst a (.iface src val)
  else panicString ("reflectlite.Set: value of type " ++ (← Rtype.spelt src) ++ " is not assignable to type " ++ (← Rtype.spelt dst))
  pure (.tuple #[])) := rfl
theorem as_parts25a (a : Addr) (w : World) : (ReflectliteValue.parts (.agg #[.pointer (some ⟨6, 360, none⟩), .pointer (some a), .int .u64 406])).run Tryz.prog w = .ok (some (360, a, 406)) w := by kernel_rfl
theorem as_parts25 (a : Addr) (w : World) : (ReflectliteValue.parts (.agg #[.pointer (some ⟨6, 360, none⟩), .pointer (some a), .int .u64 150])).run Tryz.prog w = .ok (some (360, a, 150)) w := by kernel_rfl
theorem as_direct25 (w : World) : (Rtype.directlyAssignable 360 360).run Tryz.prog w = .ok true w := by kernel_rfl
theorem as_set25 (ta b e : Addr) (old : Value) (W : World) (hb : W.cell? b = some (.pointer (some e))) (ht : W.cell? ta = some old) (hf : W.frozen? ta = false) :
  (ReflectliteValue.set #[.agg #[.pointer (some ⟨6, 360, none⟩), .pointer (some ta), .int .u64 406], .agg #[.pointer (some ⟨6, 360, none⟩), .pointer (some b), .int .u64 150]]).run Tryz.prog W
   = .ok (.tuple #[]) (W.setCell ta (.pointer (some e))) := by
 rw [rls]
 simp only [Sem.run_bind, as_parts25a, as_parts25, Result.andThen]
 simp [ReflectliteValue.flagAddr, loadVar, isAgg, underlying, Tryz.underlying360, hb, Result.andThen, as_direct25, storeVar, Value.cells, storeCells, Addr.add]
 rw [run_store Tryz.prog W ta _ _ (by rfl)]
 simp [ht, hf]
set_option maxHeartbeats 4000000 in
theorem as_hit (e t : Addr) (old : Value) (w : World) (hg : w.cell? ⟨0, 0, none⟩ = some (.iface 283 (.agg #[.pointer (some ⟨6, 88, none⟩)]))) (ht0 : w.cell? t = some old) (hf0 : w.frozen? t = false) :
  Calls Tryz.prog 97 #[.iface 360 (.pointer (some e)), .iface 476 (.pointer (some t))] w fun ev w' => ev = .returned (.bool true) ∧ w' = ((((w.alloc (.cells #[.pointer (some t)] 476)).alloc (.cells #[.pointer (some ⟨6, 476, none⟩), .pointer (some ⟨w.heap.size, 0, none⟩), .int .u64 150] 228)).alloc (.cells #[.pointer (some ⟨6, 476, none⟩), .pointer (some ⟨w.heap.size, 0, none⟩), .int .u64 150] 228)).alloc (.cells #[.pointer (some e)] 360)).setCell t (.pointer (some e)) := by
 have h6 := @run_callFunc_extern Tryz.prog 120 _ (fun args => ReflectliteValue.unpack (args.getD 0 (.tuple #[]))) Tryz.func120 (by kernel_rfl) (by kernel_rfl) (by kernel_rfl) (by kernel_rfl)
 have h7 := @run_callFunc_extern Tryz.prog 121 _ (ReflectliteValue.methodAny (ReflectliteValue.valueError "reflectlite.Value.Type" 0) (fun t _ _ _ => ReflectliteType.toType t)) Tryz.func121 (by kernel_rfl) (by kernel_rfl) (by kernel_rfl) (by kernel_rfl)
 have h8 := @run_callFunc_extern Tryz.prog 122 _ (ReflectliteValue.method (ReflectliteValue.valueError "reflectlite.Value.IsNil" 0) ReflectliteValue.isNil) Tryz.func122 (by kernel_rfl) (by kernel_rfl) (by kernel_rfl) (by kernel_rfl)
 have h27 := @run_callFunc_extern Tryz.prog 342 _ (ReflectliteType.abiMethod fun t => do pure (.int .u8 (← Rtype.kind t))) Tryz.func342 (by kernel_rfl) (by kernel_rfl) (by kernel_rfl) (by kernel_rfl)
 have h37 := @run_callFunc_extern Tryz.prog 358 _ (ReflectliteType.method ReflectliteType.elem) Tryz.func358 (by kernel_rfl) (by kernel_rfl) (by kernel_rfl) (by kernel_rfl)
 have h38 := @run_callFunc_extern Tryz.prog 359 _ (ReflectliteType.relation "Implements" ReflectliteType.implements_) Tryz.func359 (by kernel_rfl) (by kernel_rfl) (by kernel_rfl) (by kernel_rfl)
 have h10 := @run_callFunc_extern Tryz.prog 145 _ ReflectliteType.typeOf Tryz.func145 (by kernel_rfl) (by kernel_rfl) (by kernel_rfl) (by kernel_rfl)
 have h35 := @run_callFunc_extern Tryz.prog 356 _ (ReflectliteType.relation "AssignableTo" ReflectliteType.assignableTo) Tryz.func356 (by kernel_rfl) (by kernel_rfl) (by kernel_rfl) (by kernel_rfl)
 have h11 := @run_callFunc_extern Tryz.prog 146 _ (ReflectliteValue.method (ReflectliteValue.valueError "reflectlite.Value.Elem" 0) ReflectliteValue.elem) Tryz.func146 (by kernel_rfl) (by kernel_rfl) (by kernel_rfl) (by kernel_rfl)
 have h12 := @run_callFunc_extern Tryz.prog 147 _ ReflectliteValue.set Tryz.func147 (by kernel_rfl) (by kernel_rfl) (by kernel_rfl) (by kernel_rfl)
 have tO := as_typeOf25
 have mA := as_methodAssignableTo
 have a25 := as_assignable25
 have v25 := as_valueOf25
 have f6 := as_valueOf27
 have f7 := as_type27
 have mK := as_methodKind
 have mE := as_methodElem
 have mI := as_methodImplements
 have k27 := as_kind27
 have k25 := as_kind25
 have e27 := as_elem27
 have i25 := as_implements25
 have n8 := as_isNil27 ⟨w.heap.size, 0, none⟩ t ((w.alloc (.cells #[.pointer (some t)] 476)).alloc (.cells #[.pointer (some ⟨6, 476, none⟩), .pointer (some ⟨w.heap.size, 0, none⟩), .int .u64 150] 228)) (by simp)
 have hlt : 0 < w.heap.size := World.block_lt_of_cell? w _ hg
 have hg2 : ((w.alloc (.cells #[.pointer (some t)] 476)).alloc (.cells #[.pointer (some ⟨6, 476, none⟩), .pointer (some ⟨w.heap.size, 0, none⟩), .int .u64 150] 228)).cell? ⟨0, 0, none⟩ = some (.iface 283 (.agg #[.pointer (some ⟨6, 88, none⟩)])) := by
  rw [World.cell?_alloc_lt _ _ ⟨0, 0, none⟩ (by simp <;> omega), World.cell?_alloc_lt _ _ ⟨0, 0, none⟩ hlt]; exact hg
 have htl : t.block < w.heap.size := by
  rcases Nat.lt_or_ge t.block w.heap.size with h | h
  ·exact h
  ·simp [World.cell?, Array.getElem?_eq_none h] at ht0
 have el := as_elemV27 ⟨w.heap.size, 0, none⟩ t (((w.alloc (.cells #[.pointer (some t)] 476)).alloc (.cells #[.pointer (some ⟨6, 476, none⟩), .pointer (some ⟨w.heap.size, 0, none⟩), .int .u64 150] 228)).alloc (.cells #[.pointer (some ⟨6, 476, none⟩), .pointer (some ⟨w.heap.size, 0, none⟩), .int .u64 150] 228)) (by rw [World.cell?_alloc_lt _ _ ⟨w.heap.size, 0, none⟩ (by simp; omega)]; simp)
 have st := as_set25 t ⟨w.heap.size + 1 + 1 + 1, 0, none⟩ e old ((((w.alloc (.cells #[.pointer (some t)] 476)).alloc (.cells #[.pointer (some ⟨6, 476, none⟩), .pointer (some ⟨w.heap.size, 0, none⟩), .int .u64 150] 228)).alloc (.cells #[.pointer (some ⟨6, 476, none⟩), .pointer (some ⟨w.heap.size, 0, none⟩), .int .u64 150] 228)).alloc (.cells #[.pointer (some e)] 360))
  (by rw [World.cell?_alloc_at _ _ _ _ (by simp)]; rfl)
  (by rw [World.cell?_alloc_lt _ _ t (by simp; omega), World.cell?_alloc_lt _ _ t (by simp; omega), World.cell?_alloc_lt _ _ t (by simp; omega), World.cell?_alloc_lt _ _ t htl]; exact ht0)
  (by rw [World.frozen?_alloc_old _ _ t (by simp; omega), World.frozen?_alloc_old _ _ t (by simp; omega), World.frozen?_alloc_old _ _ t (by simp; omega), World.frozen?_alloc_old _ _ t (Nat.ne_of_lt htl)]; exact hf0)
 go_enter Tryz.func97, Tryz.ntmps97
 go_wp2
 refine wp_loop_rounds 1 ?_
 rw [rounds_succ]
 go_wp2
 go_ret
 exact ⟨rfl, rfl⟩
def GT (w : World) : Prop := w.cell? ⟨0, 0, none⟩ = some (.iface 283 (.agg #[.pointer (some ⟨6, 88, none⟩)]))
theorem GT.lt {w : World} (h : GT w) : 0 < w.heap.size := World.block_lt_of_cell? w _ h
theorem GT.go {w w' : World} (h : GT w) (hb : Below w.heap.size w w') : GT w' := (hb.cell (p := ⟨0, 0, none⟩) h.lt).trans h
theorem errno_nil (w : World) : Calls Tryz.prog 235 #[.nilIface] w fun e w' => e = .returned (.int .i64 0) ∧ Below w.heap.size w w' := by
 have hA := fun t => as_nil t (w.alloc (.cells #[.pointer none] 360))
 go_enter Tryz.func235, Tryz.ntmps235
 go_wp2_with fail
 refine (hA _).mono ?_
 rintro e w1 ⟨rfl, rfl⟩
 go_wp2_with fail
 go_ret
 exact ⟨rfl, (Below.refl _ w).alloc (Nat.le_refl _) _⟩
theorem errno_fault (v : Value) (no : Int) (w : World) (hg : GT w) (hf : FaultAt w v no) : Calls Tryz.prog 235 #[v] w fun e w' => e = .returned (.int .i64 no) ∧ Below w.heap.size w w' := by
 obtain ⟨b, rfl, hb⟩ := hf
 obtain ⟨W1, hW1, hX1, hB1, hs1⟩ := boxes1 w #[.pointer none] 360
 have hA := as_hit ⟨b, 0, none⟩ ⟨w.heap.size, 0, none⟩ (.pointer none) W1 (hg.go hB1) (cCc hX1 0) (cFz hX1 0)
 obtain ⟨W2, hW2⟩ : ∃ W2, (((W1.alloc (.cells #[.pointer (some ⟨w.heap.size, 0, none⟩)] 476)).alloc (.cells #[.pointer (some ⟨6, 476, none⟩), .pointer (some ⟨W1.heap.size, 0, none⟩), .int .u64 150] 228)).alloc (.cells #[.pointer (some ⟨6, 476, none⟩), .pointer (some ⟨W1.heap.size, 0, none⟩), .int .u64 150] 228)).alloc (.cells #[.pointer (some ⟨b, 0, none⟩)] 360) = W2 := ⟨_, rfl⟩
 have hB2 : Below W1.heap.size W1 W2 := by
  rw [← hW2]
  exact ((((Below.refl _ W1).alloc (Nat.le_refl _) _).alloc (by simp <;> omega) _).alloc (by simp <;> omega) _).alloc (by simp <;> omega) _
 rw [hW2] at hA
 have hX2 := known hB2 (Nat.le_refl _) hX1
 have hbw := (Array.getElem?_eq_some_iff.1 hb).1
 have hb2 := known (hB1.trans (hB2.mono hB1.size)) (Nat.le_refl _) hb
 have hX3 : (W2.setCell ⟨w.heap.size, 0, none⟩ (.pointer (some ⟨b, 0, none⟩))).heap[w.heap.size]? = some (.cells #[.pointer (some ⟨b, 0, none⟩)] 360 (0, 0)) := hSk hX2 _
 have hb3 := (heap_set_other (W := W2) (p := ⟨w.heap.size, 0, none⟩) (b := b) (by show w.heap.size ≠ b; omega) (.pointer (some ⟨b, 0, none⟩))).trans hb2
 have hB3 : Below w.heap.size w (W2.setCell ⟨w.heap.size, 0, none⟩ (.pointer (some ⟨b, 0, none⟩))) := (hB1.trans (hB2.mono hB1.size)).setCell (p := ⟨w.heap.size, 0, none⟩) (Nat.le_refl _) _
 obtain ⟨W3, hW3⟩ : ∃ W3, W2.setCell ⟨w.heap.size, 0, none⟩ (.pointer (some ⟨b, 0, none⟩)) = W3 := ⟨_, rfl⟩
 rw [hW3] at hA hX3 hb3 hB3
 have c0 : W3.cell? ⟨w.heap.size, 0, none⟩ = some (.pointer (some ⟨b, 0, none⟩)) := cCc hX3 0
 have d0 : W3.cell? ⟨b, 0, none⟩ = some (.int .i64 no) := cCc hb3 0
 have HB3 := Lib.hid hB3
 clear hg hb hX1 hB1 hW2 hB2 hX2 hb2 hX3 hb3 hB3 hW3
 go_enter Tryz.func235, Tryz.ntmps235
 go_wp2_with fail
 refine hA.mono ?_
 rintro e w1 ⟨rfl, rfl⟩
 go_wp2_with fail
 go_ret
 exact ⟨rfl, HB3.out⟩
end Go.Proofs.YtpklkhgnjbopnaaGreatDoor
namespace Go.Proofs.YtpklkhgnjbopnaaGreatDoor
open Go Go.ChangeShapes Go.WideShapes Go.ChangeAt Go.RowKit Go.Lib Go.Deep Go.Shelf
theorem own : ownKnob Tryz.prog.godebug = none := by kernel_rfl
theorem laidOut : laidOutB Tryz.prog = true := by kernel_rfl
theorem undBool : Tryz.prog.underlying 4 = some .bool := by kernel_rfl
theorem undU64 : Tryz.prog.underlying 22 = some (.int .u64) := by kernel_rfl
theorem undStr : Tryz.prog.underlying 9 = some .string := by kernel_rfl
theorem undInt : Tryz.prog.underlying 3 = some (.int .i64) := by kernel_rfl
theorem and2 {a b : Bool} (ha : a = true) (hb : b = true) : (a && b) = true := by rw [ha, hb]; rfl
theorem pfMaps : mapsRowed Tryz.pinned.checked.prog = true := by kernel_rfl
theorem pfOut : laidOutB Tryz.pinned.checked.prog = true := by kernel_rfl
theorem pfStops : (Tryz.pinned.checked.prog.stops == []) = true := by kernel_rfl
theorem pfKnobs : (Tryz.pinned.checked.prog.stopKnobs == []) = true := by kernel_rfl
theorem pfHeard : Tryz.pinned.checked.prog.stopsHeard = true := by kernel_rfl
theorem pfEnter : Tryz.pinned.checked.prog.mayEnter = true := by kernel_rfl
theorem pfKeys : (Rows.wireNoneRow.plainKeys == Tryz.pinned.checked.prog.plainKeys) = true := by kernel_rfl
theorem pfLift : (Rows.wireNoneRow.lifted == Tryz.pinned.checked.prog.liftsFinal) = true := by kernel_rfl
theorem pfMake : (Tryz.pinned.checked.prog.make == some Rows.wireNoneRow.make) = true := by kernel_rfl
theorem gET : Tryz.prog.globalNamed "errors.errorType" = some 0 := by kernel_rfl
theorem rtCut : (Tryz.prog.cutTypes.find? (·.1 == "internal/reflectlite.rtype")).map (·.2) = some 283 := by kernel_rfl
theorem oneRow : ((List.range 642).filter fun t => Tryz.prog.rowNamed t [101, 114, 114, 111, 114]) = [88] := by kernel_rfl
theorem typesSize : Tryz.prog.types.size = 642 := by kernel_rfl
theorem gt_of {W : World} (h : handlesMet Tryz.prog [("errors.errorType", Rows.laid_errors_errorType)] W) : GT W := by
 obtain ⟨name, u, ty, e1, e2, e3, e4, e5⟩ := h _ (List.mem_singleton.2 rfl)
 have en : name = [101, 114, 114, 111, 114] := (Option.some.inj e1).symm
 subst en
 obtain rfl := Option.some.inj (rtCut.symm.trans e2)
 have hm : ty ∈ (List.range 642).filter fun t => Tryz.prog.rowNamed t [101, 114, 114, 111, 114] := List.mem_filter.2 ⟨List.mem_range.2 (by rw [← typesSize]; exact e3), e4⟩
 rw [oneRow] at hm
 obtain rfl := List.mem_singleton.1 hm
 have hh : typeHandle Tryz.prog 88 = .pointer (some ⟨6, 88, none⟩) := by kernel_rfl
 rw [hh] at e5
 have h9 := World.var?_cell gET e5 0
 simp at h9
 exact h9
theorem size_of {W : World} (hS : W.ShapedOpen Tryz.prog) : 6 ≤ W.heap.size := by
 have h0 : (((begin Tryz.prog (fun _ _ => 0) default).world.heap[6 - 1]?).bind Obj.row?).isSome = true := by kernel_rfl
 obtain ⟨⟨zero, t⟩, h0⟩ := Option.isSome_iff_exists.1 h0
 obtain ⟨cs, hh, -⟩ := hS.1 (6 - 1) zero t (of_decide_eq_true (by kernel_rfl)) h0
 have := (Array.getElem?_eq_some_iff.1 hh).1
 omega
section
variable {H : Type} {enc : TypeId × Value → H} {w : World} {base : Nat} {held : Bool}
theorem SlC.map {α β : Type} {encA : β → List Value} {k n : Nat} {a : Option Addr} {len cap : Nat} {f : α → β} {l : List α} (h : SlC (fun x => encA (f x)) k n w a len cap l) : SlC encA k n w a len cap (l.map f) :=
 ⟨⟨by rw [List.length_map]; exact h.1.1, fun j x hx => by rw [List.getElem?_map] at hx; obtain ⟨y, hy, rfl⟩ := Option.map_eq_some_iff.1 hx; exact h.1.2 j y hy⟩, h.2⟩
theorem slC_open {P : Program} {α : Type} {t e : TypeId} {k : Nat} {encA : α → List Value} {Q : α → Prop} (hk : 0 < k) (ht : P.underlying t = some (.slice e)) (hc : P.cellsOf e = k)
  (hel : ∀ n cs x, DataW.trod enc P w base (fun _ => true) held n e cs = some x → ∃ y, cs = encA y ∧ Q y) {fuel : Nat} {v : Value} {x : DataW H × List MemPlace}
  (h : DataW.trod enc P w base (fun _ => true) held fuel t [v] = some x) : ∃ a len cap l, v = .slice a len cap ∧ SlC encA k w.heap.size w a len cap l ∧ ∀ y ∈ l, Q y := by
 obtain ⟨a, len, cap, rfl⟩ : ∃ a len cap, v = .slice a len cap := by
  rcases open_slice ht h with ⟨h0, _⟩ | ⟨a', len', cap', m, n, D, Pl, hcs, -⟩
  ·simp only [List.cons.injEq, and_true] at h0; exact ⟨_, _, _, h0⟩
  ·simp only [List.cons.injEq, and_true] at hcs; exact ⟨_, _, _, hcs⟩
 obtain ⟨l, hl⟩ := slC_of_trod (encA := fun y : { y // Q y } => encA y.1) hk ht hc (fun n cs x hx => by obtain ⟨y, h1, h2⟩ := hel n cs x hx; exact ⟨⟨y, h2⟩, h1⟩) h
 refine ⟨a, len, cap, l.map (·.1), rfl, hl.map, fun y hy => ?_⟩
 obtain ⟨z, _, rfl⟩ := List.mem_map.1 hy
 exact z.2
theorem wf_u64 {n : Int} (w0 : (Lit.int .u64 n).wf = true) : U64 n := by
 simp only [Lit.wf, IntKind.min, IntKind.max, IntKind.signed, IntKind.bits, Bool.and_eq_true] at w0
 exact ⟨by simpa using w0.1, by have := w0.2; simp at this; omega⟩
set_option maxRecDepth 100000 in
theorem open_str {t : TypeId} {r : Reach} {b0 : Nat} {v : Value} {d : DataW H} {p : List MemPlace} (ht : Tryz.prog.underlying t = some .string) (hv : Value.okWide Tryz.prog w r b0 t v) (_h : DataW.Trod enc Tryz.prog w base (fun _ => true) held t v d p) : ∃ s : ByteArray, v = .string s ∧ True := by
 obtain ⟨s, rfl⟩ := okWide_string ht hv
 exact ⟨s, rfl, trivial⟩
end
def eT : String × DataW Unit := ("errors.errorType", Rows.laid_errors_errorType)
def typeCell : Obj → Obj
 | .cells _ t frozen => .cells #[.iface 283 (.agg #[.pointer (some ⟨6, 88, none⟩)])] t frozen
 | o => o
end Go.Proofs.YtpklkhgnjbopnaaGreatDoor
namespace Go.Proofs.YtpklkhgnjbopnaaGreatDoor
open Go Go.RowKit
structure Ser where
 l : List Lab
 sk : Sk
 seen : Int
structure SerP where
 la : Option Addr
 ll : Nat
 lc : Nat
 ss : SS
end Go.Proofs.YtpklkhgnjbopnaaGreatDoor
namespace Go.Proofs.YtpklkhgnjbopnaaGreatDoor
open Go Go.RowKit Go.Shelf
theorem cell_heap {A B : World} {p : Addr} (h : B.heap[p.block]? = A.heap[p.block]?) : B.cell? p = A.cell? p := by unfold World.cell?; rw [h]
theorem SlC.frame {α : Type} {enc : α → List Value} {k n₀ : Nat} {A B : World} {a : Option Addr} {len cap : Nat} {l : List α} {q : Nat → Prop} (hs : SlC enc k n₀ A a len cap l) (hq : ∀ z, a = some z → 0 < cap → q z.block) (hf : ∀ b, b < n₀ → q b → B.heap[b]? = A.heap[b]?) : SlC enc k n₀ B a len cap l :=
 ⟨⟨hs.1.1, fun j x hx => by
  obtain ⟨b, off, e, hb, hc⟩ := hs.1.2 j x hx
  have hlt := (List.getElem?_eq_some_iff.1 hx).1
  have h1 := hs.1.1
  have h2 := hs.2.1
  exact ⟨b, off, e, hb, fun i hi => (cell_heap (hf b hb (hq _ e (by omega)))).trans (hc i hi)⟩⟩, hs.2⟩
end Go.Proofs.YtpklkhgnjbopnaaGreatDoor
namespace Go.Proofs.YtpklkhgnjbopnaaGreatDoor
open Go Go.RowKit Go.Shelf
attribute [-go_sem] Builtin.append_
def Apart (B : Nat) (A A' : World) : Prop := A.heap.size ≤ A'.heap.size ∧ ∀ b, b < A.heap.size → b ≠ B → A'.heap[b]? = A.heap[b]?
section
variable {B : Nat} {A A' A'' : World}
theorem Apart.of_below (h : Below A.heap.size A A') : Apart B A A' := ⟨h.size, fun b hb _ => h.block b hb⟩
theorem Apart.trans (h : Apart B A A') (h' : Apart B A' A'') : Apart B A A'' := ⟨Nat.le_trans h.1 h'.1, fun b hb hn => (h'.2 b (Nat.lt_of_lt_of_le hb h.1) hn).trans (h.2 b hb hn)⟩
theorem Apart.set (i : Nat) (v : Value) : Apart B A (A.setCell ⟨B, i, none⟩ v) := ⟨by rw [World.size_setCell]; exact Nat.le_refl _, fun b _ hn => heap_set_other (fun h => hn h.symm) v⟩
end
theorem box_set {W : World} {B i : Nat} {c : Array Value} {t : TypeId} (h : W.heap[B]? = some (.cells c t (0, 0))) (v : Value) : ∃ V, W.setCell ⟨B, i, none⟩ v = V ∧ V.heap[B]? = some (.cells (c.setIfInBounds i v) t (0, 0)) ∧ Apart B W V ∧ (∀ n w0, n ≤ B → Below n w0 W → Below n w0 V) ∧ V.heap.size ≤ W.heap.size ∧ W.heap.size ≤ V.heap.size :=
 ⟨_, rfl, hSk h v, Apart.set i v, fun _ _ hn hb => hb.setCell (p := ⟨B, i, none⟩) hn v, Nat.le_of_eq (World.size_setCell ..), Nat.le_of_eq (World.size_setCell ..).symm⟩
end Go.Proofs.YtpklkhgnjbopnaaGreatDoor
namespace Go.Proofs.YtpklkhgnjbopnaaGreatDoor
open Go Go.RowKit Go.Shelf
def Ser.wf (x : Ser) : Prop := x.sk.fit ∧ U64 x.seen
end Go.Proofs.YtpklkhgnjbopnaaGreatDoor
namespace Go.Proofs.YtpklkhgnjbopnaaGreatDoor
open Go Go.RowKit Go.Shelf
theorem set_same {W : World} {B i : Nat} {c : Array Value} {t : TypeId} {fz : Nat × Nat} {v : Value} (h : W.heap[B]? = some (.cells c t fz)) (hv : c[i]? = some v) : W.setCell ⟨B, i, none⟩ v = W := by
 have hc : c.setIfInBounds i v = c := by
  obtain ⟨hi, rfl⟩ := Array.getElem?_eq_some_iff.1 hv
  apply Array.ext (by simp)
  intro j h1 h2
  rw [Array.getElem_setIfInBounds]
  split
  ·rename_i e; subst e; rfl
  ·rfl
 have key : (W.setCell ⟨B, i, none⟩ v).heap = W.heap := by
  apply Array.ext (size_set W _ v)
  intro j h1 h2
  have a1 : (W.setCell ⟨B, i, none⟩ v).heap[j]? = W.heap[j]? := by
   by_cases hj : B = j
   ·subst hj
    rw [hSk h, h, hc]
   ·exact heap_set_other (p := ⟨B, i, none⟩) hj v
  rw [Array.getElem?_eq_getElem h1, Array.getElem?_eq_getElem h2] at a1
  exact Option.some.inj a1
 have e : W.setCell ⟨B, i, none⟩ v = { W with heap := (W.setCell ⟨B, i, none⟩ v).heap } := rfl
 rw [e, key]
end Go.Proofs.YtpklkhgnjbopnaaGreatDoor
namespace Go.Proofs.YtpklkhgnjbopnaaGreatDoor
open Go Go.RowKit Go.Shelf
def encIt (i : Nat × Int) : List Value := [.int .u64 i.1, .int .u64 i.2]
theorem und_items : Tryz.prog.underlying 53 = some (.slice 123) := by kernel_rfl
theorem take_items (a : Option Addr) (len cap m : Nat) (w : World) (h : m ≤ cap) : (Instr.slice 53 (.slice a len cap) none (some (.int .i64 (m : Int))) none).run Tryz.prog w = .ok (.slice a m cap) w := by
 have hz := dropA_zero a cap 2
 unfold dropA at hz
 have hs : (sizeOf 123).run Tryz.prog w = .ok 2 w := by kernel_rfl
 have he : Tryz.prog.elem 53 = 123 := by kernel_rfl
 rw [run_slice_h (t := 53) (a := a) (len := len) (cap := cap) (w := w) (ht := by rw [he]; exact und_items) (kh := .i64) (h := (m : Int)) (by omega) (by omega), he, hs]
 simp only [Result.andThen, sliced, Int.toNat_natCast, Nat.sub_zero, hz]
end Go.Proofs.YtpklkhgnjbopnaaGreatDoor
namespace Go.Proofs.YtpklkhgnjbopnaaGreatDoor
open Go Go.ChangeShapes Go.WideShapes Go.ChangeAt Go.RowKit Go.Lib Go.Deep Go.Shelf
section
variable {H : Type} {enc : TypeId × Value → H} {w : World} {base : Nat} {held : Bool}
set_option maxRecDepth 100000 in
theorem item_elem (n : Nat) (cs : List Value) (x : DataW H × List MemPlace) (h : DataW.trod enc Tryz.prog w base (fun _ => true) held n 123 cs = some x) : ∃ y : Nat × Int, cs = encIt y ∧ Item.ok y := by
 obtain ⟨hl, m, hf⟩ := struct_cells Tryz.underlying123 (by kernel_rfl) (by kernel_rfl) h
 obtain ⟨v0, y0, e0, h0⟩ := hf 0 _ rfl
 obtain ⟨v1, y1, e1, h1⟩ := hf 1 _ rfl
 obtain ⟨s0, c0, -, w0⟩ := DataW.trod_int undU64 h0
 obtain ⟨s1, c1, -, w1⟩ := DataW.trod_int undU64 h1
 match cs, hl with
 | [a, b], _ =>
  simp only [List.getElem?_cons_zero, List.getElem?_cons_succ, Option.some.injEq, List.cons.injEq, and_true] at e0 e1 c0 c1
  obtain ⟨p1, p2⟩ := wf_u64 w0
  refine ⟨(s0.toNat, s1), ?_, ?_, wf_u64 w1⟩
  ·rw [e0, e1, c0, c1]
   show _ = [Value.int .u64 ((s0.toNat : Nat) : Int), .int .u64 s1]
   rw [Int.toNat_of_nonneg p1]
  ·show s0.toNat < 2 ^ 64
   omega
end
end Go.Proofs.YtpklkhgnjbopnaaGreatDoor
namespace Go.Proofs.YtpklkhgnjbopnaaGreatDoor
open Go Go.RowKit Go.Shelf
attribute [local go_sem] Oper.semAt_some
def KB (B : Nat) (W W' : World) : Prop := ∀ o, W.heap[B]? = some o → W'.heap[B]? = some o
theorem KB.trans {B : Nat} {X Y Z : World} (h : KB B X Y) (k : KB B Y Z) : KB B X Z := fun o ho => k o (h o ho)
theorem KB.refl (B : Nat) (X : World) : KB B X X := fun _ h => h
theorem wp_range_kb {α : Type} {P : Program} {g : Operand} {ps : Array Tmp} {assign body : Code} {Q : Exit → Act → World → Prop} {a : Act} {w : World} (Bs : Nat) (T : α → Array Value)
  {gf : Nat} {lb : Array Value} (hg : a.eval g = .func (.func gf) #[] lb) (eg : ∀ args w, (callFunc gf args).run P w = .ok (.enter gf args) w)
  {encs : α → Array Value} {xs : List α} {N : Nat} {w0 : World} (hseq : SeqStopsK Fence.wide 8 P gf lb encs (KB Bs) (fun ys => ys = xs) (fun pre => pre <+: xs) N w0)
  (hBs : Bs < w.heap.size) (hb0 : Below w0.heap.size w0 w) (hps : ∀ x, (encs x).size = ps.size)
  (I : List α → World → Prop) (Ix : Code → List α → World → Prop) (hI : OwnFrom w.heap.size I) (hIx : ∀ c, OwnFrom w.heap.size (Ix c)) (h0 : I [] w)
  (hassign : ∀ (l : Nat) (pre : List α) (x : α) (W : World) (K : Act → World → Prop), I pre W → (I pre W → K { tmps := T x, defers := [] } W) →
   assign.wpIn (Fence.wide.inRound l) 7 P (Exit.then K (fun _ _ _ => False)) { tmps := (ps.zip (encs x)).foldl (fun t (p, v) => t.setIfInBounds p v) a.tmps, defers := [] } W)
  (hbody : ∀ (l : Nat) (pre : List α) (x : α) (W : World), I pre W → pre.length < N → body.wpIn (Fence.wide.inRound l) 7 P (ownPostG w.heap.size (KB Bs) I Ix (pre ++ [x]) W) { tmps := T x, defers := [] } W)
  (hdone : ∀ (D : Nat) (W : World), w.heap.size ≤ D → I xs W → W.heap[D]? = some (.deferred (some [])) → Q .normal { a with defers := { target := .collected D, args := #[] } :: a.defers } W)
  (hstop : ∀ (D : Nat) (c : Code) (pre : List α) (W : World), w.heap.size ≤ D → pre <+: xs → Ix c pre W → W.heap[D]? = some (.deferred (some [])) → c.wp P Q { a with defers := { target := .collected D, args := #[] } :: a.defers } W) :
  (Code.rangeFunc g ps assign body).wp P Q a w :=
 (wpIn_wide (n := 9)).1 (wpIn_rangeFunc_ownH rfl (by omega) hg trivial eg hseq (fun h k => h.trans k)
  (fun W l o o' hl h _ _ o2 h2 => (World.putObj_heap_other (by omega)).trans h2) hb0 hps I Ix hI hIx h0 (fun x a' _ => a' = { tmps := T x, defers := [] }) (fun _ _ => ownFrom_pure _ _)
  (fun l pre x W K hi hK => hassign l pre x W K hi (fun hi' => hK _ _ (KeepsFrom.refl _ _) (KB.refl _ _) hi' rfl))
  (fun l pre x a' W _ _ hi hax hlt => by subst hax; exact hbody l pre x W hi hlt) (fun D ys W hD e hi hK => by subst e; exact hdone D W hD hi hK) (fun D c pre W hD hp hi hK => wpIn_wide.2 (hstop D c pre W hD hp hi hK)))
theorem wp_range_brk2 {α : Type} {P : Program} {g : Operand} {ps : Array Tmp} {assign body : Code} {Q : Exit → Act → World → Prop} {a : Act} {w : World} {id : Nat} (Bs s1 s2 : Nat) (v1 v2 : α → Value)
  {gf : Nat} {lb : Array Value} (hg : a.eval g = .func (.func gf) #[] lb) (eg : ∀ args w, (callFunc gf args).run P w = .ok (.enter gf args) w)
  {encs : α → Array Value} {xs : List α} {N : Nat} {w0 : World} (hseq : SeqStopsK Fence.wide 8 P gf lb encs (KB Bs) (fun ys => ys = xs) (fun pre => pre <+: xs) N w0)
  (hBs : Bs < w.heap.size) (hb0 : Below w0.heap.size w0 w) (hps : ∀ x, (encs x).size = ps.size)
  (I Ib : List α → World → Prop) (hI : OwnFrom w.heap.size I) (hIb : OwnFrom w.heap.size Ib) (h0 : I [] w)
  (hassign : ∀ (l : Nat) (pre : List α) (x : α) (W : World) (K : Act → World → Prop), I pre W → (I pre W → K { tmps := (((ps.zip (encs x)).foldl (fun t (p, v) => t.setIfInBounds p v) a.tmps).setIfInBounds s1 (v1 x)).setIfInBounds s2 (v2 x), defers := [] } W) →
   assign.wpIn (Fence.wide.inRound l) 7 P (Exit.then K (fun _ _ _ => False)) { tmps := (ps.zip (encs x)).foldl (fun t (p, v) => t.setIfInBounds p v) a.tmps, defers := [] } W)
  (hbody : ∀ (l : Nat) (pre : List α) (x : α) (W : World), I pre W → pre.length < N → body.wpIn (Fence.wide.inRound l) 7 P (ownPostG w.heap.size (KB Bs) I (fun c pre W => c = .exit id ∧ Ib pre W) (pre ++ [x]) W) { tmps := (((ps.zip (encs x)).foldl (fun t (p, v) => t.setIfInBounds p v) a.tmps).setIfInBounds s1 (v1 x)).setIfInBounds s2 (v2 x), defers := [] } W)
  (hfin : ∀ (D : Nat) (W : World), w.heap.size ≤ D → (I xs W ∨ ∃ pre, pre <+: xs ∧ Ib pre W) → W.heap[D]? = some (.deferred (some [])) → Q .normal { a with defers := { target := .collected D, args := #[] } :: a.defers } W) :
  (Code.rangeFunc g ps assign body).wp P (Exit.inBlock id Q) a w :=
 wp_range_kb Bs _ hg eg hseq hBs hb0 hps I (fun c pre W => c = .exit id ∧ Ib pre W) hI (fun _ => (ownFrom_pure _ _).and hIb) h0 hassign hbody (fun D W hD hi hK => hfin D W hD (.inl hi) hK)
  (fun D c pre W hD hp hi hK => by obtain ⟨rfl, hi⟩ := hi; exact wp_exit (by show (if id = id then Q .normal _ _ else Q (.exit id) _ _); rw [if_pos rfl]; exact hfin D W hD (.inr ⟨pre, hp, hi⟩) hK))
end Go.Proofs.YtpklkhgnjbopnaaGreatDoor
namespace Go.Proofs.YtpklkhgnjbopnaaGreatDoor
open Go Go.RowKit Go.Shelf
structure Kept (q : Nat → Prop) (A B : World) : Prop where
 os : B.os = A.os
 tape : B.tape = A.tape
 output : B.output = A.output
 size : A.heap.size ≤ B.heap.size
 block : ∀ k, k < A.heap.size → q k → B.heap[k]? = A.heap[k]?
section
variable {q r : Nat → Prop} {A B C : World}
theorem Kept.of (h : Below A.heap.size A B) : Kept q A B := ⟨h.os, h.tape, h.output, h.size, fun k hk _ => h.block k hk⟩
theorem Kept.refl : Kept q A A := .of (.refl _ _)
theorem Kept.trans (h : Kept q A B) (k : Kept q B C) : Kept q A C := ⟨k.os.trans h.os, k.tape.trans h.tape, k.output.trans h.output, Nat.le_trans h.size k.size, fun i hi hq => (k.block i (Nat.lt_of_lt_of_le hi h.size) hq).trans (h.block i hi hq)⟩
theorem Kept.mono (h : Kept q A B) (hr : ∀ k, r k → q k) : Kept r A B := ⟨h.os, h.tape, h.output, h.size, fun k hk hq => h.block k hk (hr k hq)⟩
theorem Kept.drew (h : Kept q A B) : Kept q A B.drew := ⟨h.os, h.tape, h.output, h.size, h.block⟩
theorem Kept.set (h : Kept q A B) {b : Nat} (hb : b < A.heap.size → ¬ q b) (i : Nat) (v : Value) : Kept q A (B.setCell ⟨b, i, none⟩ v) := ⟨h.os, h.tape, h.output, by rw [World.size_setCell]; exact h.size, fun k hk hq => (heap_set_other (p := ⟨b, i, none⟩) (fun e => hb (by have e : b = k := e; omega) (by have e : b = k := e; exact e ▸ hq)) v).trans (h.block k hk hq)⟩
theorem Kept.below {n : Nat} (h : Kept q A B) (hn : ∀ k, k < n → q k) (hs : n ≤ A.heap.size) : Below n A B := ⟨h.os, h.tape, h.output, h.size, fun k hk => h.block k (Nat.lt_of_lt_of_le hk hs) (hn k hk)⟩
theorem Kept.known {k : Nat} {o : Obj} (h : Kept q A B) (hq : q k) (e : A.heap[k]? = some o) : B.heap[k]? = some o := (h.block k (Array.getElem?_eq_some_iff.1 e).1 hq).trans e
theorem Kept.cell {p : Addr} {v : Value} (h : Kept q A B) (hq : q p.block) (e : A.cell? p = some v) : B.cell? p = some v := (cell_heap (h.block _ (World.block_lt_of_cell? A _ e) hq)).trans e
theorem SlC.keep {α : Type} {enc : α → List Value} {k : Nat} {a : Option Addr} {len cap : Nat} {l : List α} (h : SlC enc k A.heap.size A a len cap l) (hk : Kept q A B) (hn : ∀ z, a = some z → 0 < cap → q z.block) : SlC enc k B.heap.size B a len cap l :=
 (h.frame hn hk.block).mono hk.size
end
end Go.Proofs.YtpklkhgnjbopnaaGreatDoor

/- Regions that draw their order inside a round: by the walk outside of one. Of no program. Package hist: done. Package ladder: the four bodies' add and lower; told. errors.As at a target of type **ladder.fault: lines of the worked example ToyasAs turned to this program; ladder.errno, isFull. What rows have in common: the program's closed facts, sketches and numbers opened, errors.errorType. Printed by gen_rz.py. strings.Builder: copyCheck, WriteString, WriteByte at this program (the library's copyCheck holds a branch that the loader refuses, so the shelf's contracts are not laid). Package label: quoted. Package label: Text. aviarylaw12: One: printed by wip/tools/gen_f8.py. Tables of series in memory. series.add. Series of Go's sizes; aviarylaw12.shown. Package ladder: stores into a box, kept bodies and sketches; lowered at the bottom; told. Laws of layer 10: items; New, whatever the kind. Package field: Put: printed by wip/tools/gen_y1.py. Bytes of numbers, one behind the other: plain. -/
import Derived.Shelf.SlSorted.Search
import Derived.ArgAppend
import Derived.Laws.CopyRow
import Derived.Laws.CopyOwn
import Derived.Laws.Tables
import Derived.Laws.BytesArg
import Derived.Lib.ConvBytes
import Derived.Maps.OwnOps
import Derived.Maps.OwnSet
import Derived.Maps.RangeWalk
import Derived.Maps.Ext
import Derived.Shelf.SlIterI.Nil
import Derived.Ground.GgzProg
import Derived.LaidEql
import Derived.Stop.Asserts
import Derived.RowKitTokens
import Derived.Test.YtpklkhgnjbopnaaGreatDoorCards
import Derived.Test.YtpklkhgnjbopnaaGreatDoorTie
import Derived.LaidHandle
import Derived.Shelf.Vars
import Derived.ChangeMaps5
import Derived.Test.YtpklkhgnjbopnaaGreatDoorZUA
namespace Go.Proofs.YtpklkhgnjbopnaaGreatDoor
open Go Go.RowKit
section
variable {F : Fence} {n : Nat} {P : Program} {ops : Array Oper} {Q : Exit → Act → World → Prop} {md : Region.Mode} {l : Nat}
theorem wpInO_round {o : Oper} {K : Act → World → Prop} {a : Act} {w : World} (hro : F.round = none) (hd : ∀ c, o.op ≠ .defer c) (h : o.wpIn F n P a w K Q) : o.wpIn (F.inRound l) n P a w K Q := by
 unfold Oper.wpIn at h ⊢
 refine ⟨h.1, ?_⟩
 have h2 := h.2
 rw [hro, Oper.semAt_none] at h2
 rw [Fence.inRound_round, Oper.semAt_some _ _ _ hd]
 generalize (execOp a.eval o).run P w = r at h2 ⊢
 cases r with
 | ok x w' => cases x <;> exact h2
 | halt x w' => cases x <;> exact h2
theorem wpOpIn_round {i : Nat} {K : Act → World → Prop} {a : Act} {w : World} (hro : F.round = none) (hd : ∀ (i : Nat) (o : Oper), ops[i]? = some o → ∀ c, o.op ≠ .defer c) (h : wpOpIn F n P ops Q i K a w) : wpOpIn (F.inRound l) n P ops Q i K a w := by
 unfold wpOpIn at h ⊢
 cases ho : ops[i]? with
 | none => simpa only [ho] using h
 | some o =>
  simp only [ho] at h ⊢
  split
  ·rename_i hw; rw [if_pos hw] at h; exact wpInO_round hro (hd i o ho) h
  ·rename_i hw; rw [if_neg hw] at h; exact h
theorem wpAnyIn_round (hro : F.round = none) (hd : ∀ (i : Nat) (o : Oper), ops[i]? = some o → ∀ c, o.op ≠ .defer c) (fuel : Nat) : ∀ (listed : Array Bool) (a : Act) (w : World), wpAnyIn F n P md ops Q fuel listed a w → wpAnyIn (F.inRound l) n P md ops Q fuel listed a w := by
 induction fuel with
 | zero => intro listed a w h; exact h
 | succ fuel ih => intro listed a w h; exact ⟨h.1, fun i hi => wpOpIn_round hro hd (wpOpIn_mono (fun a' w' h' => ih (listed.setIfInBounds i true) a' w' h') (h.2 i hi))⟩
def noDefers (ops : Array Oper) : Bool := ops.toList.all fun o => match o.op with | .defer _ => false | _ => true
theorem noDefers_spec (h : noDefers ops = true) : ∀ (i : Nat) (o : Oper), ops[i]? = some o → ∀ c, o.op ≠ .defer c := by
 intro i o ho c hc
 rw [noDefers, List.all_eq_true] at h
 have h1 := h o (by rw [← Array.getElem?_toList] at ho; exact List.mem_of_getElem? ho)
 rw [hc] at h1
 cases h1
theorem wpIn_region_round {id : Nat} {a : Act} {w : World} (hro : F.round = none) (hm : P.follows .mixedOrders = true) (hd : noDefers ops = true)
  (h : wpAnyIn F n P .any ops Q ops.size (Array.replicate ops.size false) a w.drew) : (Code.region id ops true).wpIn (F.inRound l) n P Q a w :=
 wpIn_region_any hm (wpAnyIn_round hro (noDefers_spec hd) _ _ _ _ h)
end
end Go.Proofs.YtpklkhgnjbopnaaGreatDoor
namespace Go.Proofs.YtpklkhgnjbopnaaGreatDoor
open Go Go.RowKit Go.Shelf Go.Maps Go.Sort
abbrev encI : Int → List Value := fun x => [encZ x]
attribute [-go_sem] Builtin.append_
end Go.Proofs.YtpklkhgnjbopnaaGreatDoor
namespace Go.Proofs.YtpklkhgnjbopnaaGreatDoor
open Go Go.RowKit Go.Shelf
def FaultAt (W : World) (v : Value) (no : Int) : Prop := ∃ b, v = .iface 360 (.pointer (some ⟨b, 0, none⟩)) ∧ W.heap[b]? = some (.cells #[.int .i64 no] 362 (0, 0))
-- METHODS
end Go.Proofs.YtpklkhgnjbopnaaGreatDoor
namespace Go.Proofs.YtpklkhgnjbopnaaGreatDoor
open Go Go.RowKit Go.Extern.Stop Go.Stop Go.Extern
theorem as_nil (t : Value) (w : World) :
  Calls Tryz.prog 97 #[.nilIface, t] w fun e w' => e = .returned (.bool false) ∧ w' = w := by
 go_enter Tryz.func97, Tryz.ntmps97
 go_wp2
 go_ret
 exact ⟨rfl, rfl⟩
theorem as_valueOf27 (t : Addr) (w : World) : (ReflectliteValue.unpack (.iface 476 (.pointer (some t)))).run Tryz.prog w
  = .ok (.agg #[.pointer (some ⟨6, 476, none⟩), .pointer (some ⟨w.heap.size, 0, none⟩), .int .u64 150]) (w.alloc (.cells #[.pointer (some t)] 476)) := by kernel_rfl
theorem as_type27 (a : Addr) (w : World) : (ReflectliteValue.methodAny (ReflectliteValue.valueError "reflectlite.Value.Type" 0) (fun t _ _ _ => ReflectliteType.toType t) #[.agg #[.pointer (some ⟨6, 476, none⟩), .pointer (some a), .int .u64 150]]).run Tryz.prog w
  = .ok (.iface 283 (.agg #[.pointer (some ⟨6, 476, none⟩)])) w := by kernel_rfl
theorem as_methodKind (h : Value) (w : World) : (Go.method 742 283 (.agg #[h]) "Kind").run Tryz.prog w = .ok (342, h) w := by kernel_rfl
theorem as_kind27 (w : World) : ((ReflectliteType.abiMethod fun t => (fun a : Nat => Value.int IntKind.u8 (a : Int)) <$> Rtype.kind t) #[.pointer (some ⟨6, 476, none⟩)]).run Tryz.prog w = .ok (.int .u8 22) w := by kernel_rfl
theorem as_kind25 (w : World) : ((ReflectliteType.abiMethod fun t => (fun a : Nat => Value.int IntKind.u8 (a : Int)) <$> Rtype.kind t) #[.pointer (some ⟨6, 360, none⟩)]).run Tryz.prog w = .ok (.int .u8 22) w := by kernel_rfl
theorem rlm (z : Sem Value) (f : TypeId → Addr → Nat → Nat → Sem Value) (v : Value) :
  ReflectliteValue.method z f #[v] = (do match ← ReflectliteValue.parts v with | none => z | some (t, a, fl) => f t a fl (fl % 32)) := rfl
theorem as_parts27 (a : Addr) (w : World) : (ReflectliteValue.parts (.agg #[.pointer (some ⟨6, 476, none⟩), .pointer (some a), .int .u64 150])).run Tryz.prog w = .ok (some (476, a, 150)) w := by kernel_rfl
theorem as_isNil27 (a p : Addr) (W : World) (ha : W.cell? a = some (.pointer (some p))) :
  (ReflectliteValue.method (ReflectliteValue.valueError "reflectlite.Value.IsNil" 0) ReflectliteValue.isNil #[.agg #[.pointer (some ⟨6, 476, none⟩), .pointer (some a), .int .u64 150]]).run Tryz.prog W = .ok (.bool false) W := by
 rw [rlm]
 simp only [Sem.run_bind, as_parts27, Result.andThen]
 simp [ReflectliteValue.isNil, loadVar, isAgg, underlying, Tryz.underlying476, ha, Result.andThen]
theorem as_methodElem (h : Value) (w : World) : (Go.method 742 283 (.agg #[h]) "Elem").run Tryz.prog w = .ok (358, .agg #[h]) w := by kernel_rfl
theorem as_methodImplements (h : Value) (w : World) : (Go.method 742 283 (.agg #[h]) "Implements").run Tryz.prog w = .ok (359, .agg #[h]) w := by kernel_rfl
theorem as_methodAssignableTo (h : Value) (w : World) : (Go.method 742 283 (.agg #[h]) "AssignableTo").run Tryz.prog w = .ok (356, .agg #[h]) w := by kernel_rfl
theorem as_elem27 (w : World) : (ReflectliteType.method ReflectliteType.elem #[.agg #[.pointer (some ⟨6, 476, none⟩)]]).run Tryz.prog w = .ok (.iface 283 (.agg #[.pointer (some ⟨6, 360, none⟩)])) w := by kernel_rfl
theorem as_implements25 (w : World) : (ReflectliteType.relation "Implements" ReflectliteType.implements_ #[.agg #[.pointer (some ⟨6, 360, none⟩)], .iface 283 (.agg #[.pointer (some ⟨6, 88, none⟩)])]).run Tryz.prog w = .ok (.bool true) w := by kernel_rfl
theorem as_typeOf25 (v : Value) (w : World) : (ReflectliteType.typeOf #[.iface 360 v]).run Tryz.prog w = .ok (.iface 283 (.agg #[.pointer (some ⟨6, 360, none⟩)])) w := by kernel_rfl
theorem as_assignable25 (w : World) : (ReflectliteType.relation "AssignableTo" ReflectliteType.assignableTo #[.agg #[.pointer (some ⟨6, 360, none⟩)], .iface 283 (.agg #[.pointer (some ⟨6, 360, none⟩)])]).run Tryz.prog w = .ok (.bool true) w := by kernel_rfl
theorem as_valueOf25 (e : Addr) (w : World) : (ReflectliteValue.unpack (.iface 360 (.pointer (some e)))).run Tryz.prog w
  = .ok (.agg #[.pointer (some ⟨6, 360, none⟩), .pointer (some ⟨w.heap.size, 0, none⟩), .int .u64 150]) (w.alloc (.cells #[.pointer (some e)] 360)) := by kernel_rfl
theorem as_elemOf27 (w : World) : (Rtype.elem? 476).run Tryz.prog w = .ok (some 360) w := by kernel_rfl
theorem as_mk25 (p : Addr) (w : World) : (ReflectliteValue.mk 360 p ReflectliteValue.flagAddr).run Tryz.prog w = .ok (.agg #[.pointer (some ⟨6, 360, none⟩), .pointer (some p), .int .u64 406]) w := by kernel_rfl
theorem as_elemV27 (a p : Addr) (W : World) (ha : W.cell? a = some (.pointer (some p))) :
  (ReflectliteValue.method (ReflectliteValue.valueError "reflectlite.Value.Elem" 0) ReflectliteValue.elem #[.agg #[.pointer (some ⟨6, 476, none⟩), .pointer (some a), .int .u64 150]]).run Tryz.prog W
   = .ok (.agg #[.pointer (some ⟨6, 360, none⟩), .pointer (some p), .int .u64 406]) W := by
 rw [rlm]
 simp only [Sem.run_bind, as_parts27, Result.andThen]
 simp [ReflectliteValue.elem, loadVar, isAgg, underlying, Tryz.underlying476, ha, Result.andThen, as_elemOf27, as_mk25]
theorem rls (v x : Value) : ReflectliteValue.set #[v, x] = (do
  let (some (dst, a, fl), some (src, b, _)) := (← ReflectliteValue.parts v, ← ReflectliteValue.parts x)
   | unsupported (.noEntry "extern/(internal/reflectlite.Value).Set.zeroValue")
  if fl / ReflectliteValue.flagAddr % 2 == 0 then unsupported (.noEntry "extern/(internal/reflectlite.Value).Set.unaddressable")
  let val ← loadVar src b
  if ← Rtype.directlyAssignable dst src then storeVar dst a val
  else if ← Rtype.implements dst src then
   if (← Rtype.kind src) == 20 then
    match val with
    | .nilIface => unsupported (.noEntry "extern/reflectlite: a nil value of one interface type handed on as a value of another")
    | _ => storeVar dst a val
   else storeVar dst a (.iface src val)
  else panicString ("reflectlite.Set: value of type " ++ (← Rtype.spelt src) ++ " is not assignable to type " ++ (← Rtype.spelt dst))
  pure (.tuple #[])) := rfl
theorem as_parts25a (a : Addr) (w : World) : (ReflectliteValue.parts (.agg #[.pointer (some ⟨6, 360, none⟩), .pointer (some a), .int .u64 406])).run Tryz.prog w = .ok (some (360, a, 406)) w := by kernel_rfl
theorem as_parts25 (a : Addr) (w : World) : (ReflectliteValue.parts (.agg #[.pointer (some ⟨6, 360, none⟩), .pointer (some a), .int .u64 150])).run Tryz.prog w = .ok (some (360, a, 150)) w := by kernel_rfl
theorem as_direct25 (w : World) : (Rtype.directlyAssignable 360 360).run Tryz.prog w = .ok true w := by kernel_rfl
theorem as_set25 (ta b e : Addr) (old : Value) (W : World) (hb : W.cell? b = some (.pointer (some e))) (ht : W.cell? ta = some old) (hf : W.frozen? ta = false) :
  (ReflectliteValue.set #[.agg #[.pointer (some ⟨6, 360, none⟩), .pointer (some ta), .int .u64 406], .agg #[.pointer (some ⟨6, 360, none⟩), .pointer (some b), .int .u64 150]]).run Tryz.prog W
   = .ok (.tuple #[]) (W.setCell ta (.pointer (some e))) := by
 rw [rls]
 simp only [Sem.run_bind, as_parts25a, as_parts25, Result.andThen]
 simp [ReflectliteValue.flagAddr, loadVar, isAgg, underlying, Tryz.underlying360, hb, Result.andThen, as_direct25, storeVar, Value.cells, storeCells, Addr.add]
 rw [run_store Tryz.prog W ta _ _ (by rfl)]
 simp [ht, hf]
set_option maxHeartbeats 4000000 in
theorem as_hit (e t : Addr) (old : Value) (w : World) (hg : w.cell? ⟨0, 0, none⟩ = some (.iface 283 (.agg #[.pointer (some ⟨6, 88, none⟩)]))) (ht0 : w.cell? t = some old) (hf0 : w.frozen? t = false) :
  Calls Tryz.prog 97 #[.iface 360 (.pointer (some e)), .iface 476 (.pointer (some t))] w fun ev w' => ev = .returned (.bool true) ∧ w' = ((((w.alloc (.cells #[.pointer (some t)] 476)).alloc (.cells #[.pointer (some ⟨6, 476, none⟩), .pointer (some ⟨w.heap.size, 0, none⟩), .int .u64 150] 228)).alloc (.cells #[.pointer (some ⟨6, 476, none⟩), .pointer (some ⟨w.heap.size, 0, none⟩), .int .u64 150] 228)).alloc (.cells #[.pointer (some e)] 360)).setCell t (.pointer (some e)) := by
 have h6 := @run_callFunc_extern Tryz.prog 120 _ (fun args => ReflectliteValue.unpack (args.getD 0 (.tuple #[]))) Tryz.func120 (by kernel_rfl) (by kernel_rfl) (by kernel_rfl) (by kernel_rfl)
 have h7 := @run_callFunc_extern Tryz.prog 121 _ (ReflectliteValue.methodAny (ReflectliteValue.valueError "reflectlite.Value.Type" 0) (fun t _ _ _ => ReflectliteType.toType t)) Tryz.func121 (by kernel_rfl) (by kernel_rfl) (by kernel_rfl) (by kernel_rfl)
 have h8 := @run_callFunc_extern Tryz.prog 122 _ (ReflectliteValue.method (ReflectliteValue.valueError "reflectlite.Value.IsNil" 0) ReflectliteValue.isNil) Tryz.func122 (by kernel_rfl) (by kernel_rfl) (by kernel_rfl) (by kernel_rfl)
 have h27 := @run_callFunc_extern Tryz.prog 342 _ (ReflectliteType.abiMethod fun t => do pure (.int .u8 (← Rtype.kind t))) Tryz.func342 (by kernel_rfl) (by kernel_rfl) (by kernel_rfl) (by kernel_rfl)
 have h37 := @run_callFunc_extern Tryz.prog 358 _ (ReflectliteType.method ReflectliteType.elem) Tryz.func358 (by kernel_rfl) (by kernel_rfl) (by kernel_rfl) (by kernel_rfl)
 have h38 := @run_callFunc_extern Tryz.prog 359 _ (ReflectliteType.relation "Implements" ReflectliteType.implements_) Tryz.func359 (by kernel_rfl) (by kernel_rfl) (by kernel_rfl) (by kernel_rfl)
 have h10 := @run_callFunc_extern Tryz.prog 145 _ ReflectliteType.typeOf Tryz.func145 (by kernel_rfl) (by kernel_rfl) (by kernel_rfl) (by kernel_rfl)
 have h35 := @run_callFunc_extern Tryz.prog 356 _ (ReflectliteType.relation "AssignableTo" ReflectliteType.assignableTo) Tryz.func356 (by kernel_rfl) (by kernel_rfl) (by kernel_rfl) (by kernel_rfl)
 have h11 := @run_callFunc_extern Tryz.prog 146 _ (ReflectliteValue.method (ReflectliteValue.valueError "reflectlite.Value.Elem" 0) ReflectliteValue.elem) Tryz.func146 (by kernel_rfl) (by kernel_rfl) (by kernel_rfl) (by kernel_rfl)
 have h12 := @run_callFunc_extern Tryz.prog 147 _ ReflectliteValue.set Tryz.func147 (by kernel_rfl) (by kernel_rfl) (by kernel_rfl) (by kernel_rfl)
 have tO := as_typeOf25
 have mA := as_methodAssignableTo
 have a25 := as_assignable25
 have v25 := as_valueOf25
 have f6 := as_valueOf27
 have f7 := as_type27
 have mK := as_methodKind
 have mE := as_methodElem
 have mI := as_methodImplements
 have k27 := as_kind27
 have k25 := as_kind25
 have e27 := as_elem27
 have i25 := as_implements25
 have n8 := as_isNil27 ⟨w.heap.size, 0, none⟩ t ((w.alloc (.cells #[.pointer (some t)] 476)).alloc (.cells #[.pointer (some ⟨6, 476, none⟩), .pointer (some ⟨w.heap.size, 0, none⟩), .int .u64 150] 228)) (by simp)
 have hlt : 0 < w.heap.size := World.block_lt_of_cell? w _ hg
 have hg2 : ((w.alloc (.cells #[.pointer (some t)] 476)).alloc (.cells #[.pointer (some ⟨6, 476, none⟩), .pointer (some ⟨w.heap.size, 0, none⟩), .int .u64 150] 228)).cell? ⟨0, 0, none⟩ = some (.iface 283 (.agg #[.pointer (some ⟨6, 88, none⟩)])) := by
  rw [World.cell?_alloc_lt _ _ ⟨0, 0, none⟩ (by simp <;> omega), World.cell?_alloc_lt _ _ ⟨0, 0, none⟩ hlt]; exact hg
 have htl : t.block < w.heap.size := by
  rcases Nat.lt_or_ge t.block w.heap.size with h | h
  ·exact h
  ·simp [World.cell?, Array.getElem?_eq_none h] at ht0
 have el := as_elemV27 ⟨w.heap.size, 0, none⟩ t (((w.alloc (.cells #[.pointer (some t)] 476)).alloc (.cells #[.pointer (some ⟨6, 476, none⟩), .pointer (some ⟨w.heap.size, 0, none⟩), .int .u64 150] 228)).alloc (.cells #[.pointer (some ⟨6, 476, none⟩), .pointer (some ⟨w.heap.size, 0, none⟩), .int .u64 150] 228)) (by rw [World.cell?_alloc_lt _ _ ⟨w.heap.size, 0, none⟩ (by simp; omega)]; simp)
 have st := as_set25 t ⟨w.heap.size + 1 + 1 + 1, 0, none⟩ e old ((((w.alloc (.cells #[.pointer (some t)] 476)).alloc (.cells #[.pointer (some ⟨6, 476, none⟩), .pointer (some ⟨w.heap.size, 0, none⟩), .int .u64 150] 228)).alloc (.cells #[.pointer (some ⟨6, 476, none⟩), .pointer (some ⟨w.heap.size, 0, none⟩), .int .u64 150] 228)).alloc (.cells #[.pointer (some e)] 360))
  (by rw [World.cell?_alloc_at _ _ _ _ (by simp)]; rfl)
  (by rw [World.cell?_alloc_lt _ _ t (by simp; omega), World.cell?_alloc_lt _ _ t (by simp; omega), World.cell?_alloc_lt _ _ t (by simp; omega), World.cell?_alloc_lt _ _ t htl]; exact ht0)
  (by rw [World.frozen?_alloc_old _ _ t (by simp; omega), World.frozen?_alloc_old _ _ t (by simp; omega), World.frozen?_alloc_old _ _ t (by simp; omega), World.frozen?_alloc_old _ _ t (Nat.ne_of_lt htl)]; exact hf0)
 go_enter Tryz.func97, Tryz.ntmps97
 go_wp2
 refine wp_loop_rounds 1 ?_
 rw [rounds_succ]
 go_wp2
 go_ret
 exact ⟨rfl, rfl⟩
def GT (w : World) : Prop := w.cell? ⟨0, 0, none⟩ = some (.iface 283 (.agg #[.pointer (some ⟨6, 88, none⟩)]))
theorem GT.lt {w : World} (h : GT w) : 0 < w.heap.size := World.block_lt_of_cell? w _ h
theorem GT.go {w w' : World} (h : GT w) (hb : Below w.heap.size w w') : GT w' := (hb.cell (p := ⟨0, 0, none⟩) h.lt).trans h
theorem errno_nil (w : World) : Calls Tryz.prog 235 #[.nilIface] w fun e w' => e = .returned (.int .i64 0) ∧ Below w.heap.size w w' := by
 have hA := fun t => as_nil t (w.alloc (.cells #[.pointer none] 360))
 go_enter Tryz.func235, Tryz.ntmps235
 go_wp2_with fail
 refine (hA _).mono ?_
 rintro e w1 ⟨rfl, rfl⟩
 go_wp2_with fail
 go_ret
 exact ⟨rfl, (Below.refl _ w).alloc (Nat.le_refl _) _⟩
theorem errno_fault (v : Value) (no : Int) (w : World) (hg : GT w) (hf : FaultAt w v no) : Calls Tryz.prog 235 #[v] w fun e w' => e = .returned (.int .i64 no) ∧ Below w.heap.size w w' := by
 obtain ⟨b, rfl, hb⟩ := hf
 obtain ⟨W1, hW1, hX1, hB1, hs1⟩ := boxes1 w #[.pointer none] 360
 have hA := as_hit ⟨b, 0, none⟩ ⟨w.heap.size, 0, none⟩ (.pointer none) W1 (hg.go hB1) (cCc hX1 0) (cFz hX1 0)
 obtain ⟨W2, hW2⟩ : ∃ W2, (((W1.alloc (.cells #[.pointer (some ⟨w.heap.size, 0, none⟩)] 476)).alloc (.cells #[.pointer (some ⟨6, 476, none⟩), .pointer (some ⟨W1.heap.size, 0, none⟩), .int .u64 150] 228)).alloc (.cells #[.pointer (some ⟨6, 476, none⟩), .pointer (some ⟨W1.heap.size, 0, none⟩), .int .u64 150] 228)).alloc (.cells #[.pointer (some ⟨b, 0, none⟩)] 360) = W2 := ⟨_, rfl⟩
 have hB2 : Below W1.heap.size W1 W2 := by
  rw [← hW2]
  exact ((((Below.refl _ W1).alloc (Nat.le_refl _) _).alloc (by simp <;> omega) _).alloc (by simp <;> omega) _).alloc (by simp <;> omega) _
 rw [hW2] at hA
 have hX2 := known hB2 (Nat.le_refl _) hX1
 have hbw := (Array.getElem?_eq_some_iff.1 hb).1
 have hb2 := known (hB1.trans (hB2.mono hB1.size)) (Nat.le_refl _) hb
 have hX3 : (W2.setCell ⟨w.heap.size, 0, none⟩ (.pointer (some ⟨b, 0, none⟩))).heap[w.heap.size]? = some (.cells #[.pointer (some ⟨b, 0, none⟩)] 360 (0, 0)) := hSk hX2 _
 have hb3 := (heap_set_other (W := W2) (p := ⟨w.heap.size, 0, none⟩) (b := b) (by show w.heap.size ≠ b; omega) (.pointer (some ⟨b, 0, none⟩))).trans hb2
 have hB3 : Below w.heap.size w (W2.setCell ⟨w.heap.size, 0, none⟩ (.pointer (some ⟨b, 0, none⟩))) := (hB1.trans (hB2.mono hB1.size)).setCell (p := ⟨w.heap.size, 0, none⟩) (Nat.le_refl _) _
 obtain ⟨W3, hW3⟩ : ∃ W3, W2.setCell ⟨w.heap.size, 0, none⟩ (.pointer (some ⟨b, 0, none⟩)) = W3 := ⟨_, rfl⟩
 rw [hW3] at hA hX3 hb3 hB3
 have c0 : W3.cell? ⟨w.heap.size, 0, none⟩ = some (.pointer (some ⟨b, 0, none⟩)) := cCc hX3 0
 have d0 : W3.cell? ⟨b, 0, none⟩ = some (.int .i64 no) := cCc hb3 0
 have HB3 := Lib.hid hB3
 clear hg hb hX1 hB1 hW2 hB2 hX2 hb2 hX3 hb3 hB3 hW3
 go_enter Tryz.func235, Tryz.ntmps235
 go_wp2_with fail
 refine hA.mono ?_
 rintro e w1 ⟨rfl, rfl⟩
 go_wp2_with fail
 go_ret
 exact ⟨rfl, HB3.out⟩
end Go.Proofs.YtpklkhgnjbopnaaGreatDoor
namespace Go.Proofs.YtpklkhgnjbopnaaGreatDoor
open Go Go.ChangeShapes Go.WideShapes Go.ChangeAt Go.RowKit Go.Lib Go.Deep Go.Shelf
theorem own : ownKnob Tryz.prog.godebug = none := by kernel_rfl
theorem laidOut : laidOutB Tryz.prog = true := by kernel_rfl
theorem undBool : Tryz.prog.underlying 4 = some .bool := by kernel_rfl
theorem undU64 : Tryz.prog.underlying 22 = some (.int .u64) := by kernel_rfl
theorem undStr : Tryz.prog.underlying 9 = some .string := by kernel_rfl
theorem undInt : Tryz.prog.underlying 3 = some (.int .i64) := by kernel_rfl
theorem and2 {a b : Bool} (ha : a = true) (hb : b = true) : (a && b) = true := by rw [ha, hb]; rfl
theorem pfMaps : mapsRowed Tryz.pinned.checked.prog = true := by kernel_rfl
theorem pfOut : laidOutB Tryz.pinned.checked.prog = true := by kernel_rfl
theorem pfStops : (Tryz.pinned.checked.prog.stops == []) = true := by kernel_rfl
theorem pfKnobs : (Tryz.pinned.checked.prog.stopKnobs == []) = true := by kernel_rfl
theorem pfHeard : Tryz.pinned.checked.prog.stopsHeard = true := by kernel_rfl
theorem pfEnter : Tryz.pinned.checked.prog.mayEnter = true := by kernel_rfl
theorem pfKeys : (Rows.wireNoneRow.plainKeys == Tryz.pinned.checked.prog.plainKeys) = true := by kernel_rfl
theorem pfLift : (Rows.wireNoneRow.lifted == Tryz.pinned.checked.prog.liftsFinal) = true := by kernel_rfl
theorem pfMake : (Tryz.pinned.checked.prog.make == some Rows.wireNoneRow.make) = true := by kernel_rfl
theorem gET : Tryz.prog.globalNamed "errors.errorType" = some 0 := by kernel_rfl
theorem rtCut : (Tryz.prog.cutTypes.find? (·.1 == "internal/reflectlite.rtype")).map (·.2) = some 283 := by kernel_rfl
theorem oneRow : ((List.range 642).filter fun t => Tryz.prog.rowNamed t [101, 114, 114, 111, 114]) = [88] := by kernel_rfl
theorem typesSize : Tryz.prog.types.size = 642 := by kernel_rfl
theorem gt_of {W : World} (h : handlesMet Tryz.prog [("errors.errorType", Rows.laid_errors_errorType)] W) : GT W := by
 obtain ⟨name, u, ty, e1, e2, e3, e4, e5⟩ := h _ (List.mem_singleton.2 rfl)
 have en : name = [101, 114, 114, 111, 114] := (Option.some.inj e1).symm
 subst en
 obtain rfl := Option.some.inj (rtCut.symm.trans e2)
 have hm : ty ∈ (List.range 642).filter fun t => Tryz.prog.rowNamed t [101, 114, 114, 111, 114] := List.mem_filter.2 ⟨List.mem_range.2 (by rw [← typesSize]; exact e3), e4⟩
 rw [oneRow] at hm
 obtain rfl := List.mem_singleton.1 hm
 have hh : typeHandle Tryz.prog 88 = .pointer (some ⟨6, 88, none⟩) := by kernel_rfl
 rw [hh] at e5
 have h9 := World.var?_cell gET e5 0
 simp at h9
 exact h9
theorem size_of {W : World} (hS : W.ShapedOpen Tryz.prog) : 6 ≤ W.heap.size := by
 have h0 : (((begin Tryz.prog (fun _ _ => 0) default).world.heap[6 - 1]?).bind Obj.row?).isSome = true := by kernel_rfl
 obtain ⟨⟨zero, t⟩, h0⟩ := Option.isSome_iff_exists.1 h0
 obtain ⟨cs, hh, -⟩ := hS.1 (6 - 1) zero t (of_decide_eq_true (by kernel_rfl)) h0
 have := (Array.getElem?_eq_some_iff.1 hh).1
 omega
section
variable {H : Type} {enc : TypeId × Value → H} {w : World} {base : Nat} {held : Bool}
theorem SlC.map {α β : Type} {encA : β → List Value} {k n : Nat} {a : Option Addr} {len cap : Nat} {f : α → β} {l : List α} (h : SlC (fun x => encA (f x)) k n w a len cap l) : SlC encA k n w a len cap (l.map f) :=
 ⟨⟨by rw [List.length_map]; exact h.1.1, fun j x hx => by rw [List.getElem?_map] at hx; obtain ⟨y, hy, rfl⟩ := Option.map_eq_some_iff.1 hx; exact h.1.2 j y hy⟩, h.2⟩
theorem wf_u64 {n : Int} (w0 : (Lit.int .u64 n).wf = true) : U64 n := by
 simp only [Lit.wf, IntKind.min, IntKind.max, IntKind.signed, IntKind.bits, Bool.and_eq_true] at w0
 exact ⟨by simpa using w0.1, by have := w0.2; simp at this; omega⟩
theorem wf_i64 {n : Int} (w0 : (Lit.int .i64 n).wf = true) : I64 n := by
 simp only [Lit.wf, IntKind.min, IntKind.max, IntKind.signed, IntKind.bits, Bool.and_eq_true] at w0
 exact ⟨by have := w0.1; simp at this; omega, by have := w0.2; simp at this; omega⟩
set_option maxRecDepth 100000 in
theorem open_str {t : TypeId} {r : Reach} {b0 : Nat} {v : Value} {d : DataW H} {p : List MemPlace} (ht : Tryz.prog.underlying t = some .string) (hv : Value.okWide Tryz.prog w r b0 t v) (_h : DataW.Trod enc Tryz.prog w base (fun _ => true) held t v d p) : ∃ s : ByteArray, v = .string s ∧ True := by
 obtain ⟨s, rfl⟩ := okWide_string ht hv
 exact ⟨s, rfl, trivial⟩
end
def eT : String × DataW Unit := ("errors.errorType", Rows.laid_errors_errorType)
def typeCell : Obj → Obj
 | .cells _ t frozen => .cells #[.iface 283 (.agg #[.pointer (some ⟨6, 88, none⟩)])] t frozen
 | o => o
end Go.Proofs.YtpklkhgnjbopnaaGreatDoor
namespace Go.Proofs.YtpklkhgnjbopnaaGreatDoor
open Go Go.RowKit
theorem und_bp : Tryz.prog.underlying 83 = some (.pointer 86) := by kernel_rfl
theorem und_up : Tryz.prog.underlying 195 = some .unsafePointer := by kernel_rfl
theorem size_b : (Tryz.prog.info? 86).map (·.size) = some 2 := by kernel_rfl
theorem lies_b : liesAt Tryz.prog Tryz.prog.depth 86 (2 / Tryz.prog.cellsOf 86) 0 86 1 = true := by kernel_rfl
theorem info_byte : (Tryz.prog.info? 5).map (fun i => (i.zero, i.size, i.bytes)) = some (some (.int .u8 0), 1, 1) := by kernel_rfl
theorem und_bytes : Tryz.prog.underlying 84 = some (.slice 5) := by kernel_rfl
set_option maxHeartbeats 1000000 in
set_option maxRecDepth 100000 in
theorem copyCheck_fresh (b : Nat) (w : World) (h0 : w.cell? ⟨b, 0, none⟩ = some (.pointer none)) (hsh : w.shape? b = some (86, 2)) (hfz : w.frozen? ⟨b, 0, none⟩ = false) :
  Calls Tryz.prog 72 #[.pointer (some ⟨b, 0, none⟩)] w fun e w' => e = .returned (.tuple #[]) ∧ w' = w.setCell ⟨b, 0, none⟩ (.pointer (some ⟨b, 0, none⟩)) := by
 obtain ⟨j, hj, hjs⟩ := Option.map_eq_some_iff.1 size_b
 go_enter Tryz.func72, Tryz.ntmps72
 go_wp2
 rw [Lib.run_to_unsafe w ⟨b, 0, none⟩ und_bp und_up hj (by rw [hjs]; decide) hsh (Nat.zero_lt_succ 1)]
 simp only [Result.andThen]
 rw [Oper.upon_value]
 go_wp2
 rw [run_callFunc_extern Tryz.func99 (by kernel_rfl) (by kernel_rfl) (by kernel_rfl) (e := Extern.AbiNoEscape.same) (by kernel_rfl)]
 rw [Lib.run_noEscape]
 simp only [Result.andThen]
 rw [Oper.upon_value]
 go_wp2
 rw [Lib.run_from_unsafe w ⟨b, 0, none⟩ und_up und_bp hj hsh lies_b]
 simp only [Result.andThen]
 rw [Oper.upon_value]
 go_wp2
 go_end0
 exact ⟨rfl, rfl⟩
set_option maxHeartbeats 1000000 in
theorem copyCheck_used (b : Nat) (w : World) (h0 : w.cell? ⟨b, 0, none⟩ = some (.pointer (some ⟨b, 0, none⟩))) :
  Calls Tryz.prog 72 #[.pointer (some ⟨b, 0, none⟩)] w fun e w' => e = .returned (.tuple #[]) ∧ w' = w := by
 obtain ⟨j, hj, hjs⟩ := Option.map_eq_some_iff.1 size_b
 have hn := Lib.run_neq_ptr_same (P := Tryz.prog) w ⟨b, 0, none⟩ und_bp hj
 go_enter Tryz.func72, Tryz.ntmps72
 go_wp2
 go_end0
 exact ⟨rfl, rfl⟩
theorem copyCheck_any (B b : Nat) (bs : List Value) (w : World) (h : Lib.IsBuilderF 86 5 B b bs w) :
  Calls Tryz.prog 72 #[.pointer (some ⟨b, 0, none⟩)] w fun e w' => e = .returned (.tuple #[]) ∧ (Lib.BuilderAtF 86 5 B b (.pointer (some ⟨b, 0, none⟩)) bs w' ∧ Below B w w' ∧ Lib.OthersKept 5 (some b) w w') := by
 rcases h with h | h
 ·refine (copyCheck_fresh b w h.cell0 h.shape h.frozen0).mono ?_
  rintro e w' ⟨rfl, rfl⟩
  exact ⟨rfl, h.used _, (Below.refl B w).setCell (p := ⟨b, 0, none⟩) h.1 _, (Lib.OthersKept.refl _ _ w).setCell ⟨b, 0, none⟩ rfl _⟩
 ·refine (copyCheck_used b w h.cell0).mono ?_
  rintro e w' ⟨rfl, rfl⟩
  exact ⟨rfl, h, Below.refl B _, Lib.OthersKept.refl _ _ _⟩
set_option maxHeartbeats 2000000 in
set_option maxRecDepth 100000 in
theorem WriteString_any (B b : Nat) (bs : List Value) (s : ByteArray) (w : World) (h : Lib.IsBuilderF 86 5 B b bs w) (hlen : bs.length + s.size ≤ 140737488355328) (hBw : B ≤ w.heap.size) :
  Calls Tryz.prog 36 #[.pointer (some ⟨b, 0, none⟩), .string s] w fun e w' => e = .returned (.tuple #[.int .i64 s.size, .nilIface]) ∧ (Lib.BuilderAtF 86 5 B b (.pointer (some ⟨b, 0, none⟩)) (bs ++ Lib.strCells s) w' ∧ Below B w w' ∧ Lib.OthersKept 5 (some b) w w') := by
 obtain ⟨i0, hi, hz0, hz1, hz2⟩ := info_parts info_byte
 go_enter Tryz.func36, Tryz.ntmps36
 go_wp2_with fail
 refine (copyCheck_any B b bs _ h).mono ?_
 rintro e w1 ⟨rfl, h1, hb1, hk1⟩
 obtain ⟨hB, v, hbk, hown, hne⟩ := h1
 have c0 : w1.cell? ⟨b, 0, none⟩ = some (.pointer (some ⟨b, 0, none⟩)) := by rw [Lib.cell_of_heap hbk]; rfl
 have c1 : w1.cell? ⟨b, 1, none⟩ = some v := by rw [Lib.cell_of_heap hbk]; rfl
 go_wp2_with (at_builtin; refine Lib.wpList_append_own_stringF _ rfl _ _ 84 9 rfl B 5 i0 und_bytes Tryz.underlying9 hi hz0 hz1 hz2 _ _ _ rfl hown s rfl ?c3 ?c4 ?c5 ?_)
 case c3 => unfold maxLen; omega
 case c4 => omega
 case c5 => have := hb1.size; omega
 intro v' w2 hown' hgrow _
 have hlt : b < w1.heap.size := (Array.getElem?_eq_some_iff.1 hbk).1
 have hb2 : w2.heap[b]? = some (.cells #[.pointer (some ⟨b, 0, none⟩), v] 86 (0, 0)) := by
  rw [hgrow.block b hlt (fun e => hne e.symm)]
  exact hbk
 have d0 : w2.cell? ⟨b, 0, none⟩ = some (.pointer (some ⟨b, 0, none⟩)) := by rw [Lib.cell_of_heap hb2]; rfl
 have d1 : w2.cell? ⟨b, 1, none⟩ = some v := by rw [Lib.cell_of_heap hb2]; rfl
 have f1 : w2.frozen? ⟨b, 1, none⟩ = false := Lib.frozen_of_heap hb2 1
 obtain ⟨ao, n', cap, rfl⟩ : ∃ ao n' cap, v' = .slice ao n' cap := by
  rcases hown'.2 with ⟨hv, _⟩ | ⟨g, cap, cur, fz, hv, _⟩
  ·exact ⟨_, _, _, hv⟩
  ·exact ⟨_, _, _, hv⟩
 go_wp2
 go_ret2
 refine ⟨rfl, ?_, ?_, (hk1.grown hgrow (Lib.ownsRowF_kind hown)).setCell ⟨b, 1, none⟩ rfl _⟩
 ·exact Lib.BuilderAtF.put (T := 86) (e := 5) hB hb2 (bs' := bs ++ Lib.strCells s) (by simpa [Lib.strCells_length] using hown') (by decide)
 ·exact (hb1.grown hgrow (by have := hb1.size; omega) (fun k hk => (hown.lt k hk).1)).setCell (p := ⟨b, 1, none⟩) hB _
end Go.Proofs.YtpklkhgnjbopnaaGreatDoor
namespace Go.Proofs.YtpklkhgnjbopnaaGreatDoor
open Go Go.RowKit Go.Shelf
theorem isB_old {T e : TypeId} {B b : Nat} {bs : List Value} {w w' : World} (h : Lib.IsBuilderF T e B b bs w) (hs : ∀ j, j < w.heap.size → w'.heap[j]? = w.heap[j]?) : Lib.IsBuilderF T e B b bs w' := by
 have one : ∀ p, Lib.BuilderAtF T e B b p bs w → Lib.BuilderAtF T e B b p bs w' := fun p ⟨h1, v, h2, h3, h4⟩ => by
  refine ⟨h1, v, (hs b (Array.getElem?_eq_some_iff.1 h2).1).trans h2, ⟨h3.1, ?_⟩, h4⟩
  rcases h3.2 with h5 | ⟨g, cap, cur, fz, hv, hg, hh, r⟩
  ·exact .inl h5
  ·exact .inr ⟨g, cap, cur, fz, hv, hg, (hs g (Array.getElem?_eq_some_iff.1 hh).1).trans hh, r⟩
 exact h.imp (one _) (one _)
end Go.Proofs.YtpklkhgnjbopnaaGreatDoor
namespace Go.Proofs.YtpklkhgnjbopnaaGreatDoor
open Go Go.RowKit Go.Shelf
attribute [local go_sem] Oper.semAt_some
attribute [-go_sem] Builtin.append_
def encSt (s : ByteArray) : List Value := [.string s]
end Go.Proofs.YtpklkhgnjbopnaaGreatDoor
namespace Go.Proofs.YtpklkhgnjbopnaaGreatDoor
open Go Go.RowKit
structure Ser where
 l : List Lab
 sk : Sk
 seen : Int
structure SerP where
 la : Option Addr
 ll : Nat
 lc : Nat
 ss : SS
end Go.Proofs.YtpklkhgnjbopnaaGreatDoor
namespace Go.Proofs.YtpklkhgnjbopnaaGreatDoor
open Go Go.RowKit Go.Shelf
theorem cell_heap {A B : World} {p : Addr} (h : B.heap[p.block]? = A.heap[p.block]?) : B.cell? p = A.cell? p := by unfold World.cell?; rw [h]
theorem SlC.frame {α : Type} {enc : α → List Value} {k n₀ : Nat} {A B : World} {a : Option Addr} {len cap : Nat} {l : List α} {q : Nat → Prop} (hs : SlC enc k n₀ A a len cap l) (hq : ∀ z, a = some z → 0 < cap → q z.block) (hf : ∀ b, b < n₀ → q b → B.heap[b]? = A.heap[b]?) : SlC enc k n₀ B a len cap l :=
 ⟨⟨hs.1.1, fun j x hx => by
  obtain ⟨b, off, e, hb, hc⟩ := hs.1.2 j x hx
  have hlt := (List.getElem?_eq_some_iff.1 hx).1
  have h1 := hs.1.1
  have h2 := hs.2.1
  exact ⟨b, off, e, hb, fun i hi => (cell_heap (hf b hb (hq _ e (by omega)))).trans (hc i hi)⟩⟩, hs.2⟩
end Go.Proofs.YtpklkhgnjbopnaaGreatDoor
namespace Go.Proofs.YtpklkhgnjbopnaaGreatDoor
open Go Go.RowKit Go.Shelf
attribute [-go_sem] Builtin.append_
def Apart (B : Nat) (A A' : World) : Prop := A.heap.size ≤ A'.heap.size ∧ ∀ b, b < A.heap.size → b ≠ B → A'.heap[b]? = A.heap[b]?
section
variable {B : Nat} {A A' A'' : World}
theorem Apart.of_below (h : Below A.heap.size A A') : Apart B A A' := ⟨h.size, fun b hb _ => h.block b hb⟩
theorem Apart.trans (h : Apart B A A') (h' : Apart B A' A'') : Apart B A A'' := ⟨Nat.le_trans h.1 h'.1, fun b hb hn => (h'.2 b (Nat.lt_of_lt_of_le hb h.1) hn).trans (h.2 b hb hn)⟩
theorem Apart.set (i : Nat) (v : Value) : Apart B A (A.setCell ⟨B, i, none⟩ v) := ⟨by rw [World.size_setCell]; exact Nat.le_refl _, fun b _ hn => heap_set_other (fun h => hn h.symm) v⟩
end
theorem box_set {W : World} {B i : Nat} {c : Array Value} {t : TypeId} (h : W.heap[B]? = some (.cells c t (0, 0))) (v : Value) : ∃ V, W.setCell ⟨B, i, none⟩ v = V ∧ V.heap[B]? = some (.cells (c.setIfInBounds i v) t (0, 0)) ∧ Apart B W V ∧ (∀ n w0, n ≤ B → Below n w0 W → Below n w0 V) ∧ V.heap.size ≤ W.heap.size ∧ W.heap.size ≤ V.heap.size :=
 ⟨_, rfl, hSk h v, Apart.set i v, fun _ _ hn hb => hb.setCell (p := ⟨B, i, none⟩) hn v, Nat.le_of_eq (World.size_setCell ..), Nat.le_of_eq (World.size_setCell ..).symm⟩
end Go.Proofs.YtpklkhgnjbopnaaGreatDoor
namespace Go.Proofs.YtpklkhgnjbopnaaGreatDoor
open Go Go.RowKit Go.Shelf
def Ser.wf (x : Ser) : Prop := x.sk.fit ∧ U64 x.seen
end Go.Proofs.YtpklkhgnjbopnaaGreatDoor
namespace Go.Proofs.YtpklkhgnjbopnaaGreatDoor
open Go Go.RowKit Go.Shelf
theorem set_same {W : World} {B i : Nat} {c : Array Value} {t : TypeId} {fz : Nat × Nat} {v : Value} (h : W.heap[B]? = some (.cells c t fz)) (hv : c[i]? = some v) : W.setCell ⟨B, i, none⟩ v = W := by
 have hc : c.setIfInBounds i v = c := by
  obtain ⟨hi, rfl⟩ := Array.getElem?_eq_some_iff.1 hv
  apply Array.ext (by simp)
  intro j h1 h2
  rw [Array.getElem_setIfInBounds]
  split
  ·rename_i e; subst e; rfl
  ·rfl
 have key : (W.setCell ⟨B, i, none⟩ v).heap = W.heap := by
  apply Array.ext (size_set W _ v)
  intro j h1 h2
  have a1 : (W.setCell ⟨B, i, none⟩ v).heap[j]? = W.heap[j]? := by
   by_cases hj : B = j
   ·subst hj
    rw [hSk h, h, hc]
   ·exact heap_set_other (p := ⟨B, i, none⟩) hj v
  rw [Array.getElem?_eq_getElem h1, Array.getElem?_eq_getElem h2] at a1
  exact Option.some.inj a1
 have e : W.setCell ⟨B, i, none⟩ v = { W with heap := (W.setCell ⟨B, i, none⟩ v).heap } := rfl
 rw [e, key]
end Go.Proofs.YtpklkhgnjbopnaaGreatDoor
namespace Go.Proofs.YtpklkhgnjbopnaaGreatDoor
open Go Go.RowKit Go.Shelf
def encIt (i : Nat × Int) : List Value := [.int .u64 i.1, .int .u64 i.2]
theorem und_items : Tryz.prog.underlying 53 = some (.slice 123) := by kernel_rfl
end Go.Proofs.YtpklkhgnjbopnaaGreatDoor
namespace Go.Proofs.YtpklkhgnjbopnaaGreatDoor
open Go Go.RowKit
theorem und_u8 : Tryz.prog.underlying 5 = some (.int .u8) := by kernel_rfl
theorem und_string : Tryz.prog.underlying 9 = some .string := by kernel_rfl
theorem conv_at {w : World} {g cap : Nat} (xs : List Int) (h : ∀ i, i < xs.length → w.cell? ⟨g, i, none⟩ = some (.int .u8 (xs.getD i 0))) :
  (convert 84 9 (.slice (some ⟨g, 0, none⟩) xs.length cap)).run Tryz.prog w = .ok (.string (strOfNums xs)) w :=
 run_convert_bytes_arg w _ _ und_bytes und_u8 g 0 xs.length cap xs rfl (fun i hi => by rw [Nat.zero_add]; exact h i hi) _ und_string
theorem conv_new (w : World) (xs : List Int) (c : Nat) :
  (convert 84 9 (.slice (some ⟨w.heap.size, 0, none⟩) xs.length c)).run Tryz.prog (w.alloc (.cells (xs.map (Value.int .u8)).toArray 5)) = .ok (.string (strOfNums xs)) (w.alloc (.cells (xs.map (Value.int .u8)).toArray 5)) :=
 conv_at xs (fun i hi => by
  rw [cCc (World.alloc_heap_new w _)]
  simp [List.getElem?_eq_getElem hi])
theorem conv_own {w : World} {base n : Nat} {v : Value} (xs : List Int) (hn : n = xs.length) (hp : 0 < n) (h : w.ownsRow base 5 1 v n (xs.map (Value.int .u8))) :
  (convert 84 9 v).run Tryz.prog w = .ok (.string (strOfNums xs)) w := by
 subst hn
 rcases h.2 with ⟨rfl, h0⟩ | ⟨g, cap, cur, rfl, _, hg, _⟩
 ·omega
 ·refine conv_at xs (fun i hi => ?_)
  have := h.cells (g := g) rfl i (.int .u8 (xs[i])) (by simp [List.getElem?_eq_getElem hi])
  rw [show (⟨g, 0, none⟩ : Addr).add i = ⟨g, i, none⟩ by unfold Addr.add; split <;> simp_all] at this
  rw [this]
  simp [List.getElem?_eq_getElem hi]
set_option maxRecDepth 100000 in
set_option maxHeartbeats 4000000 in
theorem put_one (n : Int) (w : World) (h0 : 0 ≤ n) (h1 : n ≤ 240) :
  Calls Tryz.prog 50 #[.int .u64 n] w fun e w' => e = .returned (.string (strOfNums [n])) ∧ Below w.heap.size w w' := by
 have hc := conv_new w [n] 1
 simp only [List.map_cons, List.map_nil, List.length_cons, List.length_nil, Nat.zero_add] at hc
 go_enter Tryz.func50, Tryz.ntmps50
 go_wp2_with fail
 go_ret
 exact ⟨rfl, (Below.refl _ w).alloc (Nat.le_refl _) _⟩
set_option maxRecDepth 100000 in
set_option maxHeartbeats 4000000 in
theorem put_two (n : Int) (w : World) (h0 : 240 < n) (h1 : n ≤ 2287) :
  Calls Tryz.prog 50 #[.int .u64 n] w fun e w' => e = .returned (.string (strOfNums [241 + (n - 240) / 256, (n - 240) % 256])) ∧ Below w.heap.size w w' := by
 have hc := conv_new w [241 + (n - 240) / 256, (n - 240) % 256] 2
 simp only [List.map_cons, List.map_nil, List.length_cons, List.length_nil, Nat.zero_add] at hc
 go_enter Tryz.func50, Tryz.ntmps50
 go_wp2_with fail
 go_ret
 exact ⟨rfl, (Below.refl _ w).alloc (Nat.le_refl _) _⟩
set_option maxRecDepth 100000 in
set_option maxHeartbeats 4000000 in
theorem put_three (n : Int) (w : World) (h0 : 2287 < n) (h1 : n ≤ 67823) :
  Calls Tryz.prog 50 #[.int .u64 n] w fun e w' => e = .returned (.string (strOfNums [249, (n - 2288) / 256, (n - 2288) % 256])) ∧ Below w.heap.size w w' := by
 have hc := conv_new w [249, (n - 2288) / 256, (n - 2288) % 256] 3
 simp only [List.map_cons, List.map_nil, List.length_cons, List.length_nil, Nat.zero_add] at hc
 go_enter Tryz.func50, Tryz.ntmps50
 go_wp2_with fail
 go_ret
 exact ⟨rfl, (Below.refl _ w).alloc (Nat.le_refl _) _⟩
theorem bitLen_ge : ∀ n : Fin 256, n.val = 0 ∨ 1 ≤ Lib.bitLen n.val := by decide +kernel
theorem bitLen_pos8 (n : Nat) (h0 : 1 ≤ n) (h1 : n ≤ 255) : 1 ≤ Lib.bitLen n ∧ Lib.bitLen n ≤ 8 := by
 have h2 := bitLen_ge ⟨n, by omega⟩
 have h3 := Lib.bitLen_le8 ⟨n, by omega⟩
 dsimp only at h2 h3
 omega
theorem owns_new {W : World} {b : Nat} {x : Int} (h : W.heap[b]? = some (.cells #[.int .u8 x] 5 (0, 0))) : W.ownsRow b 5 1 (.slice (some ⟨b, 0, none⟩) 1 1) 1 ([x].map (Value.int .u8)) :=
 ⟨rfl, .inr ⟨b, 1, _, rfl, Nat.le_refl _, h, Nat.le_refl _, by unfold maxLen; omega, rfl, rfl⟩⟩
theorem owns_go8 {A B : World} {base e size n : Nat} {v : Value} {xs : List Value} (h : A.ownsRow base e size v n xs) (hb : Below A.heap.size A B) : B.ownsRow base e size v n xs :=
 ⟨h.1, h.2.imp id (fun ⟨g, cap, cur, h1, h2, h3, h4⟩ => ⟨g, cap, cur, h1, h2, known hb (Nat.le_refl _) h3, h4⟩)⟩
theorem slAt_new {W : World} {b : Nat} {x y z : Value} {t : TypeId} (h : W.heap[b]? = some (.cells #[x, y, z] t (0, 0))) : SlAt W.heap.size W (.slice (some ⟨b, 0, none⟩) 3 3) 3 [x, y, z] :=
 .inr ⟨b, 0, 3, rfl, (Array.getElem?_eq_some_iff.1 h).1, fun i _ => by rw [cCc h, Nat.zero_add]; simp⟩
attribute [-go_sem] Builtin.append_
set_option maxRecDepth 100000 in
set_option maxHeartbeats 4000000 in
theorem put_big3 (n : Int) (w : World) (h0 : 67824 ≤ n) (h1 : n ≤ 16777215) :
  Calls Tryz.prog 50 #[.int .u64 n] w fun e w' => e = .returned (.string (strOfNums [250, n / 65536, n / 256 % 256, n % 256])) ∧ Below w.heap.size w w' := by
 have hL : 17 ≤ Lib.bitLen n.toNat ∧ Lib.bitLen n.toNat ≤ 24 := by
  rw [Lib.bitLen_shift16 n.toNat (by omega) (by omega)]
  have h2 := bitLen_pos8 (n.toNat / 65536) (by omega) (by omega)
  omega
 have hcall := Tryz.bits_Len64 n w (by omega) (by omega)
 generalize Lib.bitLen n.toNat = L at hL hcall
 have hq : ((L : Int) + 7) / 8 = 3 := by omega
 obtain ⟨W0, hW0, hX0, hB0, hz0⟩ := boxes1 w #[.int .u8 250] 5
 replace hz0 : w.heap.size < W0.heap.size := by omega
 have hown0 : W0.ownsRow w.heap.size 5 1 (.slice (some ⟨w.heap.size, 0, none⟩) 1 1) 1 ([250].map (Value.int .u8)) := owns_new hX0
 obtain ⟨V, hV, hXV, hBV, hzV⟩ := boxes1 W0 #[.int .u8 (n / 65536), .int .u8 (n / 256 % 256), .int .u8 (n % 256)] 5
 replace hzV : W0.heap.size < V.heap.size := by omega
 have hownV := owns_go8 hown0 hBV
 obtain ⟨v9, W9, hap9, hown9, hB9, hz9, -, -⟩ := append_list Tryz.prog 84 und_bytes info_byte rfl (by decide) hownV (hB0.trans (hBV.mono (by omega))) (Nat.le_refl _) (by omega) (slAt_new hXV) rfl (by simp [Value.oneCell']) (by omega) (by omega) (by decide)
 have hcv := conv_own [250, n / 65536, n / 256 % 256, n % 256] rfl (by simp) hown9
 clear hown9 hownV hXV hX0 hown0
 go_enter Tryz.func50, Tryz.ntmps50
 go_wp2_with (go_at_call 87; refine hcall.mono ?_; rintro e w' ⟨rfl, rfl⟩)
 go_ret
 exact ⟨rfl, hB9⟩
set_option maxRecDepth 100000 in
set_option maxHeartbeats 4000000 in
theorem put_big4 (n : Int) (w : World) (h0 : 16777216 ≤ n) (h1 : n ≤ 4294967295) :
  Calls Tryz.prog 50 #[.int .u64 n] w fun e w' => e = .returned (.string (strOfNums [251, n / 16777216, n / 65536 % 256, n / 256 % 256, n % 256])) ∧ Below w.heap.size w w' := by
 have hL : 25 ≤ Lib.bitLen n.toNat ∧ Lib.bitLen n.toNat ≤ 32 := by
  rw [Lib.bitLen_shift24 n.toNat (by omega) (by omega)]
  have h2 := bitLen_pos8 (n.toNat / 16777216) (by omega) (by omega)
  omega
 have hcall := Tryz.bits_Len64 n w (by omega) (by omega)
 generalize Lib.bitLen n.toNat = L at hL hcall
 have hq : ((L : Int) + 7) / 8 = 4 := by omega
 obtain ⟨W0, hW0, hX0, hB0, hz0⟩ := boxes1 w #[.int .u8 251] 5
 replace hz0 : w.heap.size < W0.heap.size := by omega
 have hown0 : W0.ownsRow w.heap.size 5 1 (.slice (some ⟨w.heap.size, 0, none⟩) 1 1) 1 ([251].map (Value.int .u8)) := owns_new hX0
 obtain ⟨g1, c1, W1, hap1, hown1, hB1, hz1, -, -⟩ := append_one Tryz.prog 84 und_bytes info_byte rfl (by decide) (W := W0) hown0 hB0 (Nat.le_refl _) (by omega) [.int .u8 (n / 16777216)] rfl (by simp [Value.oneCell']) (by omega) (by decide)
 rw [show ([251].map (Value.int .u8)) ++ [Value.int .u8 (n / 16777216)] = [251, n / 16777216].map (Value.int .u8) from rfl] at hown1
 obtain ⟨V, hV, hXV, hBV, hzV⟩ := boxes1 W1 #[.int .u8 (n / 65536 % 256), .int .u8 (n / 256 % 256), .int .u8 (n % 256)] 5
 replace hzV : W1.heap.size < V.heap.size := by omega
 have hownV := owns_go8 hown1 hBV
 obtain ⟨v9, W9, hap9, hown9, hB9, hz9, -, -⟩ := append_list Tryz.prog 84 und_bytes info_byte rfl (by decide) hownV (hB1.trans (hBV.mono (by omega))) (Nat.le_refl _) (by omega) (slAt_new hXV) rfl (by simp [Value.oneCell']) (by omega) (by omega) (by decide)
 have hcv := conv_own [251, n / 16777216, n / 65536 % 256, n / 256 % 256, n % 256] rfl (by simp) hown9
 clear hown9 hownV hXV hX0 hown0
 go_enter Tryz.func50, Tryz.ntmps50
 go_wp2_with (go_at_call 87; refine hcall.mono ?_; rintro e w' ⟨rfl, rfl⟩)
 go_ret
 exact ⟨rfl, hB9⟩
set_option maxRecDepth 100000 in
set_option maxHeartbeats 4000000 in
theorem put_big5 (n : Int) (w : World) (h0 : 4294967296 ≤ n) (h1 : n ≤ 1099511627775) :
  Calls Tryz.prog 50 #[.int .u64 n] w fun e w' => e = .returned (.string (strOfNums [252, n / 4294967296, n / 16777216 % 256, n / 65536 % 256, n / 256 % 256, n % 256])) ∧ Below w.heap.size w w' := by
 have hL : 33 ≤ Lib.bitLen n.toNat ∧ Lib.bitLen n.toNat ≤ 40 := by
  rw [Lib.bitLen_shift32 n.toNat (by omega) (by omega)]
  have h2 := bitLen_pos8 (n.toNat / 4294967296) (by omega) (by omega)
  omega
 have hcall := Tryz.bits_Len64 n w (by omega) (by omega)
 generalize Lib.bitLen n.toNat = L at hL hcall
 have hq : ((L : Int) + 7) / 8 = 5 := by omega
 obtain ⟨W0, hW0, hX0, hB0, hz0⟩ := boxes1 w #[.int .u8 252] 5
 replace hz0 : w.heap.size < W0.heap.size := by omega
 have hown0 : W0.ownsRow w.heap.size 5 1 (.slice (some ⟨w.heap.size, 0, none⟩) 1 1) 1 ([252].map (Value.int .u8)) := owns_new hX0
 obtain ⟨g1, c1, W1, hap1, hown1, hB1, hz1, -, -⟩ := append_one Tryz.prog 84 und_bytes info_byte rfl (by decide) (W := W0) hown0 hB0 (Nat.le_refl _) (by omega) [.int .u8 (n / 4294967296)] rfl (by simp [Value.oneCell']) (by omega) (by decide)
 rw [show ([252].map (Value.int .u8)) ++ [Value.int .u8 (n / 4294967296)] = [252, n / 4294967296].map (Value.int .u8) from rfl] at hown1
 obtain ⟨g2, c2, W2, hap2, hown2, hB2, hz2, -, -⟩ := append_one Tryz.prog 84 und_bytes info_byte rfl (by decide) (W := W1) hown1 hB1 (Nat.le_refl _) (by omega) [.int .u8 (n / 16777216 % 256)] rfl (by simp [Value.oneCell']) (by omega) (by decide)
 rw [show ([252, n / 4294967296].map (Value.int .u8)) ++ [Value.int .u8 (n / 16777216 % 256)] = [252, n / 4294967296, n / 16777216 % 256].map (Value.int .u8) from rfl] at hown2
 obtain ⟨V, hV, hXV, hBV, hzV⟩ := boxes1 W2 #[.int .u8 (n / 65536 % 256), .int .u8 (n / 256 % 256), .int .u8 (n % 256)] 5
 replace hzV : W2.heap.size < V.heap.size := by omega
 have hownV := owns_go8 hown2 hBV
 obtain ⟨v9, W9, hap9, hown9, hB9, hz9, -, -⟩ := append_list Tryz.prog 84 und_bytes info_byte rfl (by decide) hownV (hB2.trans (hBV.mono (by omega))) (Nat.le_refl _) (by omega) (slAt_new hXV) rfl (by simp [Value.oneCell']) (by omega) (by omega) (by decide)
 have hcv := conv_own [252, n / 4294967296, n / 16777216 % 256, n / 65536 % 256, n / 256 % 256, n % 256] rfl (by simp) hown9
 clear hown9 hownV hXV hX0 hown0
 go_enter Tryz.func50, Tryz.ntmps50
 go_wp2_with (go_at_call 87; refine hcall.mono ?_; rintro e w' ⟨rfl, rfl⟩)
 go_ret
 exact ⟨rfl, hB9⟩
set_option maxRecDepth 100000 in
set_option maxHeartbeats 4000000 in
theorem put_big6 (n : Int) (w : World) (h0 : 1099511627776 ≤ n) (h1 : n ≤ 281474976710655) :
  Calls Tryz.prog 50 #[.int .u64 n] w fun e w' => e = .returned (.string (strOfNums [253, n / 1099511627776, n / 4294967296 % 256, n / 16777216 % 256, n / 65536 % 256, n / 256 % 256, n % 256])) ∧ Below w.heap.size w w' := by
 have hL : 41 ≤ Lib.bitLen n.toNat ∧ Lib.bitLen n.toNat ≤ 48 := by
  rw [Lib.bitLen_shift40 n.toNat (by omega) (by omega)]
  have h2 := bitLen_pos8 (n.toNat / 1099511627776) (by omega) (by omega)
  omega
 have hcall := Tryz.bits_Len64 n w (by omega) (by omega)
 generalize Lib.bitLen n.toNat = L at hL hcall
 have hq : ((L : Int) + 7) / 8 = 6 := by omega
 obtain ⟨W0, hW0, hX0, hB0, hz0⟩ := boxes1 w #[.int .u8 253] 5
 replace hz0 : w.heap.size < W0.heap.size := by omega
 have hown0 : W0.ownsRow w.heap.size 5 1 (.slice (some ⟨w.heap.size, 0, none⟩) 1 1) 1 ([253].map (Value.int .u8)) := owns_new hX0
 obtain ⟨g1, c1, W1, hap1, hown1, hB1, hz1, -, -⟩ := append_one Tryz.prog 84 und_bytes info_byte rfl (by decide) (W := W0) hown0 hB0 (Nat.le_refl _) (by omega) [.int .u8 (n / 1099511627776)] rfl (by simp [Value.oneCell']) (by omega) (by decide)
 rw [show ([253].map (Value.int .u8)) ++ [Value.int .u8 (n / 1099511627776)] = [253, n / 1099511627776].map (Value.int .u8) from rfl] at hown1
 obtain ⟨g2, c2, W2, hap2, hown2, hB2, hz2, -, -⟩ := append_one Tryz.prog 84 und_bytes info_byte rfl (by decide) (W := W1) hown1 hB1 (Nat.le_refl _) (by omega) [.int .u8 (n / 4294967296 % 256)] rfl (by simp [Value.oneCell']) (by omega) (by decide)
 rw [show ([253, n / 1099511627776].map (Value.int .u8)) ++ [Value.int .u8 (n / 4294967296 % 256)] = [253, n / 1099511627776, n / 4294967296 % 256].map (Value.int .u8) from rfl] at hown2
 obtain ⟨g3, c3, W3, hap3, hown3, hB3, hz3, -, -⟩ := append_one Tryz.prog 84 und_bytes info_byte rfl (by decide) (W := W2) hown2 hB2 (Nat.le_refl _) (by omega) [.int .u8 (n / 16777216 % 256)] rfl (by simp [Value.oneCell']) (by omega) (by decide)
 rw [show ([253, n / 1099511627776, n / 4294967296 % 256].map (Value.int .u8)) ++ [Value.int .u8 (n / 16777216 % 256)] = [253, n / 1099511627776, n / 4294967296 % 256, n / 16777216 % 256].map (Value.int .u8) from rfl] at hown3
 obtain ⟨V, hV, hXV, hBV, hzV⟩ := boxes1 W3 #[.int .u8 (n / 65536 % 256), .int .u8 (n / 256 % 256), .int .u8 (n % 256)] 5
 replace hzV : W3.heap.size < V.heap.size := by omega
 have hownV := owns_go8 hown3 hBV
 obtain ⟨v9, W9, hap9, hown9, hB9, hz9, -, -⟩ := append_list Tryz.prog 84 und_bytes info_byte rfl (by decide) hownV (hB3.trans (hBV.mono (by omega))) (Nat.le_refl _) (by omega) (slAt_new hXV) rfl (by simp [Value.oneCell']) (by omega) (by omega) (by decide)
 have hcv := conv_own [253, n / 1099511627776, n / 4294967296 % 256, n / 16777216 % 256, n / 65536 % 256, n / 256 % 256, n % 256] rfl (by simp) hown9
 clear hown9 hownV hXV hX0 hown0
 go_enter Tryz.func50, Tryz.ntmps50
 go_wp2_with (go_at_call 87; refine hcall.mono ?_; rintro e w' ⟨rfl, rfl⟩)
 go_ret
 exact ⟨rfl, hB9⟩
set_option maxRecDepth 100000 in
set_option maxHeartbeats 4000000 in
theorem put_big7 (n : Int) (w : World) (h0 : 281474976710656 ≤ n) (h1 : n ≤ 72057594037927935) :
  Calls Tryz.prog 50 #[.int .u64 n] w fun e w' => e = .returned (.string (strOfNums [254, n / 281474976710656, n / 1099511627776 % 256, n / 4294967296 % 256, n / 16777216 % 256, n / 65536 % 256, n / 256 % 256, n % 256])) ∧ Below w.heap.size w w' := by
 have hL : 49 ≤ Lib.bitLen n.toNat ∧ Lib.bitLen n.toNat ≤ 56 := by
  rw [Lib.bitLen_shift48 n.toNat (by omega) (by omega)]
  have h2 := bitLen_pos8 (n.toNat / 281474976710656) (by omega) (by omega)
  omega
 have hcall := Tryz.bits_Len64 n w (by omega) (by omega)
 generalize Lib.bitLen n.toNat = L at hL hcall
 have hq : ((L : Int) + 7) / 8 = 7 := by omega
 obtain ⟨W0, hW0, hX0, hB0, hz0⟩ := boxes1 w #[.int .u8 254] 5
 replace hz0 : w.heap.size < W0.heap.size := by omega
 have hown0 : W0.ownsRow w.heap.size 5 1 (.slice (some ⟨w.heap.size, 0, none⟩) 1 1) 1 ([254].map (Value.int .u8)) := owns_new hX0
 obtain ⟨g1, c1, W1, hap1, hown1, hB1, hz1, -, -⟩ := append_one Tryz.prog 84 und_bytes info_byte rfl (by decide) (W := W0) hown0 hB0 (Nat.le_refl _) (by omega) [.int .u8 (n / 281474976710656)] rfl (by simp [Value.oneCell']) (by omega) (by decide)
 rw [show ([254].map (Value.int .u8)) ++ [Value.int .u8 (n / 281474976710656)] = [254, n / 281474976710656].map (Value.int .u8) from rfl] at hown1
 obtain ⟨g2, c2, W2, hap2, hown2, hB2, hz2, -, -⟩ := append_one Tryz.prog 84 und_bytes info_byte rfl (by decide) (W := W1) hown1 hB1 (Nat.le_refl _) (by omega) [.int .u8 (n / 1099511627776 % 256)] rfl (by simp [Value.oneCell']) (by omega) (by decide)
 rw [show ([254, n / 281474976710656].map (Value.int .u8)) ++ [Value.int .u8 (n / 1099511627776 % 256)] = [254, n / 281474976710656, n / 1099511627776 % 256].map (Value.int .u8) from rfl] at hown2
 obtain ⟨g3, c3, W3, hap3, hown3, hB3, hz3, -, -⟩ := append_one Tryz.prog 84 und_bytes info_byte rfl (by decide) (W := W2) hown2 hB2 (Nat.le_refl _) (by omega) [.int .u8 (n / 4294967296 % 256)] rfl (by simp [Value.oneCell']) (by omega) (by decide)
 rw [show ([254, n / 281474976710656, n / 1099511627776 % 256].map (Value.int .u8)) ++ [Value.int .u8 (n / 4294967296 % 256)] = [254, n / 281474976710656, n / 1099511627776 % 256, n / 4294967296 % 256].map (Value.int .u8) from rfl] at hown3
 obtain ⟨g4, c4, W4, hap4, hown4, hB4, hz4, -, -⟩ := append_one Tryz.prog 84 und_bytes info_byte rfl (by decide) (W := W3) hown3 hB3 (Nat.le_refl _) (by omega) [.int .u8 (n / 16777216 % 256)] rfl (by simp [Value.oneCell']) (by omega) (by decide)
 rw [show ([254, n / 281474976710656, n / 1099511627776 % 256, n / 4294967296 % 256].map (Value.int .u8)) ++ [Value.int .u8 (n / 16777216 % 256)] = [254, n / 281474976710656, n / 1099511627776 % 256, n / 4294967296 % 256, n / 16777216 % 256].map (Value.int .u8) from rfl] at hown4
 obtain ⟨V, hV, hXV, hBV, hzV⟩ := boxes1 W4 #[.int .u8 (n / 65536 % 256), .int .u8 (n / 256 % 256), .int .u8 (n % 256)] 5
 replace hzV : W4.heap.size < V.heap.size := by omega
 have hownV := owns_go8 hown4 hBV
 obtain ⟨v9, W9, hap9, hown9, hB9, hz9, -, -⟩ := append_list Tryz.prog 84 und_bytes info_byte rfl (by decide) hownV (hB4.trans (hBV.mono (by omega))) (Nat.le_refl _) (by omega) (slAt_new hXV) rfl (by simp [Value.oneCell']) (by omega) (by omega) (by decide)
 have hcv := conv_own [254, n / 281474976710656, n / 1099511627776 % 256, n / 4294967296 % 256, n / 16777216 % 256, n / 65536 % 256, n / 256 % 256, n % 256] rfl (by simp) hown9
 clear hown9 hownV hXV hX0 hown0
 go_enter Tryz.func50, Tryz.ntmps50
 go_wp2_with (go_at_call 87; refine hcall.mono ?_; rintro e w' ⟨rfl, rfl⟩)
 go_ret
 exact ⟨rfl, hB9⟩
set_option maxRecDepth 100000 in
set_option maxHeartbeats 4000000 in
theorem put_big8 (n : Int) (w : World) (h0 : 72057594037927936 ≤ n) (h1 : n ≤ 18446744073709551615) :
  Calls Tryz.prog 50 #[.int .u64 n] w fun e w' => e = .returned (.string (strOfNums [255, n / 72057594037927936, n / 281474976710656 % 256, n / 1099511627776 % 256, n / 4294967296 % 256, n / 16777216 % 256, n / 65536 % 256, n / 256 % 256, n % 256])) ∧ Below w.heap.size w w' := by
 have hL : 57 ≤ Lib.bitLen n.toNat ∧ Lib.bitLen n.toNat ≤ 64 := by
  rw [Lib.bitLen_shift56 n.toNat (by omega) (by omega)]
  have h2 := bitLen_pos8 (n.toNat / 72057594037927936) (by omega) (by omega)
  omega
 have hcall := Tryz.bits_Len64 n w (by omega) (by omega)
 generalize Lib.bitLen n.toNat = L at hL hcall
 have hq : ((L : Int) + 7) / 8 = 8 := by omega
 obtain ⟨W0, hW0, hX0, hB0, hz0⟩ := boxes1 w #[.int .u8 255] 5
 replace hz0 : w.heap.size < W0.heap.size := by omega
 have hown0 : W0.ownsRow w.heap.size 5 1 (.slice (some ⟨w.heap.size, 0, none⟩) 1 1) 1 ([255].map (Value.int .u8)) := owns_new hX0
 obtain ⟨g1, c1, W1, hap1, hown1, hB1, hz1, -, -⟩ := append_one Tryz.prog 84 und_bytes info_byte rfl (by decide) (W := W0) hown0 hB0 (Nat.le_refl _) (by omega) [.int .u8 (n / 72057594037927936)] rfl (by simp [Value.oneCell']) (by omega) (by decide)
 rw [show ([255].map (Value.int .u8)) ++ [Value.int .u8 (n / 72057594037927936)] = [255, n / 72057594037927936].map (Value.int .u8) from rfl] at hown1
 obtain ⟨g2, c2, W2, hap2, hown2, hB2, hz2, -, -⟩ := append_one Tryz.prog 84 und_bytes info_byte rfl (by decide) (W := W1) hown1 hB1 (Nat.le_refl _) (by omega) [.int .u8 (n / 281474976710656 % 256)] rfl (by simp [Value.oneCell']) (by omega) (by decide)
 rw [show ([255, n / 72057594037927936].map (Value.int .u8)) ++ [Value.int .u8 (n / 281474976710656 % 256)] = [255, n / 72057594037927936, n / 281474976710656 % 256].map (Value.int .u8) from rfl] at hown2
 obtain ⟨g3, c3, W3, hap3, hown3, hB3, hz3, -, -⟩ := append_one Tryz.prog 84 und_bytes info_byte rfl (by decide) (W := W2) hown2 hB2 (Nat.le_refl _) (by omega) [.int .u8 (n / 1099511627776 % 256)] rfl (by simp [Value.oneCell']) (by omega) (by decide)
 rw [show ([255, n / 72057594037927936, n / 281474976710656 % 256].map (Value.int .u8)) ++ [Value.int .u8 (n / 1099511627776 % 256)] = [255, n / 72057594037927936, n / 281474976710656 % 256, n / 1099511627776 % 256].map (Value.int .u8) from rfl] at hown3
 obtain ⟨g4, c4, W4, hap4, hown4, hB4, hz4, -, -⟩ := append_one Tryz.prog 84 und_bytes info_byte rfl (by decide) (W := W3) hown3 hB3 (Nat.le_refl _) (by omega) [.int .u8 (n / 4294967296 % 256)] rfl (by simp [Value.oneCell']) (by omega) (by decide)
 rw [show ([255, n / 72057594037927936, n / 281474976710656 % 256, n / 1099511627776 % 256].map (Value.int .u8)) ++ [Value.int .u8 (n / 4294967296 % 256)] = [255, n / 72057594037927936, n / 281474976710656 % 256, n / 1099511627776 % 256, n / 4294967296 % 256].map (Value.int .u8) from rfl] at hown4
 obtain ⟨g5, c5, W5, hap5, hown5, hB5, hz5, -, -⟩ := append_one Tryz.prog 84 und_bytes info_byte rfl (by decide) (W := W4) hown4 hB4 (Nat.le_refl _) (by omega) [.int .u8 (n / 16777216 % 256)] rfl (by simp [Value.oneCell']) (by omega) (by decide)
 rw [show ([255, n / 72057594037927936, n / 281474976710656 % 256, n / 1099511627776 % 256, n / 4294967296 % 256].map (Value.int .u8)) ++ [Value.int .u8 (n / 16777216 % 256)] = [255, n / 72057594037927936, n / 281474976710656 % 256, n / 1099511627776 % 256, n / 4294967296 % 256, n / 16777216 % 256].map (Value.int .u8) from rfl] at hown5
 obtain ⟨V, hV, hXV, hBV, hzV⟩ := boxes1 W5 #[.int .u8 (n / 65536 % 256), .int .u8 (n / 256 % 256), .int .u8 (n % 256)] 5
 replace hzV : W5.heap.size < V.heap.size := by omega
 have hownV := owns_go8 hown5 hBV
 obtain ⟨v9, W9, hap9, hown9, hB9, hz9, -, -⟩ := append_list Tryz.prog 84 und_bytes info_byte rfl (by decide) hownV (hB5.trans (hBV.mono (by omega))) (Nat.le_refl _) (by omega) (slAt_new hXV) rfl (by simp [Value.oneCell']) (by omega) (by omega) (by decide)
 have hcv := conv_own [255, n / 72057594037927936, n / 281474976710656 % 256, n / 1099511627776 % 256, n / 4294967296 % 256, n / 16777216 % 256, n / 65536 % 256, n / 256 % 256, n % 256] rfl (by simp) hown9
 clear hown9 hownV hXV hX0 hown0
 go_enter Tryz.func50, Tryz.ntmps50
 go_wp2_with (go_at_call 87; refine hcall.mono ?_; rintro e w' ⟨rfl, rfl⟩)
 go_ret
 exact ⟨rfl, hB9⟩
def putNums (n : Int) : List Int :=
 if n ≤ 240 then [n] else if n ≤ 2287 then [241 + (n - 240) / 256, (n - 240) % 256] else if n ≤ 67823 then [249, (n - 2288) / 256, (n - 2288) % 256]
 else if n ≤ 16777215 then [250, n / 65536, n / 256 % 256, n % 256]
 else if n ≤ 4294967295 then [251, n / 16777216, n / 65536 % 256, n / 256 % 256, n % 256]
 else if n ≤ 1099511627775 then [252, n / 4294967296, n / 16777216 % 256, n / 65536 % 256, n / 256 % 256, n % 256]
 else if n ≤ 281474976710655 then [253, n / 1099511627776, n / 4294967296 % 256, n / 16777216 % 256, n / 65536 % 256, n / 256 % 256, n % 256]
 else if n ≤ 72057594037927935 then [254, n / 281474976710656, n / 1099511627776 % 256, n / 4294967296 % 256, n / 16777216 % 256, n / 65536 % 256, n / 256 % 256, n % 256]
 else [255, n / 72057594037927936, n / 281474976710656 % 256, n / 1099511627776 % 256, n / 4294967296 % 256, n / 16777216 % 256, n / 65536 % 256, n / 256 % 256, n % 256]
theorem field_Put_any (n : Int) (w : World) (h : U64 n) :
  Calls Tryz.prog 50 #[.int .u64 n] w fun e w' => e = .returned (.string (strOfNums (putNums n))) ∧ Below w.heap.size w w' := by
 obtain ⟨h0, h1⟩ := h
 unfold putNums
 by_cases c0 : n ≤ 240
 ·rw [if_pos c0]; exact put_one n w h0 c0
 rw [if_neg c0]
 by_cases c1 : n ≤ 2287
 ·rw [if_pos c1]; exact put_two n w (by omega) c1
 rw [if_neg c1]
 by_cases c2 : n ≤ 67823
 ·rw [if_pos c2]; exact put_three n w (by omega) c2
 rw [if_neg c2]
 by_cases c3 : n ≤ 16777215
 ·rw [if_pos c3]; exact put_big3 n w (by omega) c3
 rw [if_neg c3]
 by_cases c4 : n ≤ 4294967295
 ·rw [if_pos c4]; exact put_big4 n w (by omega) c4
 rw [if_neg c4]
 by_cases c5 : n ≤ 1099511627775
 ·rw [if_pos c5]; exact put_big5 n w (by omega) c5
 rw [if_neg c5]
 by_cases c6 : n ≤ 281474976710655
 ·rw [if_pos c6]; exact put_big6 n w (by omega) c6
 rw [if_neg c6]
 by_cases c7 : n ≤ 72057594037927935
 ·rw [if_pos c7]; exact put_big7 n w (by omega) c7
 rw [if_neg c7]
 exact put_big8 n w (by omega) (by omega)
end Go.Proofs.YtpklkhgnjbopnaaGreatDoor
namespace Go.Proofs.YtpklkhgnjbopnaaGreatDoor
open Go Go.RowKit
def numsB (l : List Int) : List UInt8 := l.flatMap fun n => (putNums n).map fun k => UInt8.ofNat k.toNat
theorem strCells_nums (xs : List Int) : Lib.strCells (strOfNums xs) = Lib.byteCells (xs.map fun k => UInt8.ofNat k.toNat) := by
 rw [Lib.strCells, strOfNums_data]; rfl
theorem putNums_len (n : Int) : 1 ≤ (putNums n).length ∧ (putNums n).length ≤ 9 := by
 unfold putNums
 repeat' split
 all_goals simp
theorem numsB_append (a b : List Int) : numsB (a ++ b) = numsB a ++ numsB b := by simp [numsB]
theorem numsB_len (l : List Int) : l.length ≤ (numsB l).length ∧ (numsB l).length ≤ 9 * l.length := by
 induction l with
 | nil => simp [numsB]
 | cons x l ih =>
  have := putNums_len x
  rw [show numsB (x :: l) = (putNums x).map (fun k => UInt8.ofNat k.toNat) ++ numsB l from rfl, List.length_append, List.length_map, List.length_cons]
  omega
theorem byteCells_append (a b : List UInt8) : Lib.byteCells (a ++ b) = Lib.byteCells a ++ Lib.byteCells b := by simp [Lib.byteCells]
def WK (B b : Nat) (w w' : World) : Prop := Below B w w' ∧ Lib.OthersKept 5 (some b) w w'
theorem WK.refl (B b : Nat) (w : World) : WK B b w w := ⟨Below.refl _ _, Lib.OthersKept.refl _ _ _⟩
theorem WK.trans {B b : Nat} {w w' w'' : World} (h : WK B b w w') (h' : WK B b w' w'') : WK B b w w'' := ⟨h.1.trans h'.1, h.2.trans h'.2⟩
theorem WK.of_below {B b : Nat} {w w' : World} (h : Below w.heap.size w w') (hB : B ≤ w.heap.size) : WK B b w w' := ⟨h.mono hB, fun _ _ hk _ _ => known h (Nat.le_refl _) hk⟩
theorem owns_goF {A B : World} {base e size n : Nat} {v : Value} {xs : List Value} (h : A.ownsRowF base e size v n xs) (hb : Below A.heap.size A B) : B.ownsRowF base e size v n xs :=
 ⟨h.1, h.2.imp id (fun ⟨g, cap, cur, fz, h1, h2, h3, h4⟩ => ⟨g, cap, cur, fz, h1, h2, known hb (Nat.le_refl _) h3, h4⟩)⟩
end Go.Proofs.YtpklkhgnjbopnaaGreatDoor

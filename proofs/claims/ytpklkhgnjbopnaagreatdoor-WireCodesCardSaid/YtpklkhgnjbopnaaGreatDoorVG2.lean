/- errors.As at a target of type **frame.fault: lines of the worked example ToyasAs turned to this program; frame.errno, isFull. Package frame: read. Package frame: read, the check. Printed by gen_wn.py. Package frame: read at any bytes. A range over a function whose iterator keeps a variable of its own in a box (strings.SplitSeq): the kit's law of such a range, turned to that case. A range over a function whose iterator keeps a variable of its own and makes what it tells as it goes (frame.each): A2's law, the next thing told by what is known of it. Of no program. Package grant: Right, New, the library's IndexFunc, ContainsFunc; May. -/
import Derived.Test.YtpklkhgnjbopnaaGreatDoorVWk
namespace Go.Proofs.YtpklkhgnjbopnaaGreatDoor.Fr
open Go Go.RowKit Go.Extern.Stop Go.Stop Go.Extern
def FaultAt (W : World) (v : Value) (no : Int) : Prop := ∃ b, v = .iface 189 (.pointer (some ⟨b, 0, none⟩)) ∧ W.heap[b]? = some (.cells #[.int .i64 no] 191 (0, 0))
theorem as_nil (t : Value) (w : World) :
  Calls Tryz.prog 97 #[.nilIface, t] w fun e w' => e = .returned (.bool false) ∧ w' = w := by
 go_enter Tryz.func97, Tryz.ntmps97
 go_wp2
 go_ret
 exact ⟨rfl, rfl⟩
theorem as_valueOf27 (t : Addr) (w : World) : (ReflectliteValue.unpack (.iface 193 (.pointer (some t)))).run Tryz.prog w
  = .ok (.agg #[.pointer (some ⟨6, 193, none⟩), .pointer (some ⟨w.heap.size, 0, none⟩), .int .u64 150]) (w.alloc (.cells #[.pointer (some t)] 193)) := by kernel_rfl
theorem as_type27 (a : Addr) (w : World) : (ReflectliteValue.methodAny (ReflectliteValue.valueError "reflectlite.Value.Type" 0) (fun t _ _ _ => ReflectliteType.toType t) #[.agg #[.pointer (some ⟨6, 193, none⟩), .pointer (some a), .int .u64 150]]).run Tryz.prog w
  = .ok (.iface 283 (.agg #[.pointer (some ⟨6, 193, none⟩)])) w := by kernel_rfl
theorem as_methodKind (h : Value) (w : World) : (Go.method 742 283 (.agg #[h]) "Kind").run Tryz.prog w = .ok (342, h) w := by kernel_rfl
theorem as_kind27 (w : World) : ((ReflectliteType.abiMethod fun t => (fun a : Nat => Value.int IntKind.u8 (a : Int)) <$> Rtype.kind t) #[.pointer (some ⟨6, 193, none⟩)]).run Tryz.prog w = .ok (.int .u8 22) w := by kernel_rfl
theorem as_kind25 (w : World) : ((ReflectliteType.abiMethod fun t => (fun a : Nat => Value.int IntKind.u8 (a : Int)) <$> Rtype.kind t) #[.pointer (some ⟨6, 189, none⟩)]).run Tryz.prog w = .ok (.int .u8 22) w := by kernel_rfl
theorem rlm (z : Sem Value) (f : TypeId → Addr → Nat → Nat → Sem Value) (v : Value) :
  ReflectliteValue.method z f #[v] = (do match ← ReflectliteValue.parts v with | none => z | some (t, a, fl) => f t a fl (fl % 32)) := rfl
theorem as_parts27 (a : Addr) (w : World) : (ReflectliteValue.parts (.agg #[.pointer (some ⟨6, 193, none⟩), .pointer (some a), .int .u64 150])).run Tryz.prog w = .ok (some (193, a, 150)) w := by kernel_rfl
theorem as_isNil27 (a p : Addr) (W : World) (ha : W.cell? a = some (.pointer (some p))) :
  (ReflectliteValue.method (ReflectliteValue.valueError "reflectlite.Value.IsNil" 0) ReflectliteValue.isNil #[.agg #[.pointer (some ⟨6, 193, none⟩), .pointer (some a), .int .u64 150]]).run Tryz.prog W = .ok (.bool false) W := by
 rw [rlm]
 simp only [Sem.run_bind, as_parts27, Result.andThen]
 simp [ReflectliteValue.isNil, loadVar, isAgg, underlying, Tryz.underlying193, ha, Result.andThen]
theorem as_methodElem (h : Value) (w : World) : (Go.method 742 283 (.agg #[h]) "Elem").run Tryz.prog w = .ok (358, .agg #[h]) w := by kernel_rfl
theorem as_methodImplements (h : Value) (w : World) : (Go.method 742 283 (.agg #[h]) "Implements").run Tryz.prog w = .ok (359, .agg #[h]) w := by kernel_rfl
theorem as_methodAssignableTo (h : Value) (w : World) : (Go.method 742 283 (.agg #[h]) "AssignableTo").run Tryz.prog w = .ok (356, .agg #[h]) w := by kernel_rfl
theorem as_elem27 (w : World) : (ReflectliteType.method ReflectliteType.elem #[.agg #[.pointer (some ⟨6, 193, none⟩)]]).run Tryz.prog w = .ok (.iface 283 (.agg #[.pointer (some ⟨6, 189, none⟩)])) w := by kernel_rfl
theorem as_implements25 (w : World) : (ReflectliteType.relation "Implements" ReflectliteType.implements_ #[.agg #[.pointer (some ⟨6, 189, none⟩)], .iface 283 (.agg #[.pointer (some ⟨6, 88, none⟩)])]).run Tryz.prog w = .ok (.bool true) w := by kernel_rfl
theorem as_typeOf25 (v : Value) (w : World) : (ReflectliteType.typeOf #[.iface 189 v]).run Tryz.prog w = .ok (.iface 283 (.agg #[.pointer (some ⟨6, 189, none⟩)])) w := by kernel_rfl
theorem as_assignable25 (w : World) : (ReflectliteType.relation "AssignableTo" ReflectliteType.assignableTo #[.agg #[.pointer (some ⟨6, 189, none⟩)], .iface 283 (.agg #[.pointer (some ⟨6, 189, none⟩)])]).run Tryz.prog w = .ok (.bool true) w := by kernel_rfl
theorem as_valueOf25 (e : Addr) (w : World) : (ReflectliteValue.unpack (.iface 189 (.pointer (some e)))).run Tryz.prog w
  = .ok (.agg #[.pointer (some ⟨6, 189, none⟩), .pointer (some ⟨w.heap.size, 0, none⟩), .int .u64 150]) (w.alloc (.cells #[.pointer (some e)] 189)) := by kernel_rfl
theorem as_elemOf27 (w : World) : (Rtype.elem? 193).run Tryz.prog w = .ok (some 189) w := by kernel_rfl
theorem as_mk25 (p : Addr) (w : World) : (ReflectliteValue.mk 189 p ReflectliteValue.flagAddr).run Tryz.prog w = .ok (.agg #[.pointer (some ⟨6, 189, none⟩), .pointer (some p), .int .u64 406]) w := by kernel_rfl
theorem as_elemV27 (a p : Addr) (W : World) (ha : W.cell? a = some (.pointer (some p))) :
  (ReflectliteValue.method (ReflectliteValue.valueError "reflectlite.Value.Elem" 0) ReflectliteValue.elem #[.agg #[.pointer (some ⟨6, 193, none⟩), .pointer (some a), .int .u64 150]]).run Tryz.prog W
   = .ok (.agg #[.pointer (some ⟨6, 189, none⟩), .pointer (some p), .int .u64 406]) W := by
 rw [rlm]
 simp only [Sem.run_bind, as_parts27, Result.andThen]
 simp [ReflectliteValue.elem, loadVar, isAgg, underlying, Tryz.underlying193, ha, Result.andThen, as_elemOf27, as_mk25]
theorem rls (v x : Value) : ReflectliteValue.set #[v, x] = (do
  let (some (dst, a, fl), some (src, b, _)) := (← ReflectliteValue.parts v, ← ReflectliteValue.parts x)
   | unsupported (.noEntry "extern/(internal/reflectlite.Value).Set.zeroValue")
  if fl / ReflectliteValue.flagAddr % 2 == 0 then unsupported (.noEntry "extern/(internal/reflectlite.Value).Set.unaddressable")
  let val ← loadVar src b
  if ← Rtype.directlyAssignable dst src then storeVar dst a val
  else if ← Rtype.implements dst src then
   if (← Rtype.kind src) == 20 then
    match val with
    | .nilIface => unsupported (.noEntry "extern/reflectlite: a nil value of one interface type handed on as a value of another")
    | _ => storeVar dst a val
   else storeVar dst a (.iface src val)
  else panicString ("reflectlite.Set: value of type " ++ (← Rtype.spelt src) ++ " is not assignable to type " ++ (← Rtype.spelt dst))
  pure (.tuple #[])) := rfl
theorem as_parts25a (a : Addr) (w : World) : (ReflectliteValue.parts (.agg #[.pointer (some ⟨6, 189, none⟩), .pointer (some a), .int .u64 406])).run Tryz.prog w = .ok (some (189, a, 406)) w := by kernel_rfl
theorem as_parts25 (a : Addr) (w : World) : (ReflectliteValue.parts (.agg #[.pointer (some ⟨6, 189, none⟩), .pointer (some a), .int .u64 150])).run Tryz.prog w = .ok (some (189, a, 150)) w := by kernel_rfl
theorem as_direct25 (w : World) : (Rtype.directlyAssignable 189 189).run Tryz.prog w = .ok true w := by kernel_rfl
theorem as_set25 (ta b e : Addr) (old : Value) (W : World) (hb : W.cell? b = some (.pointer (some e))) (ht : W.cell? ta = some old) (hf : W.frozen? ta = false) :
  (ReflectliteValue.set #[.agg #[.pointer (some ⟨6, 189, none⟩), .pointer (some ta), .int .u64 406], .agg #[.pointer (some ⟨6, 189, none⟩), .pointer (some b), .int .u64 150]]).run Tryz.prog W
   = .ok (.tuple #[]) (W.setCell ta (.pointer (some e))) := by
 rw [rls]
 simp only [Sem.run_bind, as_parts25a, as_parts25, Result.andThen]
 simp [ReflectliteValue.flagAddr, loadVar, isAgg, underlying, Tryz.underlying189, hb, Result.andThen, as_direct25, storeVar, Value.cells, storeCells, Addr.add]
 rw [run_store Tryz.prog W ta _ _ (by rfl)]
 simp [ht, hf]
set_option maxHeartbeats 4000000 in
theorem as_hit (e t : Addr) (old : Value) (w : World) (hg : w.cell? ⟨0, 0, none⟩ = some (.iface 283 (.agg #[.pointer (some ⟨6, 88, none⟩)]))) (ht0 : w.cell? t = some old) (hf0 : w.frozen? t = false) :
  Calls Tryz.prog 97 #[.iface 189 (.pointer (some e)), .iface 193 (.pointer (some t))] w fun ev w' => ev = .returned (.bool true) ∧ w' = ((((w.alloc (.cells #[.pointer (some t)] 193)).alloc (.cells #[.pointer (some ⟨6, 193, none⟩), .pointer (some ⟨w.heap.size, 0, none⟩), .int .u64 150] 228)).alloc (.cells #[.pointer (some ⟨6, 193, none⟩), .pointer (some ⟨w.heap.size, 0, none⟩), .int .u64 150] 228)).alloc (.cells #[.pointer (some e)] 189)).setCell t (.pointer (some e)) := by
 have h6 := @run_callFunc_extern Tryz.prog 120 _ (fun args => ReflectliteValue.unpack (args.getD 0 (.tuple #[]))) Tryz.func120 (by kernel_rfl) (by kernel_rfl) (by kernel_rfl) (by kernel_rfl)
 have h7 := @run_callFunc_extern Tryz.prog 121 _ (ReflectliteValue.methodAny (ReflectliteValue.valueError "reflectlite.Value.Type" 0) (fun t _ _ _ => ReflectliteType.toType t)) Tryz.func121 (by kernel_rfl) (by kernel_rfl) (by kernel_rfl) (by kernel_rfl)
 have h8 := @run_callFunc_extern Tryz.prog 122 _ (ReflectliteValue.method (ReflectliteValue.valueError "reflectlite.Value.IsNil" 0) ReflectliteValue.isNil) Tryz.func122 (by kernel_rfl) (by kernel_rfl) (by kernel_rfl) (by kernel_rfl)
 have h27 := @run_callFunc_extern Tryz.prog 342 _ (ReflectliteType.abiMethod fun t => do pure (.int .u8 (← Rtype.kind t))) Tryz.func342 (by kernel_rfl) (by kernel_rfl) (by kernel_rfl) (by kernel_rfl)
 have h37 := @run_callFunc_extern Tryz.prog 358 _ (ReflectliteType.method ReflectliteType.elem) Tryz.func358 (by kernel_rfl) (by kernel_rfl) (by kernel_rfl) (by kernel_rfl)
 have h38 := @run_callFunc_extern Tryz.prog 359 _ (ReflectliteType.relation "Implements" ReflectliteType.implements_) Tryz.func359 (by kernel_rfl) (by kernel_rfl) (by kernel_rfl) (by kernel_rfl)
 have h10 := @run_callFunc_extern Tryz.prog 145 _ ReflectliteType.typeOf Tryz.func145 (by kernel_rfl) (by kernel_rfl) (by kernel_rfl) (by kernel_rfl)
 have h35 := @run_callFunc_extern Tryz.prog 356 _ (ReflectliteType.relation "AssignableTo" ReflectliteType.assignableTo) Tryz.func356 (by kernel_rfl) (by kernel_rfl) (by kernel_rfl) (by kernel_rfl)
 have h11 := @run_callFunc_extern Tryz.prog 146 _ (ReflectliteValue.method (ReflectliteValue.valueError "reflectlite.Value.Elem" 0) ReflectliteValue.elem) Tryz.func146 (by kernel_rfl) (by kernel_rfl) (by kernel_rfl) (by kernel_rfl)
 have h12 := @run_callFunc_extern Tryz.prog 147 _ ReflectliteValue.set Tryz.func147 (by kernel_rfl) (by kernel_rfl) (by kernel_rfl) (by kernel_rfl)
 have tO := as_typeOf25
 have mA := as_methodAssignableTo
 have a25 := as_assignable25
 have v25 := as_valueOf25
 have f6 := as_valueOf27
 have f7 := as_type27
 have mK := as_methodKind
 have mE := as_methodElem
 have mI := as_methodImplements
 have k27 := as_kind27
 have k25 := as_kind25
 have e27 := as_elem27
 have i25 := as_implements25
 have n8 := as_isNil27 ⟨w.heap.size, 0, none⟩ t ((w.alloc (.cells #[.pointer (some t)] 193)).alloc (.cells #[.pointer (some ⟨6, 193, none⟩), .pointer (some ⟨w.heap.size, 0, none⟩), .int .u64 150] 228)) (by simp)
 have hlt : 0 < w.heap.size := World.block_lt_of_cell? w _ hg
 have hg2 : ((w.alloc (.cells #[.pointer (some t)] 193)).alloc (.cells #[.pointer (some ⟨6, 193, none⟩), .pointer (some ⟨w.heap.size, 0, none⟩), .int .u64 150] 228)).cell? ⟨0, 0, none⟩ = some (.iface 283 (.agg #[.pointer (some ⟨6, 88, none⟩)])) := by
  rw [World.cell?_alloc_lt _ _ ⟨0, 0, none⟩ (by simp <;> omega), World.cell?_alloc_lt _ _ ⟨0, 0, none⟩ hlt]; exact hg
 have htl : t.block < w.heap.size := by
  rcases Nat.lt_or_ge t.block w.heap.size with h | h
  ·exact h
  ·simp [World.cell?, Array.getElem?_eq_none h] at ht0
 have el := as_elemV27 ⟨w.heap.size, 0, none⟩ t (((w.alloc (.cells #[.pointer (some t)] 193)).alloc (.cells #[.pointer (some ⟨6, 193, none⟩), .pointer (some ⟨w.heap.size, 0, none⟩), .int .u64 150] 228)).alloc (.cells #[.pointer (some ⟨6, 193, none⟩), .pointer (some ⟨w.heap.size, 0, none⟩), .int .u64 150] 228)) (by rw [World.cell?_alloc_lt _ _ ⟨w.heap.size, 0, none⟩ (by simp; omega)]; simp)
 have st := as_set25 t ⟨w.heap.size + 1 + 1 + 1, 0, none⟩ e old ((((w.alloc (.cells #[.pointer (some t)] 193)).alloc (.cells #[.pointer (some ⟨6, 193, none⟩), .pointer (some ⟨w.heap.size, 0, none⟩), .int .u64 150] 228)).alloc (.cells #[.pointer (some ⟨6, 193, none⟩), .pointer (some ⟨w.heap.size, 0, none⟩), .int .u64 150] 228)).alloc (.cells #[.pointer (some e)] 189))
  (by rw [World.cell?_alloc_at _ _ _ _ (by simp)]; rfl)
  (by rw [World.cell?_alloc_lt _ _ t (by simp; omega), World.cell?_alloc_lt _ _ t (by simp; omega), World.cell?_alloc_lt _ _ t (by simp; omega), World.cell?_alloc_lt _ _ t htl]; exact ht0)
  (by rw [World.frozen?_alloc_old _ _ t (by simp; omega), World.frozen?_alloc_old _ _ t (by simp; omega), World.frozen?_alloc_old _ _ t (by simp; omega), World.frozen?_alloc_old _ _ t (Nat.ne_of_lt htl)]; exact hf0)
 go_enter Tryz.func97, Tryz.ntmps97
 go_wp2
 refine wp_loop_rounds 1 ?_
 rw [rounds_succ]
 go_wp2
 go_ret
 exact ⟨rfl, rfl⟩
def GT (w : World) : Prop := w.cell? ⟨0, 0, none⟩ = some (.iface 283 (.agg #[.pointer (some ⟨6, 88, none⟩)]))
theorem GT.lt {w : World} (h : GT w) : 0 < w.heap.size := World.block_lt_of_cell? w _ h
theorem GT.go {w w' : World} (h : GT w) (hb : Below w.heap.size w w') : GT w' := (hb.cell (p := ⟨0, 0, none⟩) h.lt).trans h
theorem errno_nil (w : World) : Calls Tryz.prog 70 #[.nilIface] w fun e w' => e = .returned (.int .i64 0) ∧ Below w.heap.size w w' := by
 have hA := fun t => as_nil t (w.alloc (.cells #[.pointer none] 189))
 go_enter Tryz.func70, Tryz.ntmps70
 go_wp2_with fail
 refine (hA _).mono ?_
 rintro e w1 ⟨rfl, rfl⟩
 go_wp2_with fail
 go_ret
 exact ⟨rfl, (Below.refl _ w).alloc (Nat.le_refl _) _⟩
theorem errno_fault (v : Value) (no : Int) (w : World) (hg : GT w) (hf : FaultAt w v no) : Calls Tryz.prog 70 #[v] w fun e w' => e = .returned (.int .i64 no) ∧ Below w.heap.size w w' := by
 obtain ⟨b, rfl, hb⟩ := hf
 obtain ⟨W1, hW1, hX1, hB1, hs1⟩ := boxes1 w #[.pointer none] 189
 have hA := as_hit ⟨b, 0, none⟩ ⟨w.heap.size, 0, none⟩ (.pointer none) W1 (hg.go hB1) (cCc hX1 0) (cFz hX1 0)
 obtain ⟨W2, hW2⟩ : ∃ W2, (((W1.alloc (.cells #[.pointer (some ⟨w.heap.size, 0, none⟩)] 193)).alloc (.cells #[.pointer (some ⟨6, 193, none⟩), .pointer (some ⟨W1.heap.size, 0, none⟩), .int .u64 150] 228)).alloc (.cells #[.pointer (some ⟨6, 193, none⟩), .pointer (some ⟨W1.heap.size, 0, none⟩), .int .u64 150] 228)).alloc (.cells #[.pointer (some ⟨b, 0, none⟩)] 189) = W2 := ⟨_, rfl⟩
 have hB2 : Below W1.heap.size W1 W2 := by
  rw [← hW2]
  exact ((((Below.refl _ W1).alloc (Nat.le_refl _) _).alloc (by simp <;> omega) _).alloc (by simp <;> omega) _).alloc (by simp <;> omega) _
 rw [hW2] at hA
 have hX2 := known hB2 (Nat.le_refl _) hX1
 have hbw := (Array.getElem?_eq_some_iff.1 hb).1
 have hb2 := known (hB1.trans (hB2.mono hB1.size)) (Nat.le_refl _) hb
 have hX3 : (W2.setCell ⟨w.heap.size, 0, none⟩ (.pointer (some ⟨b, 0, none⟩))).heap[w.heap.size]? = some (.cells #[.pointer (some ⟨b, 0, none⟩)] 189 (0, 0)) := hSk hX2 _
 have hb3 := (heap_set_other (W := W2) (p := ⟨w.heap.size, 0, none⟩) (b := b) (by show w.heap.size ≠ b; omega) (.pointer (some ⟨b, 0, none⟩))).trans hb2
 have hB3 : Below w.heap.size w (W2.setCell ⟨w.heap.size, 0, none⟩ (.pointer (some ⟨b, 0, none⟩))) := (hB1.trans (hB2.mono hB1.size)).setCell (p := ⟨w.heap.size, 0, none⟩) (Nat.le_refl _) _
 obtain ⟨W3, hW3⟩ : ∃ W3, W2.setCell ⟨w.heap.size, 0, none⟩ (.pointer (some ⟨b, 0, none⟩)) = W3 := ⟨_, rfl⟩
 rw [hW3] at hA hX3 hb3 hB3
 have c0 : W3.cell? ⟨w.heap.size, 0, none⟩ = some (.pointer (some ⟨b, 0, none⟩)) := cCc hX3 0
 have d0 : W3.cell? ⟨b, 0, none⟩ = some (.int .i64 no) := cCc hb3 0
 have HB3 := Lib.hid hB3
 clear hg hb hX1 hB1 hW2 hB2 hX2 hb2 hX3 hb3 hB3 hW3
 go_enter Tryz.func70, Tryz.ntmps70
 go_wp2_with fail
 refine hA.mono ?_
 rintro e w1 ⟨rfl, rfl⟩
 go_wp2_with fail
 go_ret
 exact ⟨rfl, HB3.out⟩
end Go.Proofs.YtpklkhgnjbopnaaGreatDoor.Fr
namespace Go.Proofs.YtpklkhgnjbopnaaGreatDoor
open Go Go.RowKit Go.Shelf
set_option maxRecDepth 100000 in
set_option maxHeartbeats 1000000 in
theorem read_empty (s : ByteArray) (h : s.size = 0) (w : World) : Calls Tryz.prog 69 #[.string s] w fun e w' => ∃ v, e = .returned (.tuple #[.string ⟨#[]⟩, .string s, v]) ∧ Fr.FaultAt w' v 20 ∧ Below w.heap.size w w' := by
 have he2 : s.toList.isEmpty = true := by rw [toList_isEmpty, h]; rfl
 have hne : s.toList = [] := List.isEmpty_iff.1 he2
 obtain ⟨W, hW, hX, hB, -⟩ := boxes1 w #[.int .i64 20] 191
 have HF : Hid (Fr.FaultAt W (.iface 189 (.pointer (some ⟨w.heap.size, 0, none⟩))) 20 ∧ Below w.heap.size w W) := ⟨⟨_, rfl, hX⟩, hB⟩
 clear hX hB
 go_enter Tryz.func69, Tryz.ntmps69
 go_wp2_with fail
 refine wp_scope_once 0 rfl ?_
 go_wp2_with fail
 go_step3
 refine And.intro (rfl : (0 : Nat) = 0) ?_
 go_wp2_with fail
 rw [Exit.noGoto_ret]
 go_ret3
 exact ⟨_, rfl, HF.out.1, HF.out.2⟩
set_option maxRecDepth 100000 in
set_option maxHeartbeats 1000000 in
theorem read_mark (s : ByteArray) (f : UInt8) (hlt : 0 < s.size) (hf : s[0]'hlt = f) (h : f ≠ 167) (w : World) : Calls Tryz.prog 69 #[.string s] w fun e w' => ∃ v, e = .returned (.tuple #[.string ⟨#[]⟩, .string s, v]) ∧ Fr.FaultAt w' v 30 ∧ Below w.heap.size w w' := by
 have he2 : s.toList.isEmpty = false := by
  rw [toList_isEmpty, beq_eq_false_iff_ne]
  omega
 have hne : ¬ s.toList = [] := by
  intro e
  rw [e] at he2
  cases he2
 have g1 : ¬ (f.toNat : Int) = 167 := fun e => h (UInt8.toNat_inj.1 (by have h : (167 : UInt8).toNat = 167 := rfl; omega))
 have g2 : ((f.toNat : Int) == 167) = false := by rw [beq_eq_false_iff_ne]; exact g1
 obtain ⟨W, hW, hX, hB, -⟩ := boxes1 w #[.int .i64 30] 191
 have HF : Hid (Fr.FaultAt W (.iface 189 (.pointer (some ⟨w.heap.size, 0, none⟩))) 30 ∧ Below w.heap.size w W) := ⟨⟨_, rfl, hX⟩, hB⟩
 clear hX hB
 go_enter Tryz.func69, Tryz.ntmps69
 go_wp2_with fail
 refine wp_scope_once 0 rfl ?_
 go_wp2_with fail
 go_step3
 refine And.intro (rfl : (0 : Nat) = 0) ?_
 go_wp2_with fail
 rw [Exit.noGoto_ret]
 go_ret3
 exact ⟨_, rfl, HF.out.1, HF.out.2⟩
set_option maxRecDepth 100000 in
set_option maxHeartbeats 2000000 in
theorem read_more (s t : ByteArray) (fm ff : Addr) (hlt : 0 < s.size) (hf : s[0]'hlt = 167) (ht : s.extract 1 s.size = t) (hz : t.size < 4294967281) (hg : getN t.data.toList = .more) (w : World) (hE : GF fm ff w) : Calls Tryz.prog 69 #[.string s] w fun e w' => ∃ v, e = .returned (.tuple #[.string ⟨#[]⟩, .string s, v]) ∧ Fr.FaultAt w' v 20 ∧ Below w.heap.size w w' := by
 have he2 : s.toList.isEmpty = false := by
  rw [toList_isEmpty, beq_eq_false_iff_ne]
  omega
 have hne : ¬ s.toList = [] := by
  intro e
  rw [e] at he2
  cases he2
 have hG := Get_any t fm ff w hz hE
 rw [hg] at hG
 unfold getRes at hG
 dsimp only at hG
 have HG := Lib.hid hG
 clear hG hg hE hz
 go_enter Tryz.func69, Tryz.ntmps69
 go_wp2_with fail
 refine wp_scope_once 0 rfl ?_
 go_wp2_with fail
 refine HG.out.mono ?_
 rintro e w1 ⟨rfl, hb⟩
 obtain ⟨W, hW, hX, hB, -⟩ := boxes1 w1 #[.int .i64 20] 191
 have HF : Hid (Fr.FaultAt W (.iface 189 (.pointer (some ⟨w1.heap.size, 0, none⟩))) 20 ∧ Below w.heap.size w W) := ⟨⟨_, rfl, hX⟩, hb.trans (hB.mono hb.size)⟩
 clear hX hB hb HG
 go_wp2_with fail
 go_step3
 refine And.intro (rfl : (0 : Nat) = 0) ?_
 go_wp2_with fail
 rw [Exit.noGoto_ret]
 go_ret3
 exact ⟨_, rfl, HF.out.1, HF.out.2⟩
set_option maxRecDepth 100000 in
set_option maxHeartbeats 2000000 in
theorem read_bad (s t : ByteArray) (fm ff : Addr) (hlt : 0 < s.size) (hf : s[0]'hlt = 167) (ht : s.extract 1 s.size = t) (hz : t.size < 4294967281) (hg : getN t.data.toList = .bad) (w : World) (hE : GF fm ff w) : Calls Tryz.prog 69 #[.string s] w fun e w' => ∃ v, e = .returned (.tuple #[.string ⟨#[]⟩, .string s, v]) ∧ Fr.FaultAt w' v 30 ∧ Below w.heap.size w w' := by
 have he2 : s.toList.isEmpty = false := by
  rw [toList_isEmpty, beq_eq_false_iff_ne]
  omega
 have hne : ¬ s.toList = [] := by
  intro e
  rw [e] at he2
  cases he2
 have hG := Get_any t fm ff w hz hE
 rw [hg] at hG
 unfold getRes at hG
 dsimp only at hG
 have HG := Lib.hid hG
 clear hG hg hE hz
 go_enter Tryz.func69, Tryz.ntmps69
 go_wp2_with fail
 refine wp_scope_once 0 rfl ?_
 go_wp2_with fail
 refine HG.out.mono ?_
 rintro e w1 ⟨rfl, hb⟩
 obtain ⟨W, hW, hX, hB, -⟩ := boxes1 w1 #[.int .i64 30] 191
 have HF : Hid (Fr.FaultAt W (.iface 189 (.pointer (some ⟨w1.heap.size, 0, none⟩))) 30 ∧ Below w.heap.size w W) := ⟨⟨_, rfl, hX⟩, hb.trans (hB.mono hb.size)⟩
 clear hX hB hb HG
 go_wp2_with fail
 go_step3
 refine And.intro (rfl : (0 : Nat) = 0) ?_
 go_wp2_with fail
 rw [Exit.noGoto_ret]
 go_ret3
 exact ⟨_, rfl, HF.out.1, HF.out.2⟩
set_option maxRecDepth 100000 in
set_option maxHeartbeats 2000000 in
theorem read_none (s t : ByteArray) (fm ff : Addr) (n : Int) (r : List UInt8) (hlt : 0 < s.size) (hf : s[0]'hlt = 167) (ht : s.extract 1 s.size = t) (hz : t.size < 4294967281) (hg : getN t.data.toList = .got n r) (hu : U64 n) (h0 : n = 0) (w : World) (hE : GF fm ff w) : Calls Tryz.prog 69 #[.string s] w fun e w' => ∃ v, e = .returned (.tuple #[.string ⟨#[]⟩, .string s, v]) ∧ Fr.FaultAt w' v 30 ∧ Below w.heap.size w w' := by
 have he2 : s.toList.isEmpty = false := by
  rw [toList_isEmpty, beq_eq_false_iff_ne]
  omega
 have hne : ¬ s.toList = [] := by
  intro e
  rw [e] at he2
  cases he2
 have hG := Get_any t fm ff w hz hE
 rw [hg] at hG
 unfold getRes at hG
 dsimp only at hG
 have HG := Lib.hid hG
 obtain ⟨hu0, hu1⟩ := hu
 subst h0
 clear hG hg hE hz
 go_enter Tryz.func69, Tryz.ntmps69
 go_wp2_with fail
 refine wp_scope_once 0 rfl ?_
 go_wp2_with fail
 refine HG.out.mono ?_
 rintro e w1 ⟨rfl, hb⟩
 obtain ⟨W, hW, hX, hB, -⟩ := boxes1 w1 #[.int .i64 30] 191
 have HF : Hid (Fr.FaultAt W (.iface 189 (.pointer (some ⟨w1.heap.size, 0, none⟩))) 30 ∧ Below w.heap.size w W) := ⟨⟨_, rfl, hX⟩, hb.trans (hB.mono hb.size)⟩
 clear hX hB hb HG
 go_wp2_with fail
 go_step3
 refine And.intro (rfl : (0 : Nat) = 0) ?_
 go_wp2_with fail
 rw [Exit.noGoto_ret]
 go_ret3
 exact ⟨_, rfl, HF.out.1, HF.out.2⟩
set_option maxRecDepth 100000 in
set_option maxHeartbeats 2000000 in
theorem read_long (s t : ByteArray) (fm ff : Addr) (n : Int) (r : List UInt8) (hlt : 0 < s.size) (hf : s[0]'hlt = 167) (ht : s.extract 1 s.size = t) (hz : t.size < 4294967281) (hg : getN t.data.toList = .got n r) (hu : U64 n) (h0 : 2000 < n) (w : World) (hE : GF fm ff w) : Calls Tryz.prog 69 #[.string s] w fun e w' => ∃ v, e = .returned (.tuple #[.string ⟨#[]⟩, .string s, v]) ∧ Fr.FaultAt w' v 30 ∧ Below w.heap.size w w' := by
 have he2 : s.toList.isEmpty = false := by
  rw [toList_isEmpty, beq_eq_false_iff_ne]
  omega
 have hne : ¬ s.toList = [] := by
  intro e
  rw [e] at he2
  cases he2
 have hG := Get_any t fm ff w hz hE
 rw [hg] at hG
 unfold getRes at hG
 dsimp only at hG
 have HG := Lib.hid hG
 obtain ⟨hu0, hu1⟩ := hu
 have hn0 : ¬ n = 0 := by omega
 clear hG hg hE hz
 go_enter Tryz.func69, Tryz.ntmps69
 go_wp2_with fail
 refine wp_scope_once 0 rfl ?_
 go_wp2_with fail
 refine HG.out.mono ?_
 rintro e w1 ⟨rfl, hb⟩
 obtain ⟨W, hW, hX, hB, -⟩ := boxes1 w1 #[.int .i64 30] 191
 have HF : Hid (Fr.FaultAt W (.iface 189 (.pointer (some ⟨w1.heap.size, 0, none⟩))) 30 ∧ Below w.heap.size w W) := ⟨⟨_, rfl, hX⟩, hb.trans (hB.mono hb.size)⟩
 clear hX hB hb HG
 go_wp2_with fail
 go_step3
 refine And.intro (rfl : (0 : Nat) = 0) ?_
 go_wp2_with fail
 rw [Exit.noGoto_ret]
 go_ret3
 exact ⟨_, rfl, HF.out.1, HF.out.2⟩
set_option maxRecDepth 100000 in
set_option maxHeartbeats 2000000 in
theorem read_short (s t : ByteArray) (fm ff : Addr) (n : Int) (r : List UInt8) (hlt : 0 < s.size) (hf : s[0]'hlt = 167) (ht : s.extract 1 s.size = t) (hz : t.size < 4294967281) (hg : getN t.data.toList = .got n r) (hu : U64 n) (h0 : 0 < n) (h1 : n ≤ 2000) (hr : r.length < 4294967281) (h2 : (r.length : Int) < n + 4) (w : World) (hE : GF fm ff w) : Calls Tryz.prog 69 #[.string s] w fun e w' => ∃ v, e = .returned (.tuple #[.string ⟨#[]⟩, .string s, v]) ∧ Fr.FaultAt w' v 20 ∧ Below w.heap.size w w' := by
 have he2 : s.toList.isEmpty = false := by
  rw [toList_isEmpty, beq_eq_false_iff_ne]
  omega
 have hne : ¬ s.toList = [] := by
  intro e
  rw [e] at he2
  cases he2
 have hG := Get_any t fm ff w hz hE
 rw [hg] at hG
 unfold getRes at hG
 dsimp only at hG
 have HG := Lib.hid hG
 obtain ⟨hu0, hu1⟩ := hu
 have hn0 : ¬ n = 0 := by omega
 have hn1 : ¬ 2000 < n := by omega
 have hn2 : (n == 0) = false := by rw [beq_eq_false_iff_ne]; omega
 have hn3 : (n == 0 || decide (2000 < n)) = false := by rw [hn2, decide_eq_false hn1]; rfl
 clear hG hg hE hz
 go_enter Tryz.func69, Tryz.ntmps69
 go_wp2_with fail
 refine wp_scope_once 0 rfl ?_
 go_wp2_with fail
 refine HG.out.mono ?_
 rintro e w1 ⟨rfl, hb⟩
 obtain ⟨W, hW, hX, hB, -⟩ := boxes1 w1 #[.int .i64 20] 191
 have HF : Hid (Fr.FaultAt W (.iface 189 (.pointer (some ⟨w1.heap.size, 0, none⟩))) 20 ∧ Below w.heap.size w W) := ⟨⟨_, rfl, hX⟩, hb.trans (hB.mono hb.size)⟩
 clear hX hB hb HG
 go_wp2_with fail
 go_step3
 refine And.intro (rfl : (0 : Nat) = 0) ?_
 go_wp2_with fail
 rw [Exit.noGoto_ret]
 go_ret3
 exact ⟨_, rfl, HF.out.1, HF.out.2⟩
end Go.Proofs.YtpklkhgnjbopnaaGreatDoor
namespace Go.Proofs.YtpklkhgnjbopnaaGreatDoor
open Go Go.RowKit Go.Shelf
set_option maxRecDepth 100000 in
set_option maxHeartbeats 2000000 in
theorem read_got (s t : ByteArray) (fm ff : Addr) (n : Int) (r : List UInt8) (hlt : 0 < s.size) (hf : s[0]'hlt = 167) (ht : s.extract 1 s.size = t) (hz : t.size < 4294967281) (hg : getN t.data.toList = .got n r) (h0 : 0 < n) (h1 : n ≤ 2000) (hr : r.length < 4294967281) (h2 : n + 4 ≤ (r.length : Int)) (h5 : checkN (r.take n.toNat) = fourN ((r.drop n.toNat).take 4)) (w : World) (hE : GF fm ff w) : Calls Tryz.prog 69 #[.string s] w fun e w' => e = .returned (.tuple #[.string ⟨(r.take n.toNat).toArray⟩, .string ⟨(r.drop (n.toNat + 4)).toArray⟩, .nilIface]) ∧ Below w.heap.size w w' := by
 have he2 : s.toList.isEmpty = false := by
  rw [toList_isEmpty, beq_eq_false_iff_ne]
  omega
 have hne : ¬ s.toList = [] := by
  intro e
  rw [e] at he2
  cases he2
 have hG := Get_any t fm ff w hz hE
 rw [hg] at hG
 unfold getRes at hG
 dsimp only at hG
 have HG := Lib.hid hG
 have hn0 : ¬ n = 0 := by omega
 have hn1 : ¬ 2000 < n := by omega
 have hn2 : (n == 0) = false := by rw [beq_eq_false_iff_ne]; omega
 have hn3 : (n == 0 || decide (2000 < n)) = false := by rw [hn2, decide_eq_false hn1]; rfl
 have hn4 : ¬ (r.length : Int) < n + 4 := by omega
 obtain ⟨B, hBo⟩ : ∃ B, (⟨r.toArray⟩ : ByteArray).extract 0 n.toNat = B := ⟨_, rfl⟩
 obtain ⟨L, hLo⟩ : ∃ L, (⟨r.toArray⟩ : ByteArray).extract n.toNat r.length = L := ⟨_, rfl⟩
 obtain ⟨F, hFo⟩ : ∃ F, L.extract 0 4 = F := ⟨_, rfl⟩
 have hBd : B.data.toList = r.take n.toNat := by rw [← hBo, ByteArray.data_extract, Array.toList_extract, List.extract_eq_take_drop]; simp
 have hLd : L.data.toList = r.drop n.toNat := by rw [← hLo, ByteArray.data_extract, Array.toList_extract, List.extract_eq_take_drop]; exact List.take_of_length_le (by rw [List.length_drop]; exact Nat.le_refl _)
 have hLz : L.size = r.length - n.toNat := by rw [← List.length_drop, ← hLd]; exact Array.length_toList.symm
 have hFd : F.data.toList = (r.drop n.toNat).take 4 := by rw [← hFo, ByteArray.data_extract, Array.toList_extract, List.extract_eq_take_drop, ← hLd]; simp
 have hBz : B.size ≤ 2000 := by rw [← hBo, ByteArray.size_extract]; omega
 have hFz : F.size ≤ 4 := by rw [← hFo, ByteArray.size_extract]; omega
 have HBe : Hid (B = ⟨(r.take n.toNat).toArray⟩) := by rw [Hid, ← hBd]
 have HEe : Hid (L.extract 4 L.size = ⟨(r.drop (n.toNat + 4)).toArray⟩) := by
  have e : (L.extract 4 L.size).data.toList = r.drop (n.toNat + 4) := by
   rw [ByteArray.data_extract, Array.toList_extract, List.extract_eq_take_drop, hLd, List.drop_drop]
   exact List.take_of_length_le (by rw [List.length_drop, hLz]; omega)
  rw [Hid, ← e]
 obtain ⟨c1, hc1⟩ : ∃ c, checkN (r.take n.toNat) = c := ⟨_, rfl⟩
 obtain ⟨c2, hc2⟩ : ∃ c, fourN ((r.drop n.toNat).take 4) = c := ⟨_, rfl⟩
 rw [hc1, hc2] at h5
 have hcc : ((c1 : Int) != (c2 : Int)) = false := by rw [h5]; simp
 have HC : Hid (∀ W, Calls Tryz.prog 95 #[.string B] W fun e w' => e = .returned (.int .u32 c1) ∧ Below W.heap.size W w') := fun W => by rw [← hc1, ← hBd]; exact Check_any B (by omega) W
 have HN : Hid (∀ W, Calls Tryz.prog 96 #[.string F] W fun e w' => e = .returned (.int .u32 c2) ∧ w' = W) := fun W => by rw [← hc2, ← hFd]; exact fnumber_any F (by omega) W
 have hL4 : (4 : Int) ≤ (L.size : Int) := by omega
 have HBo := Lib.hid hBo
 have HLo := Lib.hid hLo
 have HFo := Lib.hid hFo
 clear hBd hLd hFd hBz hFz hLz hBo hLo hFo hc1 hc2 h5
 clear hG hg hE hz
 go_enter Tryz.func69, Tryz.ntmps69
 go_wp2_with fail
 refine wp_scope_once 0 rfl ?_
 go_wp2_with fail
 refine HG.out.mono ?_
 rintro e w1 ⟨rfl, hb⟩
 have HB := Lib.hid hb
 clear hb HG
 go_wp2_with fail
 go_quiet (fail)
 rw [HBo.out, HLo.out]
 obtain ⟨D, hD⟩ : ∃ D, (w1.drewN nq).drew = D := ⟨_, rfl⟩
 have HBD : Hid (Below w.heap.size w D) := by rw [Hid, ← hD]; exact (bDr HB.out _).drew
 have HD := Lib.hid hD
 clear hD HB
 go_wp2_with fail
 refine wp_region_any (by kernel_rfl) ?_
 change wpAny _ _ _ _ _ _ _ (World.drew _)
 rw [HD.out]
 refine tk 0 (v := ?_) rfl ?_ ?_
 rotate_left
 ·intro w; go_simp; with_reducible rfl
 refine tk 2 (v := ?_) rfl ?_ ?_
 rotate_left
 ·intro w; go_simp; with_reducible rfl
 refine tk 3 (v := ?_) rfl ?_ ?_
 rotate_left
 ·intro w; go_simp; with_reducible rfl
 refine wpAny_ready (rs := [1]) (by kernel_rfl) (by simp) ?_
 refine AllReady.cons rfl (fun K hK => ?_) ?_
 ·go_simp
  refine (HC.out _).mono ?_
  rintro e x1 ⟨rfl, hb⟩
  have HB1 : Hid (Below w.heap.size w x1) := HBD.out.trans (hb.mono HBD.out.size)
  clear hb
  refine hK _ _ ?_
  clear hK K
  refine wpAny_ready (rs := [4]) (by kernel_rfl) (by simp) ?_
  refine AllReady.cons rfl (fun K hK => ?_) ?_
  ·go_simp
   rw [HFo.out]
   refine (HN.out _).mono ?_
   rintro e x2 ⟨rfl, rfl⟩
   refine hK _ _ ?_
   clear hK K
   refine wpAny_ready (rs := [5]) (by kernel_rfl) (by simp) ?_
   refine AllReady.cons rfl (fun K hK => ?_) ?_
   ·go_simp
    refine hK _ _ ?_
    clear hK K
    refine wpAny_done (by kernel_rfl) ?_ _
    go_wp2_with fail
    go_quiet (fail)
    go_wp2_with fail
    dsimp only [Exit.jump]
    go_ret3
    rw [HBe.out, HEe.out]
    exact ⟨rfl, bDr HB1.out _⟩
   exact AllReady.nil
  exact AllReady.nil
 exact AllReady.nil
set_option maxRecDepth 100000 in
set_option maxHeartbeats 2000000 in
theorem read_sum (s t : ByteArray) (fm ff : Addr) (n : Int) (r : List UInt8) (hlt : 0 < s.size) (hf : s[0]'hlt = 167) (ht : s.extract 1 s.size = t) (hz : t.size < 4294967281) (hg : getN t.data.toList = .got n r) (h0 : 0 < n) (h1 : n ≤ 2000) (hr : r.length < 4294967281) (h2 : n + 4 ≤ (r.length : Int)) (h5 : ¬ checkN (r.take n.toNat) = fourN ((r.drop n.toNat).take 4)) (w : World) (hE : GF fm ff w) : Calls Tryz.prog 69 #[.string s] w fun e w' => ∃ v, e = .returned (.tuple #[.string ⟨#[]⟩, .string s, v]) ∧ Fr.FaultAt w' v 31 ∧ Below w.heap.size w w' := by
 have he2 : s.toList.isEmpty = false := by
  rw [toList_isEmpty, beq_eq_false_iff_ne]
  omega
 have hne : ¬ s.toList = [] := by
  intro e
  rw [e] at he2
  cases he2
 have hG := Get_any t fm ff w hz hE
 rw [hg] at hG
 unfold getRes at hG
 dsimp only at hG
 have HG := Lib.hid hG
 have hn0 : ¬ n = 0 := by omega
 have hn1 : ¬ 2000 < n := by omega
 have hn2 : (n == 0) = false := by rw [beq_eq_false_iff_ne]; omega
 have hn3 : (n == 0 || decide (2000 < n)) = false := by rw [hn2, decide_eq_false hn1]; rfl
 have hn4 : ¬ (r.length : Int) < n + 4 := by omega
 obtain ⟨B, hBo⟩ : ∃ B, (⟨r.toArray⟩ : ByteArray).extract 0 n.toNat = B := ⟨_, rfl⟩
 obtain ⟨L, hLo⟩ : ∃ L, (⟨r.toArray⟩ : ByteArray).extract n.toNat r.length = L := ⟨_, rfl⟩
 obtain ⟨F, hFo⟩ : ∃ F, L.extract 0 4 = F := ⟨_, rfl⟩
 have hBd : B.data.toList = r.take n.toNat := by rw [← hBo, ByteArray.data_extract, Array.toList_extract, List.extract_eq_take_drop]; simp
 have hLd : L.data.toList = r.drop n.toNat := by rw [← hLo, ByteArray.data_extract, Array.toList_extract, List.extract_eq_take_drop]; exact List.take_of_length_le (by rw [List.length_drop]; exact Nat.le_refl _)
 have hLz : L.size = r.length - n.toNat := by rw [← List.length_drop, ← hLd]; exact Array.length_toList.symm
 have hFd : F.data.toList = (r.drop n.toNat).take 4 := by rw [← hFo, ByteArray.data_extract, Array.toList_extract, List.extract_eq_take_drop, ← hLd]; simp
 have hBz : B.size ≤ 2000 := by rw [← hBo, ByteArray.size_extract]; omega
 have hFz : F.size ≤ 4 := by rw [← hFo, ByteArray.size_extract]; omega
 have HBe : Hid (B = ⟨(r.take n.toNat).toArray⟩) := by rw [Hid, ← hBd]
 have HEe : Hid (L.extract 4 L.size = ⟨(r.drop (n.toNat + 4)).toArray⟩) := by
  have e : (L.extract 4 L.size).data.toList = r.drop (n.toNat + 4) := by
   rw [ByteArray.data_extract, Array.toList_extract, List.extract_eq_take_drop, hLd, List.drop_drop]
   exact List.take_of_length_le (by rw [List.length_drop, hLz]; omega)
  rw [Hid, ← e]
 obtain ⟨c1, hc1⟩ : ∃ c, checkN (r.take n.toNat) = c := ⟨_, rfl⟩
 obtain ⟨c2, hc2⟩ : ∃ c, fourN ((r.drop n.toNat).take 4) = c := ⟨_, rfl⟩
 rw [hc1, hc2] at h5
 have hcc : ((c1 : Int) != (c2 : Int)) = true := by rw [bne_iff_ne]; omega
 have HC : Hid (∀ W, Calls Tryz.prog 95 #[.string B] W fun e w' => e = .returned (.int .u32 c1) ∧ Below W.heap.size W w') := fun W => by rw [← hc1, ← hBd]; exact Check_any B (by omega) W
 have HN : Hid (∀ W, Calls Tryz.prog 96 #[.string F] W fun e w' => e = .returned (.int .u32 c2) ∧ w' = W) := fun W => by rw [← hc2, ← hFd]; exact fnumber_any F (by omega) W
 have hL4 : (4 : Int) ≤ (L.size : Int) := by omega
 have HBo := Lib.hid hBo
 have HLo := Lib.hid hLo
 have HFo := Lib.hid hFo
 clear hBd hLd hFd hBz hFz hLz hBo hLo hFo hc1 hc2 h5
 clear hG hg hE hz
 go_enter Tryz.func69, Tryz.ntmps69
 go_wp2_with fail
 refine wp_scope_once 0 rfl ?_
 go_wp2_with fail
 refine HG.out.mono ?_
 rintro e w1 ⟨rfl, hb⟩
 have HB := Lib.hid hb
 clear hb HG
 go_wp2_with fail
 go_quiet (fail)
 rw [HBo.out, HLo.out]
 obtain ⟨D, hD⟩ : ∃ D, (w1.drewN nq).drew = D := ⟨_, rfl⟩
 have HBD : Hid (Below w.heap.size w D) := by rw [Hid, ← hD]; exact (bDr HB.out _).drew
 have HD := Lib.hid hD
 clear hD HB
 go_wp2_with fail
 refine wp_region_any (by kernel_rfl) ?_
 change wpAny _ _ _ _ _ _ _ (World.drew _)
 rw [HD.out]
 refine tk 0 (v := ?_) rfl ?_ ?_
 rotate_left
 ·intro w; go_simp; with_reducible rfl
 refine tk 2 (v := ?_) rfl ?_ ?_
 rotate_left
 ·intro w; go_simp; with_reducible rfl
 refine tk 3 (v := ?_) rfl ?_ ?_
 rotate_left
 ·intro w; go_simp; with_reducible rfl
 refine wpAny_ready (rs := [1]) (by kernel_rfl) (by simp) ?_
 refine AllReady.cons rfl (fun K hK => ?_) ?_
 ·go_simp
  refine (HC.out _).mono ?_
  rintro e x1 ⟨rfl, hb⟩
  have HB1 : Hid (Below w.heap.size w x1) := HBD.out.trans (hb.mono HBD.out.size)
  clear hb
  refine hK _ _ ?_
  clear hK K
  refine wpAny_ready (rs := [4]) (by kernel_rfl) (by simp) ?_
  refine AllReady.cons rfl (fun K hK => ?_) ?_
  ·go_simp
   rw [HFo.out]
   refine (HN.out _).mono ?_
   rintro e x2 ⟨rfl, rfl⟩
   refine hK _ _ ?_
   clear hK K
   refine wpAny_ready (rs := [5]) (by kernel_rfl) (by simp) ?_
   refine AllReady.cons rfl (fun K hK => ?_) ?_
   ·go_simp
    refine hK _ _ ?_
    clear hK K
    refine wpAny_done (by kernel_rfl) ?_ _
    obtain ⟨W, hW, hX, hB, -⟩ := boxes1 x2 #[.int .i64 31] 191
    have HF : Hid (Fr.FaultAt W (.iface 189 (.pointer (some ⟨x2.heap.size, 0, none⟩))) 31 ∧ Below w.heap.size w W) := ⟨⟨_, rfl, hX⟩, HB1.out.trans (hB.mono HB1.out.size)⟩
    clear hX hB
    go_wp2_with fail
    go_step3
    refine And.intro (rfl : (0 : Nat) = 0) ?_
    go_wp2_with fail
    rw [Exit.noGoto_ret]
    go_ret3
    exact ⟨_, rfl, HF.out.1, HF.out.2⟩
   exact AllReady.nil
  exact AllReady.nil
 exact AllReady.nil
end Go.Proofs.YtpklkhgnjbopnaaGreatDoor
namespace Go.Proofs.YtpklkhgnjbopnaaGreatDoor
open Go Go.RowKit Go.Shelf
theorem rdF_len {s b r : List UInt8} (h : rdF s = .got b r) : r.length < s.length := by
 cases s with
 | nil => cases h
 | cons m t =>
  unfold rdF at h
  dsimp only at h
  split at h
  ·cases h
  ·split at h
   ·cases h
   ·cases h
   ·rename_i n r0 hg
    have h3 := (getN_got hg).2
    repeat (split at h; · cases h)
    cases h
    rw [List.length_drop, List.length_cons]
    omega
def ReadP (s : ByteArray) (w : World) (e : Ending) (w' : World) : Prop := Below w.heap.size w w' ∧ match rdF s.data.toList with
 | .got b r => e = .returned (.tuple #[.string ⟨b.toArray⟩, .string ⟨r.toArray⟩, .nilIface])
 | .err no => ∃ v, e = .returned (.tuple #[.string ⟨#[]⟩, .string s, v]) ∧ Fr.FaultAt w' v no
theorem ReadP.err {s : ByteArray} {w : World} {no : Int} (h : rdF s.data.toList = .err no) {e : Ending} {w' : World} (hp : ∃ v, e = .returned (.tuple #[.string ⟨#[]⟩, .string s, v]) ∧ Fr.FaultAt w' v no ∧ Below w.heap.size w w') : ReadP s w e w' := by
 obtain ⟨v, h1, h2, h3⟩ := hp
 refine ⟨h3, ?_⟩
 rw [h]
 exact ⟨v, h1, h2⟩
theorem frRead_any (s : ByteArray) (fm ff : Addr) (w : World) (hz : s.size < 4294967281) (hE : GF fm ff w) : Calls Tryz.prog 69 #[.string s] w (ReadP s w) := by
 by_cases h0 : s.size = 0
 ·have e : s.data.toList = [] := List.eq_nil_of_length_eq_zero (by rw [Array.length_toList]; exact h0)
  exact (read_empty s h0 w).mono fun _ _ h => ReadP.err (by rw [e]; rfl) h
 ·have hlt : 0 < s.size := by omega
  have e := head_tail s _ _ hlt rfl rfl
  have hz' : (s.extract 1 s.size).size < 4294967281 := by rw [ByteArray.size_extract]; omega
  by_cases hf : s[0]'hlt = 167
  ·cases hg : getN (s.extract 1 s.size).data.toList with
   | more => exact (read_more s _ fm ff hlt hf rfl hz' hg w hE).mono fun _ _ h => ReadP.err (by rw [e]; unfold rdF; dsimp only; rw [if_neg (fun h => h hf), hg]) h
   | bad => exact (read_bad s _ fm ff hlt hf rfl hz' hg w hE).mono fun _ _ h => ReadP.err (by rw [e]; unfold rdF; dsimp only; rw [if_neg (fun h => h hf), hg]) h
   | got n r =>
    have hu := (getN_got hg).1
    have hr : r.length < 4294967281 := by
     have h1 := (getN_got hg).2
     have h2 : (s.extract 1 s.size).data.toList.length = (s.extract 1 s.size).size := Array.length_toList
     omega
    have e2 : rdF s.data.toList = if n = 0 ∨ 2000 < n then .err 30 else if (r.length : Int) < n + 4 then .err 20 else
      if checkN (r.take n.toNat) ≠ fourN ((r.drop n.toNat).take 4) then .err 31 else .got (r.take n.toNat) (r.drop (n.toNat + 4)) := by
     rw [e]; unfold rdF; dsimp only; rw [if_neg (fun h => h hf), hg]
    have hu0 := hu.1
    by_cases h1 : n = 0
    ·exact (read_none s _ fm ff n r hlt hf rfl hz' hg hu h1 w hE).mono fun _ _ h => ReadP.err (by rw [e2, if_pos (Or.inl h1)]) h
    ·by_cases h2 : 2000 < n
     ·exact (read_long s _ fm ff n r hlt hf rfl hz' hg hu h2 w hE).mono fun _ _ h => ReadP.err (by rw [e2, if_pos (Or.inr h2)]) h
     ·have h3 : ¬ (n = 0 ∨ 2000 < n) := by omega
      by_cases h4 : (r.length : Int) < n + 4
      ·exact (read_short s _ fm ff n r hlt hf rfl hz' hg hu (by omega) (by omega) hr h4 w hE).mono fun _ _ h => ReadP.err (by rw [e2, if_neg h3, if_pos h4]) h
      ·by_cases h5 : checkN (r.take n.toNat) = fourN ((r.drop n.toNat).take 4)
       ·refine (read_got s _ fm ff n r hlt hf rfl hz' hg (by omega) (by omega) hr (by omega) h5 w hE).mono fun _ _ h => ⟨h.2, ?_⟩
        rw [e2, if_neg h3, if_neg h4, if_neg (fun h => h h5)]
        exact h.1
       ·exact (read_sum s _ fm ff n r hlt hf rfl hz' hg (by omega) (by omega) hr (by omega) h5 w hE).mono fun _ _ h => ReadP.err (by rw [e2, if_neg h3, if_neg h4, if_pos h5]) h
  ·exact (read_mark s _ hlt rfl hf w).mono fun _ _ h => ReadP.err (by rw [e]; unfold rdF; dsimp only; rw [if_pos hf]) h
inductive Frames : List UInt8 → List (List UInt8) → List UInt8 → Int → Prop where
 | stop {s : List UInt8} {no : Int} : rdF s = .err no → Frames s [] s no
 | step {s b r t : List UInt8} {l : List (List UInt8)} {no : Int} : rdF s = .got b r → Frames r l t no → Frames s (b :: l) t no
theorem Frames.one {s : List UInt8} {l1 l2 : List (List UInt8)} {t1 t2 : List UInt8} {n1 n2 : Int} (h : Frames s l1 t1 n1) (k : Frames s l2 t2 n2) : l1 = l2 ∧ t1 = t2 ∧ n1 = n2 := by
 induction h generalizing l2 t2 n2 with
 | stop e => cases k with
  | stop e' => rw [e] at e'; cases e'; exact ⟨rfl, rfl, rfl⟩
  | step e' _ => rw [e] at e'; cases e'
 | step e _ ih => cases k with
  | stop e' => rw [e] at e'; cases e'
  | step e' k' =>
   rw [e] at e'
   cases e'
   obtain ⟨rfl, rfl, rfl⟩ := ih k'
   exact ⟨rfl, rfl, rfl⟩
def Pfx (s : List UInt8) (bs : List (List UInt8)) (r : List UInt8) : Prop := ∀ l t no, Frames r l t no → Frames s (bs ++ l) t no
theorem Pfx.snoc {s r b r' : List UInt8} {bs : List (List UInt8)} (h : Pfx s bs r) (e : rdF r = .got b r') : Pfx s (bs ++ [b]) r' := fun l t no hl => by
 rw [List.append_assoc]
 exact h _ _ _ (.step e hl)
theorem Pfx.stop {s r : List UInt8} {bs : List (List UInt8)} {no : Int} (h : Pfx s bs r) (e : rdF r = .err no) : Frames s bs r no := by
 have := h _ _ _ (.stop e)
 rwa [List.append_nil] at this
end Go.Proofs.YtpklkhgnjbopnaaGreatDoor
namespace Go.Proofs.YtpklkhgnjbopnaaGreatDoor
open Go Go.RowKit Go.Shelf
def OwnX {β : Type} (B Bs : Nat) (I : β → World → Prop) : Prop :=
 ∀ s W W' row, I s W → W.grownBy W' row → (∀ r, row = some r → r = Bs ∨ (B ≤ r ∧ ∃ o : Obj, W.heap[r]? = some o ∧ o.isCells = false)) → I s W'
theorem OwnX.from {β : Type} {B Bs : Nat} {I : β → World → Prop} (h : OwnX B Bs I) : OwnFrom B I := fun s W W' row hs hg hr => h s W W' row hs hg (fun r e => .inr (hr r e))
theorem OwnX.and {β : Type} {B Bs : Nat} {I I' : β → World → Prop} (h : OwnX B Bs I) (h' : OwnX B Bs I') : OwnX B Bs (fun s W => I s W ∧ I' s W) := fun s W W' row hs hg hr => ⟨h s W W' row hs.1 hg hr, h' s W W' row hs.2 hg hr⟩
theorem ownX_below {β : Type} {n₀ B Bs : Nat} {w₀ : World} (hn : n₀ ≤ w₀.heap.size) (hB : n₀ ≤ B) (hs : n₀ ≤ Bs) : OwnX B Bs (fun (_ : β) W => Below n₀ w₀ W) :=
 fun _ _ _ _ h hg hr => h.grown hg (Nat.le_trans hn h.size) (fun k e => by rcases hr k e with rfl | ⟨h1, _⟩ <;> omega)
theorem ownX_box {β : Type} (C Bs B : Nat) (t : TypeId) (f : β → Value) (hne : B ≠ Bs) : OwnX C Bs (fun s W => Boxed W B t (f s)) := fun s X Y row hs hg hr => by
 refine hs.kept hg (fun e => ?_)
 rcases hr B e.symm with rfl | ⟨_, o, ho, hc⟩
 ·exact hne rfl
 ·rw [show X.heap[B]? = _ from hs] at ho; cases ho; cases hc
def AbidesX {β : Type} (B Bs : Nat) (J : β → World → Prop) : Prop :=
 ∀ s W W' row, J s W → W.grownBy W' row → (∀ r, row = some r → r = Bs) → B ≤ W.heap.size → J s W'
end Go.Proofs.YtpklkhgnjbopnaaGreatDoor
namespace Go.Proofs.YtpklkhgnjbopnaaGreatDoor
open Go Go.RowKit Go.Shelf
def SeqStopsE {α : Type} (P : Program) (g : Nat) (lb : Array Value) (encs : α → Array Value) (Kp : World → World → Prop) (Bs : Nat) (Nx : List α → α → World → Prop) (Fin Pre : List α → Prop) (w : World) : Prop :=
 ∀ (l : Nat) (J Jx : List α → World → Prop) (W : World), Below w.heap.size w W → AbidesX W.heap.size Bs J → AbidesX W.heap.size Bs Jx →
  (∀ pre x W1, J pre W1 → Nx pre x W1 → W.heap.size ≤ W1.heap.size → YieldAt Fence.wide 7 P l (encs x) W1 fun e W' =>
   (e = .returned (.bool true) ∧ J (pre ++ [x]) W' ∧ Kp W1 W' ∧ W1.heap.size ≤ W'.heap.size) ∨ (e = .returned (.bool false) ∧ Jx (pre ++ [x]) W' ∧ W1.heap.size ≤ W'.heap.size)) →
  J [] W →
  CallsIn Fence.wide 8 P g (#[.func (.yield l) #[] #[]] ++ lb) W fun e W' => (∃ v, e = .returned v) ∧ ((∃ xs, Fin xs ∧ J xs W') ∨ (∃ pre, Pre pre ∧ Jx pre W'))
theorem wp_rangeE {α : Type} {P : Program} {g : Operand} {ps : Array Tmp} {assign body : Code} {Q : Exit → Act → World → Prop} {a : Act} {w : World}
  {gf : Nat} {lb : Array Value} (hg : a.eval g = .func (.func gf) #[] lb) (eg : ∀ args w, (callFunc gf args).run P w = .ok (.enter gf args) w)
  {encs : α → Array Value} {Kp : World → World → Prop} {Bs : Nat} {Nx : List α → α → World → Prop} {Fin Pre : List α → Prop} (hseq : SeqStopsE P gf lb encs Kp Bs Nx Fin Pre w) (hNX : OwnFrom w.heap.size (fun (p : List α × α) W => Nx p.1 p.2 W)) (hBs : Bs < w.heap.size)
  (hKt : ∀ {A B C : World}, Kp A B → Kp B C → Kp A C) (hKb : ∀ (W : World) (l : Nat) (o o' : Obj), w.heap.size ≤ l → W.heap[l]? = some o → o.isCells = false → o.isWalk = false → Kp W (W.putObj l o')) (hps : ∀ x, (encs x).size = ps.size)
  (I : List α → World → Prop) (Ix : Code → List α → World → Prop) (hIX : OwnX w.heap.size Bs I) (hIxX : ∀ c, OwnX w.heap.size Bs (Ix c)) (h0 : I [] w) (box : α → Obj) (hKa : ∀ (W : World) (o : Obj), Kp W (W.alloc o)) (a₁ : α → Nat → Act)
  (hassign : ∀ (l : Nat) (x : α) (W : World) (K : Act → World → Prop), K (a₁ x W.heap.size) (W.alloc (box x)) →
   assign.wpIn (Fence.wide.inRound l) 7 P (Exit.then K (fun _ _ _ => False)) { tmps := (ps.zip (encs x)).foldl (fun t (p, v) => t.setIfInBounds p v) a.tmps, defers := [] } W)
  (hbody : ∀ (l : Nat) (pre : List α) (x : α) (n : Nat) (W : World), I pre W → Nx pre x W → w.heap.size + 2 ≤ n → W.heap[n]? = some (box x) → body.wpIn (Fence.wide.inRound l) 7 P (ownPostG w.heap.size Kp I Ix (pre ++ [x]) W) (a₁ x n) W)
  (hdone : ∀ (D : Nat) (xs : List α) (W : World), w.heap.size ≤ D → Fin xs → I xs W → W.heap[D]? = some (.deferred (some [])) → Q .normal { a with defers := { target := .collected D, args := #[] } :: a.defers } W)
  (hstop : ∀ (D : Nat) (c : Code) (pre : List α) (W : World), w.heap.size ≤ D → Pre pre → Ix c pre W → W.heap[D]? = some (.deferred (some [])) → c.wp P Q { a with defers := { target := .collected D, args := #[] } :: a.defers } W) :
  (Code.rangeFunc g ps assign body).wp P Q a w := by
 refine (wpIn_wide (n := 9)).1 ?_
 have hI := hIX.from
 have hIx := fun c => (hIxX c).from
 refine wpIn_rangeFunc ?_
 intro fn hfn
 show ∃ _ _ _ _ _ _ _ _, (Instr.enterLoop fn a.tmps ps assign body none).run P w = _ ∧ _
 obtain ⟨rec, hrec⟩ : ∃ rec : LoopState → Option Code → Loop, rec = fun st pe => { state := st, pending := pe, fn, tmps := a.tmps, params := ps, assign, body, defers := w.heap.size } := ⟨_, rfl⟩
 obtain ⟨W1, hW1⟩ : ∃ W1, (w.alloc (.deferred (some []))).alloc (.loop (rec .ready none)) = W1 := ⟨_, rfl⟩
 have hL1 : W1.heap[w.heap.size + 1]? = some (.loop (rec .ready none)) := by
  rw [← hW1]; have := World.alloc_heap_new (w.alloc (.deferred (some []))) (.loop (rec .ready none)); rwa [World.size_alloc] at this
 have hK1 : W1.heap[w.heap.size]? = some (.deferred (some [])) := by
  rw [← hW1]; exact (Below.heap_alloc _ _ _ (by simp)).trans (World.alloc_heap_new w _)
 have hI1 : I [] W1 := by rw [← hW1]; exact hI.alloc _ (hI.alloc _ h0)
 have hb1 : Below w.heap.size w W1 := by
  rw [← hW1]; exact ((Below.refl _ w).alloc (Nat.le_refl _) _).alloc (by simp) _
 have hs1 : W1.heap.size = w.heap.size + 2 := by rw [← hW1]; simp
 refine ⟨w.heap.size + 1, [{ target := .collected w.heap.size, args := #[] }], W1, { target := .fn (.func gf) lb, args := #[.func (.yield (w.heap.size + 1)) #[] #[]] }, W1, gf,
  #[.func (.yield (w.heap.size + 1)) #[] #[]] ++ lb, W1, ?_, ?_, ?_, ?_, fun _ => by omega, ?_⟩
 ·rw [← hW1, hrec]; exact run_enterLoop_outer _ _ _ _ _
 ·simp only [resolve, hg]
  simp [go_sem]
 ·intro f' hf'; trivial
 ·simp [invoke, go_sem, eg]
 ·have keep : ∀ {A B : World} {row : Option Nat} {k : Nat} {o : Obj}, A.grownBy B row → (∀ r, row = some r → r = Bs) → w.heap.size ≤ k → A.heap[k]? = some o → B.heap[k]? = some o := fun hg' hr hk ho =>
   (hg'.block _ (Array.getElem?_eq_some_iff.1 ho).1 (fun e => by have := hr _ e.symm; omega)).trans ho
  refine (hseq (w.heap.size + 1)
   (fun pre W => I pre W ∧ W.heap[w.heap.size + 1]? = some (.loop (rec .ready none)) ∧ W.heap[w.heap.size]? = some (.deferred (some [])))
   (fun pre W => ∃ c, Ix c pre W ∧ W.heap[w.heap.size + 1]? = some (.loop (rec .done (some c))) ∧ W.heap[w.heap.size]? = some (.deferred (some [])))
   W1 hb1
   (fun s A B row hs hg' hr _ => ⟨hIX s A B row hs.1 hg' (fun r e => .inl (hr r e)), keep hg' hr (by omega) hs.2.1, keep hg' hr (Nat.le_refl _) hs.2.2⟩)
   (fun s A B row hs hg' hr _ => by
    obtain ⟨c, hc, hl, hk⟩ := hs
    exact ⟨c, hIxX c s A B row hc hg' (fun r e => .inl (hr r e)), keep hg' hr (by omega) hl, keep hg' hr (Nat.le_refl _) hk⟩)
   ?_ ⟨hI1, hL1, hK1⟩).mono ?_
  ·rintro pre x W ⟨hi, hl, hk⟩ hnx hsz
   have hlt : w.heap.size + 1 < W.heap.size := (Array.getElem?_eq_some_iff.1 hl).1
   have hy := run_yield (P := P) (args := encs x) hl (by rw [hrec]; exact hps x)
   rw [hrec] at hy
   refine ⟨fn, _, assign, body, hy, roundIn_of_wpIn hfn (hassign _ x W _ ?_)⟩
   clear hy
   obtain ⟨V, hV⟩ : ∃ V, W.alloc (box x) = V := ⟨_, rfl⟩
   rw [hV]
   have hi : I pre V := by rw [← hV]; exact hI.alloc _ hi
   have hnx : Nx pre x V := by rw [← hV]; exact hNX.alloc (s := (pre, x)) _ hnx
   have hl : V.heap[w.heap.size + 1]? = some (.loop (rec .ready none)) := by rw [← hV]; exact (Below.heap_alloc _ _ _ hlt).trans hl
   have hk : V.heap[w.heap.size]? = some (.deferred (some [])) := by rw [← hV]; exact (Below.heap_alloc _ _ _ (by omega)).trans hk
   have hbx : V.heap[W.heap.size]? = some (box x) := by rw [← hV]; exact World.alloc_heap_new _ _
   have hKV : Kp W V := by rw [← hV]; exact hKa _ _
   have hsV : W.heap.size ≤ V.heap.size := by rw [← hV, World.size_alloc]; omega
   have hltV : w.heap.size + 1 < V.heap.size := by omega
   refine ⟨_, run_beginRound hl (by rw [hrec]), ?_⟩
   have hl2 : (V.putObj (w.heap.size + 1) (.loop { rec .ready none with state := .busy })).heap[w.heap.size + 1]? = some (.loop { rec .ready none with state := .busy }) := World.putObj_heap_same hltV
   have hk2 : (V.putObj (w.heap.size + 1) (.loop { rec .ready none with state := .busy })).heap[w.heap.size]? = some (.deferred (some [])) := (World.putObj_heap_other (by omega)).trans hk
   have hw2 : Kp V (V.putObj (w.heap.size + 1) (.loop { rec .ready none with state := .busy })) := hKb _ _ _ _ (by omega) hl rfl rfl
   have szp : ∀ (W3 : World) (o : Obj), (W3.putObj (w.heap.size + 1) o).heap.size = W3.heap.size := fun W3 o => by simp [World.putObj]
   refine wpIn_mono (hbody _ pre x W.heap.size _ (hI.putObj _ hi (by omega) hl rfl) (hNX.putObj (s := (pre, x)) _ hnx (by omega) hl rfl) (by omega) ((World.putObj_heap_other (by omega)).trans hbx)) ?_
   have fin : ∀ (jump : Option Code) (W3 : World), KeepsFrom w.heap.size (V.putObj (w.heap.size + 1) (.loop { rec .ready none with state := .busy })) W3 →
     (Instr.endRound (w.heap.size + 1) jump).run P W3 = .ok (.bool jump.isNone) (W3.putObj (w.heap.size + 1) (.loop (rec (if jump.isNone then .ready else .done) jump))) ∧
     W3.heap[w.heap.size + 1]? = some (.loop { rec .ready none with state := .busy }) ∧
     (W3.putObj (w.heap.size + 1) (.loop (rec (if jump.isNone then .ready else .done) jump))).heap[w.heap.size + 1]? = some (.loop (rec (if jump.isNone then .ready else .done) jump)) ∧
     (W3.putObj (w.heap.size + 1) (.loop (rec (if jump.isNone then .ready else .done) jump))).heap[w.heap.size]? = some (.deferred (some [])) := fun jump W3 hk3 => by
    have hl3 := hk3.same _ _ (by omega) hl2 rfl
    have := run_endRound (P := P) jump hl3
    rw [hrec] at this ⊢
    exact ⟨this, by rw [hrec] at hl3; exact hl3, World.putObj_heap_same (Array.getElem?_eq_some_iff.1 hl3).1, (World.putObj_heap_other (by omega)).trans (hk3.same _ _ (Nat.le_refl _) hk2 rfl)⟩
   rintro e a3 W3 hp
   cases e with
   | normal =>
    obtain ⟨hk3, hkp3, hi3⟩ := hp
    obtain ⟨hr, hl3, hl4, hk4⟩ := fin none W3 hk3
    exact ⟨_, _, hr, .inl ⟨rfl, ⟨hI.putObj _ hi3 (by omega) hl3 rfl, hl4, hk4⟩, hKt (hKt (hKt hKV hw2) hkp3) (hKb _ _ _ _ (by omega) hl3 rfl rfl), by rw [szp]; have h7 := hk3.size; rw [szp] at h7; omega⟩⟩
   | ret =>
    obtain ⟨hk3, hi3⟩ := hp
    obtain ⟨hr, hl3, hl4, hk4⟩ := fin (some .ret) W3 hk3
    exact ⟨_, _, hr, .inr ⟨rfl, ⟨.ret, (hIx _).putObj _ hi3 (by omega) hl3 rfl, hl4, hk4⟩, by rw [szp]; have h7 := hk3.size; rw [szp] at h7; omega⟩⟩
   | exit id =>
    obtain ⟨hk3, hi3⟩ := hp
    obtain ⟨hr, hl3, hl4, hk4⟩ := fin (some (.exit id)) W3 hk3
    exact ⟨_, _, hr, .inr ⟨rfl, ⟨.exit id, (hIx _).putObj _ hi3 (by omega) hl3 rfl, hl4, hk4⟩, by rw [szp]; have h7 := hk3.size; rw [szp] at h7; omega⟩⟩
   | goto t =>
    obtain ⟨hk3, hi3⟩ := hp
    obtain ⟨hr, hl3, hl4, hk4⟩ := fin (some (.goto t)) W3 hk3
    exact ⟨_, _, hr, .inr ⟨rfl, ⟨.goto t, (hIx _).putObj _ hi3 (by omega) hl3 rfl, hl4, hk4⟩, by rw [szp]; have h7 := hk3.size; rw [szp] at h7; omega⟩⟩
   | panic ch => exact hp.elim
   | outgrown => exact hp.elim
  ·rintro e W2 ⟨⟨v, rfl⟩, (⟨xs, hxs, hi, hl, hk⟩ | ⟨pre, hSp, c, hi, hl, hk⟩)⟩
   ·exact ⟨none, _, by have := run_endLoop (P := P) hl (by rw [hrec]; simp); rw [hrec] at this; exact this, hdone _ xs _ (Nat.le_refl _) hxs (hI.putObj _ hi (by omega) hl rfl) ((World.putObj_heap_other (by omega)).trans hk)⟩
   ·exact ⟨some c, _, by have := run_endLoop (P := P) hl (by rw [hrec]; simp); rw [hrec] at this; exact this, wpIn_wide.2 (hstop _ c pre _ (Nat.le_refl _) hSp ((hIx c).putObj _ hi (by omega) hl rfl) ((World.putObj_heap_other (by omega)).trans hk))⟩
end Go.Proofs.YtpklkhgnjbopnaaGreatDoor
namespace Go.Proofs.YtpklkhgnjbopnaaGreatDoor
open Go Go.RowKit Go.Shelf
theorem grant_New_any (w : World) : Calls Tryz.prog 81 #[] w fun e w' => e = .returned (.agg #[.int .u64 1, .slice none 0 0]) ∧ Below w.heap.size w w' := by
 go_enter Tryz.func81, Tryz.ntmps81
 go_wp2_with fail
 exact bodyPost_ret (v := .agg #[.int .u64 1, .slice none 0 0]) (by simp [results, Tryz.results81, go_sem]) rfl ⟨rfl, (Below.refl _ _).alloc (Nat.le_refl _) _⟩
end Go.Proofs.YtpklkhgnjbopnaaGreatDoor

/- Package ladder: a body's add and lower through the interface. errors.As at a target of type **ladder.fault: lines of the worked example ToyasAs turned to this program; ladder.errno, isFull. Package ladder: lowered. Package ladder: a sketch as a value and its body at work. Package ladder: stores into a box, kept bodies and sketches; lowered at the bottom; told. Package ladder: what sketches cost, in plain data. -/
import Derived.Test.YtmkefodaibmkhaaGreatDoorZLA
import Derived.LaidEql
import Derived.Stop.Asserts
import Derived.RowKitTokens
import Derived.Deep.QuietTactic
import Derived.BigQuiet
namespace Go.Proofs.YtmkefodaibmkhaaGreatDoor
open Go Go.RowKit Go.Shelf

theorem hist_run (f : Nat) : ∀ (l : List (Int × Int)) (last : Int), BinUp l → (∀ b ∈ l, last < b.1) → (∀ b ∈ l, b.2 ≠ 0) → (∀ b ∈ l, boundsB f b.1 = true) → (foldO (histStep f) last l).isSome = true
  | [], last, _, _, _, _ => by simp [foldO_nil]
  | b :: t, last, hu, h1, h2, h3 => by
    obtain ⟨u1, u2⟩ := binUp_tail hu
    have hs : histStep f last b = some b.1 := by
      unfold histStep
      have a1 := h1 b List.mem_cons_self
      have a2 := h2 b List.mem_cons_self
      have a3 := h3 b List.mem_cons_self
      rw [if_neg]
      simp [a2, a3]
      omega
    rw [foldO_cons, hs]
    exact hist_run f t b.1 u1 u2 (fun c hc => h2 c (List.mem_cons_of_mem _ hc)) (fun c hc => h3 c (List.mem_cons_of_mem _ hc))
theorem hiRight_of (f : Nat) (l : List (Int × Int)) (hf : f ≤ 3) (hu : BinUp l) (h2 : ∀ b ∈ l, b.2 ≠ 0) (h3 : ∀ b ∈ l, boundsB f b.1 = true) : hiRight f l = true := by
  unfold hiRight
  rw [isFine_nat f hf, hist_run f l (-1) hu (fun b hb => by have := bounds_le f hf b.1 (h3 b hb); omega) h2 h3]
  rfl
theorem up_fin : ∀ (l : List (Int × Int)) (lo : Int), BinUp l → (∀ b ∈ l, lo < b.1) → (∀ b ∈ l, b.1 ≤ 512) → lo ≤ 512 → (l.length : Int) ≤ 512 - lo
  | [], lo, _, _, _, h => by simp; omega
  | b :: t, lo, hu, h1, h2, h => by
    obtain ⟨u1, u2⟩ := binUp_tail hu
    have a1 := h1 b List.mem_cons_self
    have a2 := h2 b List.mem_cons_self
    have := up_fin t b.1 u1 u2 (fun c hc => h2 c (List.mem_cons_of_mem _ hc)) a2
    simp only [List.length_cons]
    omega
theorem bins_len (f : Nat) (l : List (Int × Int)) (hf : f ≤ 3) (hu : BinUp l) (h3 : ∀ b ∈ l, boundsB f b.1 = true) : l.length ≤ 513 := by
  have := up_fin l (-1) hu (fun b hb => by have := bounds_le f hf b.1 (h3 b hb); omega) (fun b hb => (bounds_le f hf b.1 (h3 b hb)).2) (by omega)
  omega
theorem bins_i64 (f : Nat) (l : List (Int × Int)) (hf : f ≤ 3) (h3 : ∀ b ∈ l, boundsB f b.1 = true) : ∀ b ∈ l, I64 b.1 := fun b hb => by have := bounds_le f hf b.1 (h3 b hb); unfold I64; omega
theorem cols_of {c level : Nat} (h : c * 2 ^ level = 32) (hl : level ≤ 3) : c = 4 ∨ c = 8 ∨ c = 16 ∨ c = 32 := by
  rcases (by omega : level = 0 ∨ level = 1 ∨ level = 2 ∨ level = 3) with rfl | rfl | rfl | rfl <;> simp at h <;> omega
theorem cols_low {c level : Nat} (h : c * 2 ^ level = 32) (hl : level < 3) : c = 8 ∨ c = 16 ∨ c = 32 := by
  rcases (by omega : level = 0 ∨ level = 1 ∨ level = 2) with rfl | rfl | rfl <;> simp at h <;> omega

theorem m_add_num (x : Value) (w : World) : (method 441 184 (.agg #[x]) "aviary/ladder.add").run Tryz.prog w = .ok (166, .agg #[x]) w := by kernel_rfl
theorem m_add_reg (x y : Value) (w : World) : (method 441 187 (.agg #[x, y]) "aviary/ladder.add").run Tryz.prog w = .ok (195, .agg #[x, y]) w := by kernel_rfl
theorem m_add_cnt (x y z : Value) (w : World) : (method 441 188 (.agg #[x, y, z]) "aviary/ladder.add").run Tryz.prog w = .ok (205, .agg #[x, y, z]) w := by kernel_rfl
theorem m_add_bkt (x y : Value) (w : World) : (method 441 190 (.agg #[x, y]) "aviary/ladder.add").run Tryz.prog w = .ok (224, .agg #[x, y]) w := by kernel_rfl
theorem m_low_num (x : Value) (w : World) : (method 441 184 (.agg #[x]) "aviary/ladder.lower").run Tryz.prog w = .ok (169, .agg #[x]) w := by kernel_rfl
theorem m_low_reg (x y : Value) (w : World) : (method 441 187 (.agg #[x, y]) "aviary/ladder.lower").run Tryz.prog w = .ok (198, .agg #[x, y]) w := by kernel_rfl
theorem m_low_cnt (x y z : Value) (w : World) : (method 441 188 (.agg #[x, y, z]) "aviary/ladder.lower").run Tryz.prog w = .ok (208, .agg #[x, y, z]) w := by kernel_rfl
theorem m_low_bkt (x y : Value) (w : World) : (method 441 190 (.agg #[x, y]) "aviary/ladder.lower").run Tryz.prog w = .ok (227, .agg #[x, y]) w := by kernel_rfl
/-- add, whatever the body is. -/
theorem add_at {w : World} {v : Value} {B : Bd} {kind level : Nat} (hb : BdAt w v B) (hok : B.Ok kind level) : ∃ T rv f, v = .iface T rv ∧ (∀ W, (method 441 T rv "aviary/ladder.add").run Tryz.prog W = .ok (f, rv) W) ∧ (∀ args W, (callFunc f args).run Tryz.prog W = .ok (.enter f args) W) ∧
    ∀ W (h : Nat) (n : Int), BdAt W v B → h < 2 ^ 64 → U64 n → Calls Tryz.prog f #[rv, .agg #[.int .u64 h, .int .u64 n]] W (BodyPost (B.add h n) W) := by
  cases B with
  | num l =>
    obtain ⟨a, len, cap, rfl, -⟩ := hb
    obtain ⟨-, -, o3, o4, o5⟩ := hok
    refine ⟨_, _, _, rfl, fun W => m_add_num _ W, enters_of Tryz.func166 (by kernel_rfl) rfl, fun W h n hW hh hn => ?_⟩
    obtain ⟨a', len', cap', e, hS⟩ := hW
    cases e
    exact add_num l a len cap h n W hS (up_right l o3 o4)
  | reg b r =>
    obtain rfl : v = _ := hb
    obtain ⟨-, o2, o3, o4, o5, o6⟩ := hok
    refine ⟨_, _, _, rfl, fun W => m_add_reg _ _ W, enters_of Tryz.func195 (by kernel_rfl) rfl, fun W h n hW hh hn => ?_⟩
    exact add_reg b r h n W (by omega) (by omega) o5 o6 hh
  | cnt c l =>
    obtain ⟨a, len, cap, rfl, -⟩ := hb
    obtain ⟨-, o2, o3, o4, o5⟩ := hok
    refine ⟨_, _, _, rfl, fun W => m_add_cnt _ _ _ W, enters_of Tryz.func205 (by kernel_rfl) rfl, fun W h n hW hh hn => ?_⟩
    obtain ⟨a', len', cap', e, hS⟩ := hW
    cases e
    exact add_cnt c l a len cap h n W (cols_of o3 o2) hS o4 o5 hh hn
  | bkt f l =>
    obtain ⟨a, len, cap, rfl, -⟩ := hb
    obtain ⟨-, o2, o3, o4, o5, o6, o7⟩ := hok
    refine ⟨_, _, _, rfl, fun W => m_add_bkt _ _ W, enters_of Tryz.func224 (by kernel_rfl) rfl, fun W h n hW hh hn => ?_⟩
    obtain ⟨a', len', cap', e, hS⟩ := hW
    cases e
    have hf : f ≤ 3 := by omega
    exact add_bkt f l a len cap h n W hf hS (hiRight_of f l hf o4 o5 o7) o4 o6 (by have := bins_len f l hf o4 o7; omega) (bins_i64 f l hf o7) hh hn
/-- lower, whatever the body is. -/
theorem lower_at {w : World} {v : Value} {B : Bd} {kind level : Nat} (hb : BdAt w v B) (hok : B.Ok kind level) (hlv : level < botN kind) : ∃ T rv f, v = .iface T rv ∧ (∀ W, (method 441 T rv "aviary/ladder.lower").run Tryz.prog W = .ok (f, rv) W) ∧ (∀ args W, (callFunc f args).run Tryz.prog W = .ok (.enter f args) W) ∧
    ∀ W, BdAt W v B → Calls Tryz.prog f #[rv] W (BodyPost (some B.low) W) := by
  cases B with
  | num l =>
    obtain ⟨a, len, cap, rfl, -⟩ := hb
    obtain ⟨-, -, o3, o4, o5⟩ := hok
    refine ⟨_, _, _, rfl, fun W => m_low_num _ W, enters_of Tryz.func169 (by kernel_rfl) rfl, fun W hW => ?_⟩
    obtain ⟨a', len', cap', e, hS⟩ := hW
    cases e
    exact low_num l a len cap W hS o5 (by omega)
  | reg b r =>
    obtain rfl : v = _ := hb
    obtain ⟨o1, o2, o3, o4, o5, o6⟩ := hok
    subst o1
    have : botN 1 = 4 := rfl
    refine ⟨_, _, _, rfl, fun W => m_low_reg _ _ W, enters_of Tryz.func198 (by kernel_rfl) rfl, fun W hW => ?_⟩
    exact low_reg b r W (by omega) (by omega) o5 o6
  | cnt c l =>
    obtain ⟨a, len, cap, rfl, -⟩ := hb
    obtain ⟨o1, o2, o3, o4, o5⟩ := hok
    subst o1
    have : botN 2 = 3 := rfl
    refine ⟨_, _, _, rfl, fun W => m_low_cnt _ _ _ W, enters_of Tryz.func208 (by kernel_rfl) rfl, fun W hW => ?_⟩
    obtain ⟨a', len', cap', e, hS⟩ := hW
    cases e
    exact low_cnt c l a len cap W (cols_low o3 (by omega)) hS o4 o5
  | bkt f l =>
    obtain ⟨a, len, cap, rfl, -⟩ := hb
    obtain ⟨o1, o2, o3, o4, o5, o6, o7⟩ := hok
    subst o1
    have : botN 3 = 3 := rfl
    refine ⟨_, _, _, rfl, fun W => m_low_bkt _ _ W, enters_of Tryz.func227 (by kernel_rfl) rfl, fun W hW => ?_⟩
    obtain ⟨a', len', cap', e, hS⟩ := hW
    cases e
    have hf : f ≤ 3 := by omega
    exact low_bkt f l a len cap W (by omega) hf hS (hiRight_of f l hf o4 o5 o7) o7 o6 (by have := bins_len f l hf o4 o7; omega)
end Go.Proofs.YtmkefodaibmkhaaGreatDoor
namespace Go.Proofs.YtmkefodaibmkhaaGreatDoor
open Go Go.RowKit Go.Extern.Stop Go.Stop Go.Extern

/-- errors.As(nil, target). -/
theorem as_nil (t : Value) (w : World) :
    Calls Tryz.prog 117 #[.nilIface, t] w fun e w' => e = .returned (.bool false) ∧ w' = w := by
  go_enter Tryz.func117, Tryz.ntmps117
  go_wp2
  go_ret
  exact ⟨rfl, rfl⟩

/-! ### CLOSED FACTS ON THE MODEL's ENTRIES FOR internal/reflectlite, at this program's types: 25: *p.E · 27: **p.E · 23: error · 45: reflectlite's rtype · 1: how many package-level variables the dump has -/
theorem as_valueOf27 (t : Addr) (w : World) : (ReflectliteValue.unpack (.iface 193 (.pointer (some t)))).run Tryz.prog w
    = .ok (.agg #[.pointer (some ⟨5, 193, none⟩), .pointer (some ⟨w.heap.size, 0, none⟩), .int .u64 150]) (w.alloc (.cells #[.pointer (some t)] 193)) := by kernel_rfl
theorem as_type27 (a : Addr) (w : World) : (ReflectliteValue.methodAny (ReflectliteValue.valueError "reflectlite.Value.Type" 0) (fun t _ _ _ => ReflectliteType.toType t) #[.agg #[.pointer (some ⟨5, 193, none⟩), .pointer (some a), .int .u64 150]]).run Tryz.prog w
    = .ok (.iface 207 (.agg #[.pointer (some ⟨5, 193, none⟩)])) w := by kernel_rfl
theorem as_methodKind (h : Value) (w : World) : (Go.method 441 207 (.agg #[h]) "Kind").run Tryz.prog w = .ok (160, h) w := by kernel_rfl
theorem as_kind27 (w : World) : ((ReflectliteType.abiMethod fun t => (fun a : Nat => Value.int IntKind.u8 (a : Int)) <$> Rtype.kind t) #[.pointer (some ⟨5, 193, none⟩)]).run Tryz.prog w = .ok (.int .u8 22) w := by kernel_rfl
theorem as_kind25 (w : World) : ((ReflectliteType.abiMethod fun t => (fun a : Nat => Value.int IntKind.u8 (a : Int)) <$> Rtype.kind t) #[.pointer (some ⟨5, 129, none⟩)]).run Tryz.prog w = .ok (.int .u8 22) w := by kernel_rfl

/-! ### THE ENTRIES THAT READ OR WRITE MEMORY: laws with a premise on the cell (after Derived/Lib/ReflectliteSlice.lean's manner: each unfolding a lemma of its own, by rfl) -/
theorem rlm (z : Sem Value) (f : TypeId → Addr → Nat → Nat → Sem Value) (v : Value) :
    ReflectliteValue.method z f #[v] = (do match ← ReflectliteValue.parts v with | none => z | some (t, a, fl) => f t a fl (fl % 32)) := rfl
theorem as_parts27 (a : Addr) (w : World) : (ReflectliteValue.parts (.agg #[.pointer (some ⟨5, 193, none⟩), .pointer (some a), .int .u64 150])).run Tryz.prog w = .ok (some (193, a, 150)) w := by kernel_rfl
/-- (Value).IsNil at the Value of a **p.E that is not nil. -/
theorem as_isNil27 (a p : Addr) (W : World) (ha : W.cell? a = some (.pointer (some p))) :
    (ReflectliteValue.method (ReflectliteValue.valueError "reflectlite.Value.IsNil" 0) ReflectliteValue.isNil #[.agg #[.pointer (some ⟨5, 193, none⟩), .pointer (some a), .int .u64 150]]).run Tryz.prog W = .ok (.bool false) W := by
  rw [rlm]
  simp only [Sem.run_bind, as_parts27, Result.andThen]
  simp [ReflectliteValue.isNil, loadVar, isAgg, underlying, Tryz.underlying193, ha, Result.andThen]

theorem as_methodElem (h : Value) (w : World) : (Go.method 441 207 (.agg #[h]) "Elem").run Tryz.prog w = .ok (271, .agg #[h]) w := by kernel_rfl
theorem as_methodImplements (h : Value) (w : World) : (Go.method 441 207 (.agg #[h]) "Implements").run Tryz.prog w = .ok (272, .agg #[h]) w := by kernel_rfl
theorem as_methodAssignableTo (h : Value) (w : World) : (Go.method 441 207 (.agg #[h]) "AssignableTo").run Tryz.prog w = .ok (269, .agg #[h]) w := by kernel_rfl
theorem as_elem27 (w : World) : (ReflectliteType.method ReflectliteType.elem #[.agg #[.pointer (some ⟨5, 193, none⟩)]]).run Tryz.prog w = .ok (.iface 207 (.agg #[.pointer (some ⟨5, 129, none⟩)])) w := by kernel_rfl
theorem as_implements25 (w : World) : (ReflectliteType.relation "Implements" ReflectliteType.implements_ #[.agg #[.pointer (some ⟨5, 129, none⟩)], .iface 207 (.agg #[.pointer (some ⟨5, 70, none⟩)])]).run Tryz.prog w = .ok (.bool true) w := by kernel_rfl
theorem as_typeOf25 (v : Value) (w : World) : (ReflectliteType.typeOf #[.iface 129 v]).run Tryz.prog w = .ok (.iface 207 (.agg #[.pointer (some ⟨5, 129, none⟩)])) w := by kernel_rfl
theorem as_assignable25 (w : World) : (ReflectliteType.relation "AssignableTo" ReflectliteType.assignableTo #[.agg #[.pointer (some ⟨5, 129, none⟩)], .iface 207 (.agg #[.pointer (some ⟨5, 129, none⟩)])]).run Tryz.prog w = .ok (.bool true) w := by kernel_rfl
theorem as_valueOf25 (e : Addr) (w : World) : (ReflectliteValue.unpack (.iface 129 (.pointer (some e)))).run Tryz.prog w
    = .ok (.agg #[.pointer (some ⟨5, 129, none⟩), .pointer (some ⟨w.heap.size, 0, none⟩), .int .u64 150]) (w.alloc (.cells #[.pointer (some e)] 129)) := by kernel_rfl

theorem as_elemOf27 (w : World) : (Rtype.elem? 193).run Tryz.prog w = .ok (some 129) w := by kernel_rfl
theorem as_mk25 (p : Addr) (w : World) : (ReflectliteValue.mk 129 p ReflectliteValue.flagAddr).run Tryz.prog w = .ok (.agg #[.pointer (some ⟨5, 129, none⟩), .pointer (some p), .int .u64 406]) w := by kernel_rfl
/-- (Value).Elem at the Value of a **p.E that is not nil: the Value of the *p.E variable that it points to, addressable. -/
theorem as_elemV27 (a p : Addr) (W : World) (ha : W.cell? a = some (.pointer (some p))) :
    (ReflectliteValue.method (ReflectliteValue.valueError "reflectlite.Value.Elem" 0) ReflectliteValue.elem #[.agg #[.pointer (some ⟨5, 193, none⟩), .pointer (some a), .int .u64 150]]).run Tryz.prog W
      = .ok (.agg #[.pointer (some ⟨5, 129, none⟩), .pointer (some p), .int .u64 406]) W := by
  rw [rlm]
  simp only [Sem.run_bind, as_parts27, Result.andThen]
  simp [ReflectliteValue.elem, loadVar, isAgg, underlying, Tryz.underlying193, ha, Result.andThen, as_elemOf27, as_mk25]
theorem rls (v x : Value) : ReflectliteValue.set #[v, x] = (do
    let (some (dst, a, fl), some (src, b, _)) := (← ReflectliteValue.parts v, ← ReflectliteValue.parts x)
      | unsupported (.noEntry "extern/(internal/reflectlite.Value).Set.zeroValue")
    if fl / ReflectliteValue.flagAddr % 2 == 0 then unsupported (.noEntry "extern/(internal/reflectlite.Value).Set.unaddressable")
    let val ← loadVar src b
    if ← Rtype.directlyAssignable dst src then storeVar dst a val
    else if ← Rtype.implements dst src then
      if (← Rtype.kind src) == 20 then
        match val with
        | .nilIface => unsupported (.noEntry "extern/reflectlite: a nil value of one interface type handed on as a value of another")
        | _ => storeVar dst a val
      else storeVar dst a (.iface src val)
    else panicString ("reflectlite.Set: value of type " ++ (← Rtype.spelt src) ++ " is not assignable to type " ++ (← Rtype.spelt dst))
    pure (.tuple #[])) := rfl
theorem as_parts25a (a : Addr) (w : World) : (ReflectliteValue.parts (.agg #[.pointer (some ⟨5, 129, none⟩), .pointer (some a), .int .u64 406])).run Tryz.prog w = .ok (some (129, a, 406)) w := by kernel_rfl
theorem as_parts25 (a : Addr) (w : World) : (ReflectliteValue.parts (.agg #[.pointer (some ⟨5, 129, none⟩), .pointer (some a), .int .u64 150])).run Tryz.prog w = .ok (some (129, a, 150)) w := by kernel_rfl
theorem as_direct25 (w : World) : (Rtype.directlyAssignable 129 129).run Tryz.prog w = .ok true w := by kernel_rfl
theorem as_size25 (w : World) : (sizeOf 129).run Tryz.prog w = .ok 1 w := by kernel_rfl
/-- (Value).Set: the *p.E variable at 'ta' gets what the Value's own variable 'b' holds. -/
theorem as_set25 (ta b e : Addr) (old : Value) (W : World) (hb : W.cell? b = some (.pointer (some e))) (ht : W.cell? ta = some old) (hf : W.frozen? ta = false) :
    (ReflectliteValue.set #[.agg #[.pointer (some ⟨5, 129, none⟩), .pointer (some ta), .int .u64 406], .agg #[.pointer (some ⟨5, 129, none⟩), .pointer (some b), .int .u64 150]]).run Tryz.prog W
      = .ok (.tuple #[]) (W.setCell ta (.pointer (some e))) := by
  rw [rls]
  simp only [Sem.run_bind, as_parts25a, as_parts25, Result.andThen]
  simp [ReflectliteValue.flagAddr, loadVar, isAgg, underlying, Tryz.underlying129, hb, Result.andThen, as_direct25, storeVar, Value.cells, storeCells, Addr.add]
  rw [run_store Tryz.prog W ta _ _ (by rfl)]
  simp [ht, hf]

set_option maxHeartbeats 4000000 in
theorem as_hit (e t : Addr) (old : Value) (w : World) (hg : w.cell? ⟨2, 0, none⟩ = some (.iface 207 (.agg #[.pointer (some ⟨5, 70, none⟩)]))) (ht0 : w.cell? t = some old) (hf0 : w.frozen? t = false) :
    Calls Tryz.prog 117 #[.iface 129 (.pointer (some e)), .iface 193 (.pointer (some t))] w fun ev w' => ev = .returned (.bool true) ∧ w' = ((((w.alloc (.cells #[.pointer (some t)] 193)).alloc (.cells #[.pointer (some ⟨5, 193, none⟩), .pointer (some ⟨w.heap.size, 0, none⟩), .int .u64 150] 217)).alloc (.cells #[.pointer (some ⟨5, 193, none⟩), .pointer (some ⟨w.heap.size, 0, none⟩), .int .u64 150] 217)).alloc (.cells #[.pointer (some e)] 129)).setCell t (.pointer (some e)) := by
  have h6 := @run_callFunc_extern Tryz.prog 130 _ (fun args => ReflectliteValue.unpack (args.getD 0 (.tuple #[]))) Tryz.func130 (by kernel_rfl) (by kernel_rfl) (by kernel_rfl) (by kernel_rfl)
  have h7 := @run_callFunc_extern Tryz.prog 131 _ (ReflectliteValue.methodAny (ReflectliteValue.valueError "reflectlite.Value.Type" 0) (fun t _ _ _ => ReflectliteType.toType t)) Tryz.func131 (by kernel_rfl) (by kernel_rfl) (by kernel_rfl) (by kernel_rfl)
  have h8 := @run_callFunc_extern Tryz.prog 132 _ (ReflectliteValue.method (ReflectliteValue.valueError "reflectlite.Value.IsNil" 0) ReflectliteValue.isNil) Tryz.func132 (by kernel_rfl) (by kernel_rfl) (by kernel_rfl) (by kernel_rfl)
  have h27 := @run_callFunc_extern Tryz.prog 160 _ (ReflectliteType.abiMethod fun t => do pure (.int .u8 (← Rtype.kind t))) Tryz.func160 (by kernel_rfl) (by kernel_rfl) (by kernel_rfl) (by kernel_rfl)
  have h37 := @run_callFunc_extern Tryz.prog 271 _ (ReflectliteType.method ReflectliteType.elem) Tryz.func271 (by kernel_rfl) (by kernel_rfl) (by kernel_rfl) (by kernel_rfl)
  have h38 := @run_callFunc_extern Tryz.prog 272 _ (ReflectliteType.relation "Implements" ReflectliteType.implements_) Tryz.func272 (by kernel_rfl) (by kernel_rfl) (by kernel_rfl) (by kernel_rfl)
  have h10 := @run_callFunc_extern Tryz.prog 109 _ ReflectliteType.typeOf Tryz.func109 (by kernel_rfl) (by kernel_rfl) (by kernel_rfl) (by kernel_rfl)
  have h35 := @run_callFunc_extern Tryz.prog 269 _ (ReflectliteType.relation "AssignableTo" ReflectliteType.assignableTo) Tryz.func269 (by kernel_rfl) (by kernel_rfl) (by kernel_rfl) (by kernel_rfl)
  have h11 := @run_callFunc_extern Tryz.prog 140 _ (ReflectliteValue.method (ReflectliteValue.valueError "reflectlite.Value.Elem" 0) ReflectliteValue.elem) Tryz.func140 (by kernel_rfl) (by kernel_rfl) (by kernel_rfl) (by kernel_rfl)
  have h12 := @run_callFunc_extern Tryz.prog 141 _ ReflectliteValue.set Tryz.func141 (by kernel_rfl) (by kernel_rfl) (by kernel_rfl) (by kernel_rfl)
  have tO := as_typeOf25
  have mA := as_methodAssignableTo
  have a25 := as_assignable25
  have v25 := as_valueOf25
  have f6 := as_valueOf27
  have f7 := as_type27
  have mK := as_methodKind
  have mE := as_methodElem
  have mI := as_methodImplements
  have k27 := as_kind27
  have k25 := as_kind25
  have e27 := as_elem27
  have i25 := as_implements25
  have n8 := as_isNil27 ⟨w.heap.size, 0, none⟩ t ((w.alloc (.cells #[.pointer (some t)] 193)).alloc (.cells #[.pointer (some ⟨5, 193, none⟩), .pointer (some ⟨w.heap.size, 0, none⟩), .int .u64 150] 217)) (by simp)
  have hlt : 2 < w.heap.size := World.block_lt_of_cell? w _ hg
  have hg2 : ((w.alloc (.cells #[.pointer (some t)] 193)).alloc (.cells #[.pointer (some ⟨5, 193, none⟩), .pointer (some ⟨w.heap.size, 0, none⟩), .int .u64 150] 217)).cell? ⟨2, 0, none⟩ = some (.iface 207 (.agg #[.pointer (some ⟨5, 70, none⟩)])) := by
    rw [World.cell?_alloc_lt _ _ ⟨2, 0, none⟩ (by simp; omega), World.cell?_alloc_lt _ _ ⟨2, 0, none⟩ hlt]; exact hg
  have htl : t.block < w.heap.size := by
    rcases Nat.lt_or_ge t.block w.heap.size with h | h
    · exact h
    · simp [World.cell?, Array.getElem?_eq_none h] at ht0
  have el := as_elemV27 ⟨w.heap.size, 0, none⟩ t (((w.alloc (.cells #[.pointer (some t)] 193)).alloc (.cells #[.pointer (some ⟨5, 193, none⟩), .pointer (some ⟨w.heap.size, 0, none⟩), .int .u64 150] 217)).alloc (.cells #[.pointer (some ⟨5, 193, none⟩), .pointer (some ⟨w.heap.size, 0, none⟩), .int .u64 150] 217)) (by rw [World.cell?_alloc_lt _ _ ⟨w.heap.size, 0, none⟩ (by simp; omega)]; simp)
  have st := as_set25 t ⟨w.heap.size + 1 + 1 + 1, 0, none⟩ e old ((((w.alloc (.cells #[.pointer (some t)] 193)).alloc (.cells #[.pointer (some ⟨5, 193, none⟩), .pointer (some ⟨w.heap.size, 0, none⟩), .int .u64 150] 217)).alloc (.cells #[.pointer (some ⟨5, 193, none⟩), .pointer (some ⟨w.heap.size, 0, none⟩), .int .u64 150] 217)).alloc (.cells #[.pointer (some e)] 129))
    (by rw [World.cell?_alloc_at _ _ _ _ (by simp)]; rfl)
    (by rw [World.cell?_alloc_lt _ _ t (by simp; omega), World.cell?_alloc_lt _ _ t (by simp; omega), World.cell?_alloc_lt _ _ t (by simp; omega), World.cell?_alloc_lt _ _ t htl]; exact ht0)
    (by rw [World.frozen?_alloc_old _ _ t (by simp; omega), World.frozen?_alloc_old _ _ t (by simp; omega), World.frozen?_alloc_old _ _ t (by simp; omega), World.frozen?_alloc_old _ _ t (Nat.ne_of_lt htl)]; exact hf0)
  go_enter Tryz.func117, Tryz.ntmps117
  go_wp2
  refine wp_loop_rounds 1 ?_
  rw [rounds_succ]
  go_wp2
  go_ret
  exact ⟨rfl, rfl⟩
/-- The variable errors.errorType, as the program laid it. -/
def GT (w : World) : Prop := w.cell? ⟨2, 0, none⟩ = some (.iface 207 (.agg #[.pointer (some ⟨5, 70, none⟩)]))
theorem GT.lt {w : World} (h : GT w) : 2 < w.heap.size := World.block_lt_of_cell? w _ h
theorem GT.go {w w' : World} (h : GT w) (hb : Below w.heap.size w w') : GT w' := (hb.cell (p := ⟨2, 0, none⟩) h.lt).trans h
theorem errno_nil (w : World) : Calls Tryz.prog 83 #[.nilIface] w fun e w' => e = .returned (.int .i64 0) ∧ Below w.heap.size w w' := by
  have hA := fun t => as_nil t (w.alloc (.cells #[.pointer none] 129))
  go_enter Tryz.func83, Tryz.ntmps83
  go_wp2_with fail
  refine (hA _).mono ?_
  rintro e w1 ⟨rfl, rfl⟩
  go_wp2_with fail
  go_ret
  exact ⟨rfl, (Below.refl _ w).alloc (Nat.le_refl _) _⟩
theorem errno_fault (v : Value) (no : Int) (w : World) (hg : GT w) (hf : FaultAt w v no) : Calls Tryz.prog 83 #[v] w fun e w' => e = .returned (.int .i64 no) ∧ Below w.heap.size w w' := by
  obtain ⟨b, rfl, hb⟩ := hf
  obtain ⟨W1, hW1, hX1, hB1, hs1⟩ := boxes1 w #[.pointer none] 129
  have hA := as_hit ⟨b, 0, none⟩ ⟨w.heap.size, 0, none⟩ (.pointer none) W1 (hg.go hB1) (cell_of_cells hX1 0) (frozen_of_cells hX1 0)
  obtain ⟨W2, hW2⟩ : ∃ W2, (((W1.alloc (.cells #[.pointer (some ⟨w.heap.size, 0, none⟩)] 193)).alloc (.cells #[.pointer (some ⟨5, 193, none⟩), .pointer (some ⟨W1.heap.size, 0, none⟩), .int .u64 150] 217)).alloc (.cells #[.pointer (some ⟨5, 193, none⟩), .pointer (some ⟨W1.heap.size, 0, none⟩), .int .u64 150] 217)).alloc (.cells #[.pointer (some ⟨b, 0, none⟩)] 129) = W2 := ⟨_, rfl⟩
  have hB2 : Below W1.heap.size W1 W2 := by
    rw [← hW2]
    exact ((((Below.refl _ W1).alloc (Nat.le_refl _) _).alloc (by simp <;> omega) _).alloc (by simp <;> omega) _).alloc (by simp <;> omega) _
  rw [hW2] at hA
  have hX2 := known hB2 (Nat.le_refl _) hX1
  have hbw := (Array.getElem?_eq_some_iff.1 hb).1
  have hb2 := known (hB1.trans (hB2.mono hB1.size)) (Nat.le_refl _) hb
  have hX3 : (W2.setCell ⟨w.heap.size, 0, none⟩ (.pointer (some ⟨b, 0, none⟩))).heap[w.heap.size]? = some (.cells #[.pointer (some ⟨b, 0, none⟩)] 129 (0, 0)) := heap_set_known hX2 _
  have hb3 := (heap_set_other (W := W2) (p := ⟨w.heap.size, 0, none⟩) (b := b) (by show w.heap.size ≠ b; omega) (.pointer (some ⟨b, 0, none⟩))).trans hb2
  have hB3 : Below w.heap.size w (W2.setCell ⟨w.heap.size, 0, none⟩ (.pointer (some ⟨b, 0, none⟩))) := (hB1.trans (hB2.mono hB1.size)).setCell (p := ⟨w.heap.size, 0, none⟩) (Nat.le_refl _) _
  obtain ⟨W3, hW3⟩ : ∃ W3, W2.setCell ⟨w.heap.size, 0, none⟩ (.pointer (some ⟨b, 0, none⟩)) = W3 := ⟨_, rfl⟩
  rw [hW3] at hA hX3 hb3 hB3
  have c0 : W3.cell? ⟨w.heap.size, 0, none⟩ = some (.pointer (some ⟨b, 0, none⟩)) := cell_of_cells hX3 0
  have d0 : W3.cell? ⟨b, 0, none⟩ = some (.int .i64 no) := cell_of_cells hb3 0
  have HB3 := Lib.hid hB3
  clear hg hb hX1 hB1 hW2 hB2 hX2 hb2 hX3 hb3 hB3 hW3
  go_enter Tryz.func83, Tryz.ntmps83
  go_wp2_with fail
  refine hA.mono ?_
  rintro e w1 ⟨rfl, rfl⟩
  go_wp2_with fail
  go_ret
  exact ⟨rfl, HB3.out⟩
theorem isFull_nil (w : World) : Calls Tryz.prog 86 #[.nilIface] w fun e w' => e = .returned (.bool false) ∧ Below w.heap.size w w' := by
  have hA := errno_nil w
  go_enter Tryz.func86, Tryz.ntmps86
  go_wp2_with fail
  refine hA.mono ?_
  rintro e w1 ⟨rfl, hb⟩
  go_wp2_with fail
  go_ret
  exact ⟨rfl, hb⟩
theorem isFull_fault (v : Value) (no : Int) (w : World) (hg : GT w) (hf : FaultAt w v no) : Calls Tryz.prog 86 #[v] w fun e w' => e = .returned (.bool (no == 60)) ∧ Below w.heap.size w w' := by
  have hA := errno_fault v no w hg hf
  go_enter Tryz.func86, Tryz.ntmps86
  go_wp2_with fail
  refine hA.mono ?_
  rintro e w1 ⟨rfl, hb⟩
  go_wp2_with fail
  go_ret
  exact ⟨rfl, hb⟩
end Go.Proofs.YtmkefodaibmkhaaGreatDoor
namespace Go.Proofs.YtmkefodaibmkhaaGreatDoor
open Go Go.RowKit Go.Shelf

theorem bot_eq {B : Bd} {kind level : Nat} (h : B.Ok kind level) : bottomB (kind : Int) = (botN kind : Int) ∧ level ≤ botN kind := by
  cases B with
  | num l => obtain ⟨rfl, rfl, -⟩ := h; exact ⟨rfl, by decide⟩
  | reg b r => obtain ⟨rfl, -, h, -⟩ := h; exact ⟨rfl, h⟩
  | cnt c l => obtain ⟨rfl, h, -⟩ := h; exact ⟨rfl, h⟩
  | bkt f l => obtain ⟨rfl, h, -⟩ := h; exact ⟨rfl, h⟩
theorem bd_iface {W : World} {v : Value} {B : Bd} (h : BdAt W v B) : ∃ T rv, v = .iface T rv := by
  cases B with
  | num l => obtain ⟨a, len, cap, rfl, -⟩ := h; exact ⟨_, _, rfl⟩
  | reg b r => exact ⟨_, _, h⟩
  | cnt c l => obtain ⟨a, len, cap, rfl, -⟩ := h; exact ⟨_, _, rfl⟩
  | bkt f l => obtain ⟨a, len, cap, rfl, -⟩ := h; exact ⟨_, _, rfl⟩
/-- Two worlds that are the same but for a block's cells. -/
def OnlyAt (b : Nat) (W V : World) : Prop := V.heap.size = W.heap.size ∧ ∀ k, k ≠ b → V.heap[k]? = W.heap[k]?
theorem OnlyAt.refl (b : Nat) (W : World) : OnlyAt b W W := ⟨rfl, fun _ _ => rfl⟩
theorem OnlyAt.set {b : Nat} {W V : World} (h : OnlyAt b W V) (o : Nat) (v : Value) : OnlyAt b W (V.setCell ⟨b, o, none⟩ v) := ⟨(size_set V _ v).trans h.1, fun k hk => (heap_set_other (p := ⟨b, o, none⟩) (fun e => hk e.symm) v).trans (h.2 k hk)⟩
theorem slC_apart {α : Type} {enc : α → List Value} {k i0 : Nat} (hi : i0 < k) (hu : ∀ x, ∃ u, (enc x)[i0]? = some (.int .u64 u)) {W V : World} {b : Nat} {cs : Array Value} {t : TypeId} (hX : W.heap[b]? = some (.cells cs t (0, 0))) (hc : ∀ (i : Nat) (u : Int), cs[i]? ≠ some (Value.int .u64 u)) (hV : OnlyAt b W V)
    {a : Option Addr} {len cap : Nat} {l : List α} (h : SlC enc k W.heap.size W a len cap l) : SlC enc k V.heap.size V a len cap l := by
  rw [hV.1]
  refine ⟨⟨h.1.1, fun j x hx => ?_⟩, h.2⟩
  obtain ⟨g, off, e, hg, hcell⟩ := h.1.2 j x hx
  have hne : g ≠ b := fun e => by
    subst e
    obtain ⟨u, hu⟩ := hu x
    have h1 := hcell i0 hi
    rw [hu, cell_of_cells hX] at h1
    exact hc _ u h1
  exact ⟨g, off, e, hg, fun i hi => (World.cell?_of_block (show V.heap[g]? = W.heap[g]? from hV.2 g hne)).trans (hcell i hi)⟩
theorem BdAt.apart {W V : World} {v : Value} {B : Bd} (h : BdAt W v B) {b : Nat} {cs : Array Value} {t : TypeId} (hX : W.heap[b]? = some (.cells cs t (0, 0))) (hc : ∀ (i : Nat) (u : Int), cs[i]? ≠ some (Value.int .u64 u)) (hV : OnlyAt b W V) : BdAt V v B := by
  cases B with
  | num l => obtain ⟨a, len, cap, h1, h2⟩ := h; exact ⟨a, len, cap, h1, slC_apart (i0 := 0) (by decide) (fun x => ⟨x, rfl⟩) hX hc hV h2⟩
  | reg b r => exact h
  | cnt c l => obtain ⟨a, len, cap, h1, h2⟩ := h; exact ⟨a, len, cap, h1, slC_apart (i0 := 0) (by decide) (fun x => ⟨x, rfl⟩) hX hc hV h2⟩
  | bkt f l => obtain ⟨a, len, cap, h1, h2⟩ := h; exact ⟨a, len, cap, h1, slC_apart (i0 := 1) (by decide) (fun x => ⟨x.2, rfl⟩) hX hc hV h2⟩
theorem no_u64 {i : Nat} {x y z : Value} (hx : ∀ u, x ≠ .int .u64 u) (hy : ∀ u, y ≠ .int .u64 u) (hz : ∀ u, z ≠ .int .u64 u) (u : Int) : (#[x, y, z] : Array Value)[i]? ≠ some (.int .u64 u) := by
  intro h
  rcases i with _ | _ | _ | i
  · exact hx u (by simpa using h)
  · exact hy u (by simpa using h)
  · exact hz u (by simpa using h)
  · simp at h
theorem drewN_below {w : World} (n : Nat) : Below w.heap.size w (w.drewN n) := below_drewN (Below.refl _ _) n
set_option maxRecDepth 100000 in
set_option maxHeartbeats 2000000 in
theorem lowered_any (v : Value) (B : Bd) (kind level : Nat) (w : World) (hb : BdAt w v B) (hok : B.Ok kind level) (hlv : level < botN kind) :
    Calls Tryz.prog 44 #[.agg #[v, .int .i64 kind, .int .i64 level]] w fun e w' => ∃ v', e = .returned (.tuple #[.agg #[v', .int .i64 kind, .int .i64 ((level : Int) + 1)], .nilIface]) ∧ BdAt w' v' B.low ∧ Below w.heap.size w w' := by
  obtain ⟨T, rv, f, rfl, hm, hcf, hc⟩ := lower_at hb hok hlv
  obtain ⟨W0, hW0, hXp, hXr, hB0, hs0⟩ := boxes2 w #[.iface T rv, .int .i64 kind, .int .i64 level] 68 #[.nilIface, .int .i64 0, .int .i64 0] 68
  have HBT : Hid (∀ w, Calls Tryz.prog 12 #[.int .i64 kind] w fun e w' => e = .returned (.int .i64 (botN kind : Nat)) ∧ w' = w) := fun w => (Bottom_any kind w).mono fun e w' ⟨h1, h2⟩ => ⟨by rw [h1, (bot_eq hok).1], h2.symm⟩
  have c0 : W0.cell? ⟨w.heap.size, 0, none⟩ = some (.iface T rv) := cell_of_cells hXp 0
  have c1 : W0.cell? ⟨w.heap.size, 1, none⟩ = some (.int .i64 kind) := cell_of_cells hXp 1
  have c2 : W0.cell? ⟨w.heap.size, 2, none⟩ = some (.int .i64 level) := cell_of_cells hXp 2
  have HXP := Lib.hid hXp
  have HXR := Lib.hid hXr
  have HB0 := Lib.hid hB0
  have HB := Lib.hid (hb.go hB0)
  have HC := Lib.hid hc
  have t1 : decide ((botN kind : Int) ≤ (level : Int)) = false := by simp; omega
  have hb4 : botN kind ≤ 4 := by unfold botN; split <;> omega
  clear hXp hXr hB0 hb hc hok
  go_enter Tryz.func44, Tryz.ntmps44
  go_wp2_with fail
  go_quiet ((go_at_call 12; exact Calls.quiet_of_same (HBT.out _)))
  go_wp2_with fail
  have hB1 := drewN_below (w := W0) nq
  refine (HC.out _ (HB.out.go hB1)).mono ?_
  rintro e w1 ⟨hb1, v', rfl, hv1⟩
  obtain ⟨T', rv', rfl⟩ := bd_iface hv1
  have hX1 := known (hB1.trans hb1) (Nat.le_refl _) HXP.out
  have hR1 := known (hB1.trans hb1) (Nat.le_refl _) HXR.out
  have hB01 : Below w.heap.size w w1 := HB0.out.trans ((hB1.trans hb1).mono HB0.out.size)
  have hw1 : wrap64 ((level : Int) + 1) = (level : Int) + 1 := by unfold wrap64; omega
  have hw2 : IntKind.i64.wrap ((level : Int) + 1) = ((level : Int) + 1) := IntWalk.i64_in _ (by omega)
  have d0 : w1.cell? ⟨w.heap.size, 0, none⟩ = some (.iface T rv) := cell_of_cells hX1 0
  have d1 : w1.cell? ⟨w.heap.size, 1, none⟩ = some (.int .i64 kind) := cell_of_cells hX1 1
  have d2 : w1.cell? ⟨w.heap.size, 2, none⟩ = some (.int .i64 level) := cell_of_cells hX1 2
  have r0 : w1.cell? ⟨w.heap.size + 1, 0, none⟩ = some (.nilIface) := cell_of_cells hR1 0
  have r1 : w1.cell? ⟨w.heap.size + 1, 1, none⟩ = some (.int .i64 0) := cell_of_cells hR1 1
  have r2 : w1.cell? ⟨w.heap.size + 1, 2, none⟩ = some (.int .i64 0) := cell_of_cells hR1 2
  have g0 : w1.frozen? ⟨w.heap.size + 1, 0, none⟩ = false := frozen_of_cells hR1 0
  have g1 : w1.frozen? ⟨w.heap.size + 1, 1, none⟩ = false := frozen_of_cells hR1 1
  have g2 : w1.frozen? ⟨w.heap.size + 1, 2, none⟩ = false := frozen_of_cells hR1 2
  have hX6 := set_cells3 (u := .iface T' rv') (v := .int .i64 kind) (q := .int .i64 ((level : Int) + 1)) hR1
  have hB6 := ((hB01.setCell (p := ⟨w.heap.size + 1, 0, none⟩) (Nat.le_succ _) (.iface T' rv')).setCell (p := ⟨w.heap.size + 1, 1, none⟩) (Nat.le_succ _) (.int .i64 kind)).setCell (p := ⟨w.heap.size + 1, 2, none⟩) (Nat.le_succ _) (.int .i64 ((level : Int) + 1))
  have HV : Hid (BdAt w1 (.iface T' rv') B.low) := hv1
  have HR1 := Lib.hid hR1
  clear hX1 hR1 hB01 hv1 hb1 hB1
  go_wp2_with fail
  have hgV : BdAt (((w1.setCell ⟨w.heap.size + 1, 0, none⟩ (.iface T' rv')).setCell ⟨w.heap.size + 1, 1, none⟩ (.int .i64 kind)).setCell ⟨w.heap.size + 1, 2, none⟩ (.int .i64 ((level : Int) + 1))) (.iface T' rv') B.low := BdAt.apart (B := B.low) HV.out HR1.out (fun i u => no_u64 (by simp) (by simp) (by simp) u) ((((OnlyAt.refl _ _).set _ _).set _ _).set _ _)
  generalize ((w1.setCell ⟨w.heap.size + 1, 0, none⟩ (.iface T' rv')).setCell ⟨w.heap.size + 1, 1, none⟩ (.int .i64 kind)).setCell ⟨w.heap.size + 1, 2, none⟩ (.int .i64 ((level : Int) + 1)) = V at hX6 hB6 hgV ⊢
  have k0 : V.cell? ⟨w.heap.size + 1, 0, none⟩ = some (.iface T' rv') := cell_of_cells hX6 0
  have k1 : V.cell? ⟨w.heap.size + 1, 1, none⟩ = some (.int .i64 kind) := cell_of_cells hX6 1
  have k2 : V.cell? ⟨w.heap.size + 1, 2, none⟩ = some (.int .i64 ((level : Int) + 1)) := cell_of_cells hX6 2
  exact bodyPost_ret (v := .tuple #[.agg #[.iface T' rv', .int .i64 kind, .int .i64 ((level : Int) + 1)], .nilIface]) (by simp [results, Tryz.f44, go_sem, k0, k1, k2]) rfl ⟨_, rfl, hgV, hB6⟩
end Go.Proofs.YtmkefodaibmkhaaGreatDoor
namespace Go.Proofs.YtmkefodaibmkhaaGreatDoor
open Go Go.RowKit Go.Shelf

/-- The sketch of a body at work. -/
def skOf (kind level : Nat) : Bd → Sk
  | .num l => skNum kind level l
  | .reg b r => skReg kind level b (hlStr r)
  | .cnt c l => skCnt kind level 2 c l
  | .bkt f l => skBkt kind level f l
theorem sk_same (x : Sk) : skSame x x = true := by simp [skSame]
theorem skOf_kind (k L : Nat) (B : Bd) : (skOf k L B).kind = k ∧ (skOf k L B).level = L := by cases B <;> exact ⟨rfl, rfl⟩
theorem ok_kind {B : Bd} {k L : Nat} (h : B.Ok k L) : k = 1 ∨ k = 2 ∨ k = 3 := by
  cases B with
  | num l => exact .inl h.1
  | reg b r => exact .inl h.1
  | cnt c l => exact .inr (.inl h.1)
  | bkt f l => exact .inr (.inr h.1)
theorem cols_div {c level : Nat} (h : c * 2 ^ level = 32) (hl : level ≤ 3) : ((c : Int) == 32 / 2 ^ level) = true := by
  rw [beq_iff_eq]
  rcases (by omega : level = 0 ∨ level = 1 ∨ level = 2 ∨ level = 3) with rfl | rfl | rfl | rfl <;> simp at h ⊢ <;> omega
theorem skOf_canon {B : Bd} {k L : Nat} (h : B.Ok k L) : skCanon (skOf k L B) = skOf k L B := by
  cases B with
  | num l =>
    obtain ⟨rfl, rfl, -⟩ := h
    rfl
  | reg b r =>
    obtain ⟨rfl, h1, -⟩ := h
    have h0 : (((L : Nat) : Int) == 0) = false := by simp; omega
    show (if ((1 : Nat) : Int) == 1 then if (L : Int) == 0 then _ else _ else _) = _
    rw [h0]
    rfl
  | cnt c l =>
    obtain ⟨rfl, -⟩ := h
    rfl
  | bkt f l =>
    obtain ⟨rfl, -⟩ := h
    rfl
theorem skOf_body {B : Bd} {k L : Nat} (h : B.Ok k L) : bodyRight (skOf k L B) = true := by
  cases B with
  | num l =>
    obtain ⟨rfl, rfl, h3, h4, -⟩ := h
    exact up_right l h3 h4
  | reg b r =>
    obtain ⟨rfl, h1, h2, h3, h4, h5⟩ := h
    have h0 : (((L : Nat) : Int) == 0) = false := by simp; omega
    show (if ((1 : Nat) : Int) == 1 then if (L : Int) == 0 then _ else hlRight (b : Int) (hlStr r) && ((b : Int) == 8 - (L : Int)) else _) = true
    rw [h0, hlRight_str b r (by omega) (by omega) h4 h5]
    simp
    omega
  | cnt c l =>
    obtain ⟨rfl, h2, h3, h4, -⟩ := h
    show (cmRight 2 (c : Int) l && ((2 : Int) == 2) && ((c : Int) == 32 / 2 ^ ((L : Int)).toNat)) = true
    rw [Int.toNat_natCast, cols_div h3 h2]
    unfold cmRight
    rw [shape_any c (cols_of h3 h2)]
    simp
    omega
  | bkt f l =>
    obtain ⟨rfl, h2, h3, h4, h5, -, h7⟩ := h
    show (hiRight (f : Int) l && ((f : Int) == 3 - (L : Int))) = true
    rw [hiRight_of f l (by omega) h4 h5 h7]
    simp
    omega
theorem skOf_ok {B : Bd} {k L : Nat} (h : B.Ok k L) : skOk (skOf k L B) = true := by
  unfold skOk
  rw [skOf_body h, skOf_canon h, sk_same, (skOf_kind k L B).1, (skOf_kind k L B).2, (bot_eq h).1]
  have h1 := (bot_eq h).2
  have h2 := ok_kind h
  simp
  omega
theorem skOf_fit {B : Bd} {k L : Nat} (h : B.Ok k L) : (skOf k L B).fit := by
  cases B with
  | bkt f l =>
    obtain ⟨rfl, h2, h3, h4, h5, -, h7⟩ := h
    exact fun b hb => (bins_i64 f l (by omega) h7 b hb).2
  | num l => exact fun b hb => by cases hb
  | reg b r => exact fun b hb => by cases hb
  | cnt c l => exact fun b hb => by cases hb
/-- A sketch at work as a value. -/
def SkB (W : World) (v : Value) (k L : Nat) (B : Bd) : Prop := ∃ (y : Sk) (s : SS), y = skOf k L B ∧ v = .agg #[.int .i64 y.kind, .int .i64 y.level, .slice s.ea s.el s.ec, .int .i64 y.hb, .string y.hr, .int .i64 y.cr, .int .i64 y.cc, .slice s.ca s.cl s.cc, .int .i64 y.gf, .slice s.ga s.gl s.gc] ∧ s.At W.heap.size W y
theorem SkB.go {W W' : World} {v : Value} {k L : Nat} {B : Bd} (h : SkB W v k L B) (hb : Below W.heap.size W W') : SkB W' v k L B := by
  obtain ⟨y, s, h0, h1, h2⟩ := h
  exact ⟨y, s, h0, h1, h2.go hb⟩
theorem at_short {s : SS} {k L : Nat} {B : Bd} {n : Nat} {W : World} (h : B.Ok k L) (hA : s.At n W (skOf k L B)) : s.Short := by
  have e1 : s.el = (skOf k L B).e.length := hA.e.1.1
  have e2 : s.cl = (skOf k L B).cl.length := hA.c.1.1
  have e3 : s.gl = (skOf k L B).gl.length := hA.g.1.1
  unfold SS.Short
  rw [e1, e2, e3]
  cases B with
  | num l =>
    obtain ⟨-, -, -, h4, -⟩ := h
    show l.length < _ ∧ 0 < _ ∧ 0 < _
    omega
  | reg b r => show 0 < _ ∧ 0 < _ ∧ 0 < _; omega
  | cnt c l =>
    obtain ⟨-, h2, h3, h4, -⟩ := h
    have := cols_of h3 h2
    show 0 < _ ∧ l.length < _ ∧ 0 < _
    omega
  | bkt f l =>
    obtain ⟨-, h2, h3, h4, -, -, h7⟩ := h
    have := bins_len f l (by omega) h4 h7
    show 0 < _ ∧ 0 < _ ∧ l.length < _
    omega
theorem skBody_at {s : SS} {k L : Nat} {B : Bd} {W : World} (h : B.Ok k L) (hA : s.At W.heap.size W (skOf k L B)) : BdAt W (skBody (skOf k L B) s) B := by
  cases B with
  | num l =>
    obtain ⟨rfl, rfl, -⟩ := h
    exact ⟨s.ea, s.el, s.ec, rfl, hA.e⟩
  | reg b r =>
    obtain ⟨rfl, h1, -⟩ := h
    have h0 : (((L : Nat) : Int) == 0) = false := by simp; omega
    show (if ((1 : Nat) : Int) == 1 then if (L : Int) == 0 then _ else _ else _) = _
    rw [h0]
    rfl
  | cnt c l =>
    obtain ⟨rfl, -⟩ := h
    exact ⟨s.ca, s.cl, s.cc, rfl, hA.c⟩
  | bkt f l =>
    obtain ⟨rfl, -⟩ := h
    exact ⟨s.ga, s.gl, s.gc, rfl, hA.g⟩
/-- Opened: a body at work. -/
theorem open_sk_any {k L : Nat} {B : Bd} {v : Value} {w : World} (h : B.Ok k L) (hv : SkB w v k L B) :
    Calls Tryz.prog 38 #[v] w fun e w' => ∃ b, e = .returned (.tuple #[.agg #[b, .int .i64 k, .int .i64 L], .nilIface]) ∧ BdAt w' b B ∧ Below w.heap.size w w' := by
  obtain ⟨y, s, rfl, rfl, hA⟩ := hv
  refine (open_any (skOf k L B) s w hA (at_short h hA) (skOf_fit h)).mono ?_
  rintro e w' ⟨h1, h2⟩
  rw [skOf_ok h, (skOf_kind k L B).1, (skOf_kind k L B).2] at h1
  exact ⟨_, h1, skBody_at h (hA.go h2), h2⟩
/-- A body's sketch. -/
theorem sketch_sk {k L : Nat} {B : Bd} {v : Value} {w : World} (h : B.Ok k L) (hv : BdAt w v B) :
    Calls Tryz.prog 81 #[.agg #[v, .int .i64 k, .int .i64 L]] w fun e w' => ∃ x, e = .returned x ∧ SkB w' x k L B ∧ Below w.heap.size w w' := by
  cases B with
  | num l =>
    obtain ⟨a, len, cap, rfl, hS⟩ := hv
    refine (sketch_num k L l a len cap w hS.1 (by have := h.2.2.2.1; have := hS.1.1; omega)).mono ?_
    rintro e w' ⟨s, rfl, hs, -, -, -, hb⟩
    exact ⟨_, rfl, ⟨_, s, rfl, rfl, hs⟩, hb⟩
  | reg b r =>
    obtain rfl : v = _ := hv
    refine (sketch_reg k L b (hlStr r) w).mono ?_
    rintro e w' ⟨s, rfl, hs, -, -, -, hb⟩
    exact ⟨_, rfl, ⟨_, s, rfl, rfl, hs⟩, hb⟩
  | cnt c l =>
    obtain ⟨a, len, cap, rfl, hS⟩ := hv
    refine (sketch_cnt k L 2 c l a len cap w hS.1 (by have := cols_of h.2.2.1 h.2.1; have := h.2.2.2.1; have := hS.1.1; omega)).mono ?_
    rintro e w' ⟨s, rfl, hs, -, -, -, hb⟩
    exact ⟨_, rfl, ⟨_, s, rfl, rfl, hs⟩, hb⟩
  | bkt f l =>
    obtain ⟨a, len, cap, rfl, hS⟩ := hv
    refine (sketch_bkt k L f l a len cap w hS.1 (by have := bins_len f l (by have := h.2.2.1; omega) h.2.2.2.1 h.2.2.2.2.2.2; have := hS.1.1; omega)).mono ?_
    rintro e w' ⟨s, rfl, hs, -, -, -, hb⟩
    exact ⟨_, rfl, ⟨_, s, rfl, rfl, hs⟩, hb⟩
end Go.Proofs.YtmkefodaibmkhaaGreatDoor
namespace Go.Proofs.YtmkefodaibmkhaaGreatDoor
open Go Go.RowKit Go.Shelf

theorem OnlyAt.trans {b : Nat} {W V U : World} (h1 : OnlyAt b W V) (h2 : OnlyAt b V U) : OnlyAt b W U := ⟨h2.1.trans h1.1, fun k hk => (h2.2 k hk).trans (h1.2 k hk)⟩
/-- A store of what stands there. -/
theorem set_same {W : World} {B i : Nat} {c : Array Value} {t : TypeId} {fz : Nat × Nat} {v : Value} (h : W.heap[B]? = some (.cells c t fz)) (hv : c[i]? = some v) : W.setCell ⟨B, i, none⟩ v = W := by
  have hc : c.setIfInBounds i v = c := by
    obtain ⟨hi, rfl⟩ := Array.getElem?_eq_some_iff.1 hv
    apply Array.ext (by simp)
    intro j h1 h2
    rw [Array.getElem_setIfInBounds]
    split
    · rename_i e; subst e; rfl
    · rfl
  have key : (W.setCell ⟨B, i, none⟩ v).heap = W.heap := by
    apply Array.ext (size_set W _ v)
    intro j h1 h2
    have a1 : (W.setCell ⟨B, i, none⟩ v).heap[j]? = W.heap[j]? := by
      by_cases hj : B = j
      · subst hj
        rw [heap_set_known h, h, hc]
      · exact heap_set_other (p := ⟨B, i, none⟩) hj v
    rw [Array.getElem?_eq_getElem h1, Array.getElem?_eq_getElem h2] at a1
    exact Option.some.inj a1
  have e : W.setCell ⟨B, i, none⟩ v = { W with heap := (W.setCell ⟨B, i, none⟩ v).heap } := rfl
  rw [e, key]
/-- Three cells stored. -/
theorem store3 {W : World} {b : Nat} {x y z : Value} (u v q : Value) {t : TypeId} (h : W.heap[b]? = some (.cells #[x, y, z] t (0, 0))) : ∃ V, ((W.setCell ⟨b, 0, none⟩ u).setCell ⟨b, 1, none⟩ v).setCell ⟨b, 2, none⟩ q = V ∧ V.heap[b]? = some (.cells #[u, v, q] t (0, 0)) ∧ OnlyAt b W V ∧ ∀ n w0, Below n w0 W → n ≤ b → Below n w0 V :=
  ⟨_, rfl, set_cells3 h, (((OnlyAt.refl _ _).set _ _).set _ _).set _ _, fun _ _ hB hn => ((hB.setCell (p := ⟨b, 0, none⟩) hn _).setCell (p := ⟨b, 1, none⟩) hn _).setCell (p := ⟨b, 2, none⟩) hn _⟩
/-- Ten cells stored. -/
theorem store10 {W : World} {b : Nat} {x0 x1 x2 x3 x4 x5 x6 x7 x8 x9 : Value} (v0 v1 v2 v3 v4 v5 v6 v7 v8 v9 : Value) {t : TypeId} (h : W.heap[b]? = some (.cells #[x0, x1, x2, x3, x4, x5, x6, x7, x8, x9] t (0, 0))) :
    ∃ V, (((((((((W.setCell ⟨b, 0, none⟩ v0).setCell ⟨b, 1, none⟩ v1).setCell ⟨b, 2, none⟩ v2).setCell ⟨b, 3, none⟩ v3).setCell ⟨b, 4, none⟩ v4).setCell ⟨b, 5, none⟩ v5).setCell ⟨b, 6, none⟩ v6).setCell ⟨b, 7, none⟩ v7).setCell ⟨b, 8, none⟩ v8).setCell ⟨b, 9, none⟩ v9 = V ∧
      V.heap[b]? = some (.cells #[v0, v1, v2, v3, v4, v5, v6, v7, v8, v9] t (0, 0)) ∧ OnlyAt b W V ∧ ∀ n w0, Below n w0 W → n ≤ b → Below n w0 V :=
  ⟨_, rfl, set10 h, ((((((((((OnlyAt.refl _ _).set _ _).set _ _).set _ _).set _ _).set _ _).set _ _).set _ _).set _ _).set _ _).set _ _,
    fun _ _ hB hn => (((((((((hB.setCell (p := ⟨b, 0, none⟩) hn _).setCell (p := ⟨b, 1, none⟩) hn _).setCell (p := ⟨b, 2, none⟩) hn _).setCell (p := ⟨b, 3, none⟩) hn _).setCell (p := ⟨b, 4, none⟩) hn _).setCell (p := ⟨b, 5, none⟩) hn _).setCell (p := ⟨b, 6, none⟩) hn _).setCell (p := ⟨b, 7, none⟩) hn _).setCell (p := ⟨b, 8, none⟩) hn _).setCell (p := ⟨b, 9, none⟩) hn _⟩
theorem BdAt.set_work {W V : World} {v : Value} {B : Bd} {b : Nat} {x y z : Value} {t : TypeId} (h : BdAt W v B) (hX : W.heap[b]? = some (.cells #[x, y, z] t (0, 0))) (hx : ∀ u, x ≠ .int .u64 u) (hy : ∀ u, y ≠ .int .u64 u) (hz : ∀ u, z ≠ .int .u64 u) (hV : OnlyAt b W V) : BdAt V v B :=
  h.apart hX (fun _ u => no_u64 hx hy hz u) hV
theorem SkB.apart {W V : World} {v : Value} {k L : Nat} {B : Bd} (h : SkB W v k L B) {b : Nat} {cs : Array Value} {t : TypeId} (hX : W.heap[b]? = some (.cells cs t (0, 0))) (hc : ∀ (i : Nat) (u : Int), cs[i]? ≠ some (Value.int .u64 u)) (hV : OnlyAt b W V) : SkB V v k L B := by
  obtain ⟨y, s, h0, h1, h2⟩ := h
  exact ⟨y, s, h0, h1, slC_apart (i0 := 0) (by decide) (fun x => ⟨x, rfl⟩) hX hc hV h2.e, slC_apart (i0 := 0) (by decide) (fun x => ⟨x, rfl⟩) hX hc hV h2.c, slC_apart (i0 := 1) (by decide) (fun x => ⟨x.2, rfl⟩) hX hc hV h2.g⟩
theorem noU_sk (x : Sk) (s : SS) {i : Nat} (u : Int) : (#[.int .i64 x.kind, .int .i64 x.level, .slice s.ea s.el s.ec, .int .i64 x.hb, .string x.hr, .int .i64 x.cr, .int .i64 x.cc, .slice s.ca s.cl s.cc, .int .i64 x.gf, .slice s.ga s.gl s.gc] : Array Value)[i]? ≠ some (.int .u64 u) := by
  intro h
  rcases i with _ | _ | _ | _ | _ | _ | _ | _ | _ | _ | i <;> simp at h
theorem noU_zero {i : Nat} (u : Int) : (#[.int .i64 0, .int .i64 0, .slice none 0 0, .int .i64 0, .string ⟨#[]⟩, .int .i64 0, .int .i64 0, .slice none 0 0, .int .i64 0, .slice none 0 0] : Array Value)[i]? ≠ some (.int .u64 u) := by
  intro h
  rcases i with _ | _ | _ | _ | _ | _ | _ | _ | _ | _ | i <;> simp at h
set_option maxRecDepth 100000 in
set_option maxHeartbeats 1000000 in
theorem told_nil (v : Value) (B : Bd) (kind level : Nat) (w : World) (hb : BdAt w v B) (hok : B.Ok kind level) :
    Calls Tryz.prog 40 #[.agg #[v, .int .i64 kind, .int .i64 level], .nilIface] w fun e w' => ∃ x, e = .returned (.tuple #[x, .int .i64 0]) ∧ SkB w' x kind level B ∧ Below w.heap.size w w' := by
  obtain ⟨T, rv, rfl⟩ := bd_iface hb
  obtain ⟨W0, hW0, hXp, hXr, hB0, hs0⟩ := boxes2 w #[.iface T rv, .int .i64 kind, .int .i64 level] 68 #[.int .i64 0, .int .i64 0, .slice none 0 0, .int .i64 0, .string ⟨#[]⟩, .int .i64 0, .int .i64 0, .slice none 0 0, .int .i64 0, .slice none 0 0] 36
  have c0 : W0.cell? ⟨w.heap.size, 0, none⟩ = some (.iface T rv) := cell_of_cells hXp 0
  have c1 : W0.cell? ⟨w.heap.size, 1, none⟩ = some (.int .i64 kind) := cell_of_cells hXp 1
  have c2 : W0.cell? ⟨w.heap.size, 2, none⟩ = some (.int .i64 level) := cell_of_cells hXp 2
  have HS := Lib.hid (sketch_sk (w := W0) hok (hb.go hB0))
  have HXR := Lib.hid hXr
  have HB0 := Lib.hid hB0
  clear hXp hXr hB0 hb hok
  go_enter Tryz.func40, Tryz.ntmps40
  go_wp2_with fail
  refine HS.out.mono ?_
  rintro e w1 ⟨x, rfl, ⟨y, s, hy, rfl, hA⟩, hb1⟩
  have hR1 := known hb1 (Nat.le_refl _) HXR.out
  have HY := Lib.hid hy
  clear hy
  have r0 : w1.cell? ⟨w.heap.size + 1, 0, none⟩ = some (.int .i64 0) := cell_of_cells hR1 0
  have r1 : w1.cell? ⟨w.heap.size + 1, 1, none⟩ = some (.int .i64 0) := cell_of_cells hR1 1
  have r2 : w1.cell? ⟨w.heap.size + 1, 2, none⟩ = some (.slice none 0 0) := cell_of_cells hR1 2
  have r3 : w1.cell? ⟨w.heap.size + 1, 3, none⟩ = some (.int .i64 0) := cell_of_cells hR1 3
  have r4 : w1.cell? ⟨w.heap.size + 1, 4, none⟩ = some (.string ⟨#[]⟩) := cell_of_cells hR1 4
  have r5 : w1.cell? ⟨w.heap.size + 1, 5, none⟩ = some (.int .i64 0) := cell_of_cells hR1 5
  have r6 : w1.cell? ⟨w.heap.size + 1, 6, none⟩ = some (.int .i64 0) := cell_of_cells hR1 6
  have r7 : w1.cell? ⟨w.heap.size + 1, 7, none⟩ = some (.slice none 0 0) := cell_of_cells hR1 7
  have r8 : w1.cell? ⟨w.heap.size + 1, 8, none⟩ = some (.int .i64 0) := cell_of_cells hR1 8
  have r9 : w1.cell? ⟨w.heap.size + 1, 9, none⟩ = some (.slice none 0 0) := cell_of_cells hR1 9
  have g0 : w1.frozen? ⟨w.heap.size + 1, 0, none⟩ = false := frozen_of_cells hR1 0
  have g1 : w1.frozen? ⟨w.heap.size + 1, 1, none⟩ = false := frozen_of_cells hR1 1
  have g2 : w1.frozen? ⟨w.heap.size + 1, 2, none⟩ = false := frozen_of_cells hR1 2
  have g3 : w1.frozen? ⟨w.heap.size + 1, 3, none⟩ = false := frozen_of_cells hR1 3
  have g4 : w1.frozen? ⟨w.heap.size + 1, 4, none⟩ = false := frozen_of_cells hR1 4
  have g5 : w1.frozen? ⟨w.heap.size + 1, 5, none⟩ = false := frozen_of_cells hR1 5
  have g6 : w1.frozen? ⟨w.heap.size + 1, 6, none⟩ = false := frozen_of_cells hR1 6
  have g7 : w1.frozen? ⟨w.heap.size + 1, 7, none⟩ = false := frozen_of_cells hR1 7
  have g8 : w1.frozen? ⟨w.heap.size + 1, 8, none⟩ = false := frozen_of_cells hR1 8
  have g9 : w1.frozen? ⟨w.heap.size + 1, 9, none⟩ = false := frozen_of_cells hR1 9
  obtain ⟨V, hV, hVX, hVO, hVB⟩ := store10 (.int .i64 y.kind) (.int .i64 y.level) (.slice s.ea s.el s.ec) (.int .i64 y.hb) (.string y.hr) (.int .i64 y.cr) (.int .i64 y.cc) (.slice s.ca s.cl s.cc) (.int .i64 y.gf) (.slice s.ga s.gl s.gc) hR1
  have HR1 := Lib.hid hR1
  have HV := Lib.hid (And.intro hVO hVB)
  have HA := Lib.hid hA
  have Hb1 := Lib.hid hb1
  have k0 : V.cell? ⟨w.heap.size + 1, 0, none⟩ = some (.int .i64 y.kind) := cell_of_cells hVX 0
  have k1 : V.cell? ⟨w.heap.size + 1, 1, none⟩ = some (.int .i64 y.level) := cell_of_cells hVX 1
  have k2 : V.cell? ⟨w.heap.size + 1, 2, none⟩ = some (.slice s.ea s.el s.ec) := cell_of_cells hVX 2
  have k3 : V.cell? ⟨w.heap.size + 1, 3, none⟩ = some (.int .i64 y.hb) := cell_of_cells hVX 3
  have k4 : V.cell? ⟨w.heap.size + 1, 4, none⟩ = some (.string y.hr) := cell_of_cells hVX 4
  have k5 : V.cell? ⟨w.heap.size + 1, 5, none⟩ = some (.int .i64 y.cr) := cell_of_cells hVX 5
  have k6 : V.cell? ⟨w.heap.size + 1, 6, none⟩ = some (.int .i64 y.cc) := cell_of_cells hVX 6
  have k7 : V.cell? ⟨w.heap.size + 1, 7, none⟩ = some (.slice s.ca s.cl s.cc) := cell_of_cells hVX 7
  have k8 : V.cell? ⟨w.heap.size + 1, 8, none⟩ = some (.int .i64 y.gf) := cell_of_cells hVX 8
  have k9 : V.cell? ⟨w.heap.size + 1, 9, none⟩ = some (.slice s.ga s.gl s.gc) := cell_of_cells hVX 9
  clear hR1 hVO hVB hA hb1 hVX
  go_wp2_with fail
  obtain ⟨hVO, hVB⟩ := HV.out
  have hS2 : SkB w1 (.agg #[.int .i64 y.kind, .int .i64 y.level, .slice s.ea s.el s.ec, .int .i64 y.hb, .string y.hr, .int .i64 y.cr, .int .i64 y.cc, .slice s.ca s.cl s.cc, .int .i64 y.gf, .slice s.ga s.gl s.gc]) kind level B := ⟨y, s, HY.out, rfl, HA.out⟩
  exact bodyPost_ret (v := .tuple #[.agg #[.int .i64 y.kind, .int .i64 y.level, .slice s.ea s.el s.ec, .int .i64 y.hb, .string y.hr, .int .i64 y.cr, .int .i64 y.cc, .slice s.ca s.cl s.cc, .int .i64 y.gf, .slice s.ga s.gl s.gc], .int .i64 0]) (by simp [results, Tryz.f40, go_sem, k0, k1, k2, k3, k4, k5, k6, k7, k8, k9]) rfl ⟨_, rfl, hS2.apart HR1.out (fun i u => noU_zero u) hVO, hVB _ _ (HB0.out.trans (Hb1.out.mono HB0.out.size)) (Nat.le_succ _)⟩
end Go.Proofs.YtmkefodaibmkhaaGreatDoor
namespace Go.Proofs.YtmkefodaibmkhaaGreatDoor
open Go Go.RowKit Go.Shelf

def bdCost : Bd → Nat
  | .num l => 8 * l.length
  | .reg _ r => r.length
  | .cnt _ l => 8 * l.length
  | .bkt _ l => 16 * l.length
def bdBins : Bd → Nat
  | .bkt _ l => l.length
  | _ => 0
theorem costOf_sk {B : Bd} {k L : Nat} (h : B.Ok k L) : costOf (skOf k L B) = (bdCost B : Int) + 16 := by
  unfold costOf
  rw [skOf_ok h, if_pos rfl]
  cases B with
  | num l =>
    obtain ⟨rfl, rfl, -⟩ := h
    show 8 * (l.length : Int) + 16 = ((8 * l.length : Nat) : Int) + 16
    omega
  | reg b r =>
    obtain ⟨rfl, h1, -⟩ := h
    have h0 : (((L : Nat) : Int) == 0) = false := by simp; omega
    show (if ((1 : Nat) : Int) == 1 then if (L : Int) == 0 then _ else ((hlStr r).size : Int) else _) + 16 = (r.length : Int) + 16
    rw [h0, hlStr_size]
    rfl
  | cnt c l =>
    obtain ⟨rfl, -⟩ := h
    show 8 * (l.length : Int) + 16 = ((8 * l.length : Nat) : Int) + 16
    omega
  | bkt f l =>
    obtain ⟨rfl, -⟩ := h
    show 16 * (l.length : Int) + 16 = ((16 * l.length : Nat) : Int) + 16
    omega
theorem low_less {B : Bd} {k L : Nat} (h : B.Ok k L) (hL : L < botN k) : (k = 2 → bdCost B.low < bdCost B) ∧ (k = 3 → bdCost B.low ≤ bdCost B) ∧ (k = 1 → L ≠ 0 → bdCost B.low < bdCost B) := by
  cases B with
  | num l =>
    obtain ⟨rfl, rfl, -⟩ := h
    exact ⟨fun e => by omega, fun e => by omega, fun _ e => absurd rfl e⟩
  | reg b r =>
    obtain ⟨rfl, h1, h2, h3, h4, -⟩ := h
    refine ⟨fun e => by omega, fun e => by omega, fun _ _ => ?_⟩
    show (hlLow b r).length < r.length
    rw [hlLow_len, h4]
    exact Nat.pow_lt_pow_right (by omega) (by omega)
  | cnt c l =>
    obtain ⟨rfl, h2, h3, h4, -⟩ := h
    have hL3 : L < 3 := hL
    have := cols_low h3 hL3
    refine ⟨fun _ => ?_, fun e => by omega, fun e => by omega⟩
    show 8 * (cmLow c l).length < 8 * l.length
    rw [cmLow_len, h4]
    omega
  | bkt f l =>
    obtain ⟨rfl, -⟩ := h
    refine ⟨fun e => by omega, fun _ => ?_, fun e => by omega⟩
    have := hiLow_len l
    show 16 * (hiLow l).length ≤ 16 * l.length
    omega
theorem cost_max {B : Bd} {k L : Nat} (h : B.Ok k L) (hb : bdBins B ≤ 100) : bdCost B ≤ 1600 := by
  cases B with
  | num l => have := h.2.2.2.1; show 8 * l.length ≤ 1600; omega
  | reg b r =>
    obtain ⟨-, h1, -, h3, h4, -⟩ := h
    show r.length ≤ 1600
    have : 2 ^ b ≤ 2 ^ 8 := Nat.pow_le_pow_right (by omega) (by omega)
    omega
  | cnt c l =>
    obtain ⟨-, h2, h3, h4, -⟩ := h
    have := cols_of h3 h2
    show 8 * l.length ≤ 1600
    omega
  | bkt f l => have : l.length ≤ 100 := hb; show 16 * l.length ≤ 1600; omega
theorem bins_low (B : Bd) : bdBins B.low ≤ bdBins B := by
  cases B with
  | bkt f l => exact hiLow_len l
  | num l => exact Nat.le_refl 0
  | reg b r => exact Nat.le_refl 0
  | cnt c l => exact Nat.le_refl 0
theorem bins_down : ∀ (n : Nat) (s : Nat × Bd), bdBins (wkDown n s).2 ≤ bdBins s.2
  | 0, _ => Nat.le_refl _
  | n + 1, s => Nat.le_trans (bins_down n (wkLow s)) (bins_low s.2)
theorem bins_to (s : Nat × Bd) (t : Nat) : bdBins (wkTo s t).2 ≤ bdBins s.2 := bins_down _ s
theorem bins_add (s : Nat × Bd) (i : Nat × Int) : bdBins (wkAdd s i).2 ≤ bdBins s.2 + 1 := by
  obtain ⟨L, B⟩ := s
  unfold wkAdd
  cases B with
  | num l =>
    show bdBins (match (exGather l [(i.1 : Int)]).map Bd.num with | some b => (L, b) | none => (L + 1, ((Bd.num l).low.add i.1 i.2).getD (Bd.num l).low)).2 ≤ 0 + 1
    cases exGather l [(i.1 : Int)] with
    | some m => exact Nat.zero_le _
    | none => exact Nat.zero_le _
  | reg b r => exact Nat.zero_le _
  | cnt c l => exact Nat.zero_le _
  | bkt f l => exact hiAdd_len f l i.1 i.2
theorem bins_sum : ∀ (l : List (Nat × Int)) (s : Nat × Bd), bdBins (l.foldl wkAdd s).2 ≤ bdBins s.2 + l.length
  | [], _ => Nat.le_refl _
  | i :: l, s => by
    have h1 := bins_sum l (wkAdd s i)
    have h2 := bins_add s i
    show bdBins (l.foldl wkAdd (wkAdd s i)).2 ≤ _
    simp only [List.length_cons]
    omega
theorem bins_new (k : Nat) : bdBins (bdNew k) = 0 := by
  unfold bdNew
  split
  · rfl
  · split <;> rfl
theorem sk_hr {B : Bd} {k L : Nat} (h : B.Ok k L) : (skOf k L B).hr.size < 2147483648 := by
  cases B with
  | num l => show 0 < _; omega
  | reg b r =>
    obtain ⟨-, h1, -, h3, h4, -⟩ := h
    show (hlStr r).size < _
    have : 2 ^ b ≤ 2 ^ 8 := Nat.pow_le_pow_right (by omega) (by omega)
    rw [hlStr_size]
    omega
  | cnt c l => show 0 < _; omega
  | bkt f l => show 0 < _; omega
theorem Cost_sk {B : Bd} {k L : Nat} {v : Value} {w : World} (h : B.Ok k L) (hv : SkB w v k L B) : Calls Tryz.prog 18 #[v] w fun e w' => e = .returned (.int .i64 ((bdCost B : Int) + 16)) ∧ Below w.heap.size w w' := by
  obtain ⟨y, s, rfl, rfl, hA⟩ := hv
  have h1 := ladder_Cost_any (skOf k L B) s w hA (at_short h hA) (skOf_fit h) (sk_hr h)
  rw [costOf_sk h] at h1
  exact h1
theorem Same_sk {B : Bd} {k L : Nat} {v v' : Value} {w : World} (hv : SkB w v k L B) (hv' : SkB w v' k L B) : Calls Tryz.prog 16 #[v, v'] w fun e w' => e = .returned (.bool true) ∧ Below w.heap.size w w' := by
  obtain ⟨y, s, rfl, rfl, hA⟩ := hv
  obtain ⟨y', t, rfl, rfl, hA'⟩ := hv'
  have h1 := ladder_Same_any (skOf k L B) (skOf k L B) s t w hA hA'
  rw [sk_same] at h1
  exact h1
end Go.Proofs.YtmkefodaibmkhaaGreatDoor

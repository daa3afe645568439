/- A region that draws its order and whose last operation stands behind all others. Of no program. aviarylaw10.Few. Package hist: done. Package ladder: the four bodies' add and lower; told. errors.As at a target of type **ladder.fault: lines of the worked example ToyasAs turned to this program; ladder.errno, isFull. What rows have in common: the program's closed facts, sketches and numbers opened, errors.errorType. Printed by gen_rz.py. strings.Builder: copyCheck, WriteString, WriteByte at this program (the library's copyCheck holds a branch that the loader refuses, so the shelf's contracts are not laid). Package label: quoted. Package label: Text. aviarylaw12: One: printed by wip/tools/gen_f8.py. Tables of series in memory. series.add. Series of Go's sizes; aviarylaw12.shown. Package ladder: stores into a box, kept bodies and sketches; lowered at the bottom; told. Laws of layer 10: items; New, whatever the kind. What rows have in common: items opened. Printed by gen_rz.py. The law of a range over a function whose iterator reads one block. Of no program. Frames of several blocks. Of no program. -/
import Derived.StillTactics
import Derived.Laws.Rows
import Derived.Lib.MinMax
import Derived.Shelf.SlSorted.Search
import Derived.ArgAppend
import Derived.Laws.CopyRow
import Derived.Laws.CopyOwn
import Derived.Laws.Tables
import Derived.Laws.BytesArg
import Derived.Lib.ConvBytes
import Derived.Maps.OwnOps
import Derived.Maps.Ext
import Derived.Shelf.SlIterI.Nil
import Derived.Ground.GgzProg
import Derived.LaidEql
import Derived.Stop.Asserts
import Derived.RowKitTokens
import Derived.Test.YtlmlcadcdhhlcaaGreatDoorCards
import Derived.Test.YtlmlcadcdhhlcaaGreatDoorTie
import Derived.LaidHandle
import Derived.Shelf.Vars
import Derived.ChangeMaps5
import Derived.Test.YtlmlcadcdhhlcaaGreatDoorZG2
set_option maxHeartbeats 4000000
set_option maxRecDepth 100000
namespace Go.Proofs.YtlmlcadcdhhlcaaGreatDoor
open Go Go.RowKit
section
section
variable {P:Program} {pre:Array Oper} {o:Oper} {Q:Exit->Act->World->Prop} {md:Region.Mode}
def jg5 (md:Region.Mode) (pre:Array Oper) (o:Oper):Bool :=
 o.guard.isNone&&pre.toList.all (·.guard.isNone) &&
 (List.range pre.size).all (fun j=>o.after.toList.any fun e=>Region.binds md e&&e.on==j) &&
 o.after.toList.all (fun e => !Region.binds md e||decide (e.on<pre.size)) &&
 (List.range pre.size).all (fun i=>((pre[i]?).map fun p=>p.after.toList.all fun e => !Region.binds md e||decide (e.on<i)).getD true)
def jg7 (P:Program) (o:Oper) (Q:Exit->Act->World->Prop):Exit->Act->World->Prop
 | .normal,a,w=>o.wp P a w (fun a' w'=>Q .normal a' w') Q
 | e,a,w=>Q e a w
theorem jhA {A:Oper} {a:Act} {w:World} {K:Act->World->Prop} (h:A.wp P a w K (jg7 P o Q)):A.wp P a w K Q:=by
 unfold Oper.wp at *;generalize (execOp a.eval A).run P w=r at *
 cases r with
 | ok n w' =>
  cases n<;>simp only[Oper.upon] at h ⊢ <;>
   first
    | exact h
    | exact Calls.mono h (fun e C B=>by cases e<;>first | exact B | exact (let ⟨a,w,hq⟩:=B;⟨a,w,hq⟩))
 | halt x w'=>cases x<;>simp only[Oper.upon] at h ⊢<;>exact h
theorem jaU {A:Array Oper} {L:Array Bool} {i:Nat}:i∈Region.ready md A L↔i<A.size/\L.getD i true=false/\∃ p,A[i]? = some p/\∀ e∈p.after,Region.binds md e=true->L.getD e.on false=true:=by
 unfold Region.ready;rw[List.mem_filter,List.mem_range];constructor
 ·rintro⟨C,D⟩
  rw[Bool.and_eq_true] at D;refine⟨C,by simpa using D.1,A[i],Array.getElem?_eq_getElem C,?_⟩;have B:=D.2;rw[Array.getElem?_eq_getElem C] at B;simp only[Option.map_some,Option.getD_some] at B;rw[Array.all_eq_true_iff_forall_mem] at B;intro e F E;have:=B e F;simpa [E] using this
 ·rintro⟨C,D,p,G,B⟩
  refine⟨C,?_⟩;rw[Bool.and_eq_true];refine⟨by simp[D],?_⟩;rw[G];simp only[Option.map_some,Option.getD_some];rw[Array.all_eq_true_iff_forall_mem];intro e F
  cases E:Region.binds md e
  ·rfl
  ·simpa using B e F E
structure jdI (md:Region.Mode) (pre:Array Oper) (o:Oper):Prop where
 go:o.guard=none
 gp:∀ (i:Nat) p,pre[i]? = some p->p.guard=none
 last:∀ j,j<pre.size->∃ e∈o.after,Region.binds md e=true/\e.on=j
 lt:∀ e∈o.after,Region.binds md e=true->e.on<pre.size
 lex:∀ (i:Nat) p,pre[i]? = some p->∀ e∈p.after,Region.binds md e=true->e.on<i
theorem jg6 (h:jg5 md pre o=true):jdI md pre o:=by
 simp only[jg5,Bool.and_eq_true,List.all_eq_true,List.any_eq_true,List.mem_range] at h;obtain⟨⟨⟨⟨D,E⟩,F⟩,G⟩,H⟩:=h;refine⟨by simpa using D,fun i p C=>?_,fun j J=>?_,fun e B A=>?_,fun i p C e B A=>?_⟩
 ·have:=E p (by rw[<- Array.getElem?_toList] at C;exact List.mem_of_getElem? C)
  simpa using this
 ·obtain⟨e,B,A,L⟩:=F j J
  exact⟨e,by simpa using B,A,by simpa using L⟩
 ·have:=G e (by simpa using B)
  simpa [A] using this
 ·have I:=(Array.getElem?_eq_some_iff.1 C).1
  have:=H i I;rw[C] at this;simp only[Option.map_some,Option.getD_some,List.all_eq_true] at this;have:=this e (by simpa using B);simpa [A] using this
theorem jbs (L:Array Bool) (n:Nat):(L.push false).getD n false=L.getD n false:=by
 simp only[Array.getD_eq_getD_getElem?,Array.getElem?_push];split
 ·rename_i h;subst h;simp
 ·rfl
theorem jgA {L:Array Bool} (E:jdI md pre o) (H:L.size=pre.size) (h:Region.ready md pre L=[]):∀ j,j<pre.size->L.getD j false=true:=by
 intro j
 induction j using Nat.strongRecOn with
 | ind j ih =>
  intro A
  cases G:L.getD j false with
  | true=>rfl
  | false =>
   exfalso
   have F:j∈Region.ready md pre L:=jaU.2 ⟨A,by
    have B:j<L.size:=by omega
    simp only[Array.getD_eq_getD_getElem?,Array.getElem?_eq_getElem B,Option.getD_some] at G ⊢;exact G,pre[j],Array.getElem?_eq_getElem A,fun e D C=>ih e.on (E.lex j _ (Array.getElem?_eq_getElem A) e D C) (by have:=E.lex j _ (Array.getElem?_eq_getElem A) e D C;omega)⟩
   rw[h] at F
   cases F
theorem jgB {L:Array Bool} (G:L.size=pre.size) {i:Nat} (h:i∈Region.ready md pre L):i∈Region.ready md (pre.push o) (L.push false):=by
 obtain⟨F,A,p,E,B⟩:=jaU.1 h;refine jaU.2 ⟨by simp;omega,?_,p,?_,fun e D C=>by rw[jbs];exact B e D C⟩
 ·have:i≠L.size:=by omega
  simpa [Array.getD_eq_getD_getElem?,Array.getElem?_push,this] using A
 ·rw[Array.getElem?_push,if_neg (by omega)];exact E
theorem je3 {L:Array Bool} (I:jdI md pre o) (M:L.size=pre.size) {i:Nat} (h:i∈Region.ready md (pre.push o) (L.push false)) :
  i∈Region.ready md pre L\/(i=pre.size/\∀ j,j<pre.size->L.getD j false=true):=by
 obtain⟨F,G,p,A,D⟩:=jaU.1 h;by_cases E:i=pre.size
 ·subst E
  rw[Array.getElem?_push_size] at A
  cases A
  refine .inr ⟨rfl,fun j H=>?_⟩;obtain⟨e,C,B,rfl⟩:=I.last j H;rw[<- jbs];exact D e C B
 ·have J:i<pre.size:=by simp at F;omega
  rw[Array.getElem?_push,if_neg E] at A;refine .inl (jaU.2 ⟨J,?_,p,A,fun e C B=>by rw[<- jbs];exact D e C B⟩);have:i≠L.size:=by omega
  simpa [Array.getD_eq_getD_getElem?,Array.getElem?_push,this] using G
theorem jeg {A:Array Oper} {L:Array Bool} (G:L.size=A.size) (h:∀ j,j<A.size->L.getD j false=true):Region.ready md A L=[]:=by
 rw[List.eq_nil_iff_forall_not_mem];intro i F;obtain⟨E,D,_⟩:=jaU.1 F;have B:=h i E;have C:i<L.size:=by omega
 simp only[Array.getD_eq_getD_getElem?,Array.getElem?_eq_getElem C,Option.getD_some] at D B;rw[D] at B
 cases B
theorem jcm {B:Array Oper} {L:Array Bool} {a:Act} {w:World} (h:Region.ready md B L=[]) (D:Q .normal a w):∀ A,wpAny P md B Q A L a w
 | 0=>⟨h,D⟩
 | _+1=>⟨fun _=>D,fun i C=>by rw[h] at C;cases C⟩
theorem jeu {K:Act->World->Prop} {a:Act} {w:World} (A:jdI md pre o) (hK:∀ a w,Q .normal a w->K a w) (h:jg7 P o Q .normal a w):wpOp P (pre.push o) Q pre.size K a w:=by
 unfold wpOp;rw[Array.getElem?_push_size];simp only[Region.wanted,A.go,if_true];exact .inl (Oper.wp_mono hK h)
theorem jfG (F:jdI md pre o) (C:Nat):∀ (L:Array Bool) (a:Act) (w:World),L.size=pre.size->wpAny P md pre (jg7 P o Q) C L a w->wpAny P md (pre.push o) Q (C+1) (L.push false) a w:=by
 have M:∀ L:Array Bool,L.size=pre.size->Region.ready md (pre.push o) (L.push false)≠[]:=fun L B G=>by
  cases U:Region.ready md pre L with
  | nil =>
   have A:=jgA F B U;have J:pre.size∈Region.ready md (pre.push o) (L.push false):=jaU.2 ⟨by simp,by simp[Array.getD_eq_getD_getElem?,<- B],o,Array.getElem?_push_size,fun e d c=>by rw[jbs];exact A _ (F.lt e d c)⟩;rw[G] at J;cases J
  | cons i r =>
   have J:=jgB (o:=o) B (show i∈Region.ready md pre L by rw[U];exact List.mem_cons_self ..);rw[G] at J;cases J
 have E:∀ (L:Array Bool),L.size=pre.size->(∀ j,j<pre.size->L.getD j false=true)->Region.ready md (pre.push o) ((L.push false).setIfInBounds pre.size true)=[]:=fun L B A=>by
  refine jeg (by simp[B]) (fun j f=>?_);simp only[Array.getD_eq_getD_getElem?,Array.getElem?_setIfInBounds,Array.size_push];by_cases I:pre.size=j
  ·rw[if_pos I,if_pos (by omega)];rfl
  ·rw[if_neg I]
   have:=A j (by simp at f;omega);rw[<- jbs,Array.getD_eq_getD_getElem?] at this;exact this
 induction C with
 | zero =>
  intro L a w B h;refine⟨fun G=>absurd G (M L B),fun i N=>?_⟩;rcases je3 F B N with H | ⟨rfl,A⟩
  ·rw[h.1] at H;cases H
  ·exact jeu F (fun a w S=>jcm (E L B A) S _) h.2
 | succ k ih =>
  intro L a w B h;refine⟨fun G=>absurd G (M L B),fun i N=>?_⟩;rcases je3 F B N with H | ⟨rfl,A⟩
  ·have D:=h.2 i H
   obtain⟨l,_,p,O,_⟩:=jaU.1 H;have R:(pre.push o)[i]? = some p:=by rw[Array.getElem?_push,if_neg (by omega)];exact O
   unfold wpOp at D ⊢;rw[O] at D;rw[R];simp only[Region.wanted,F.gp i p O,if_true] at D ⊢;rcases D with D | ⟨D,b,v,Y⟩
   ·refine .inl (Oper.wp_mono (fun V g X=>?_) (jhA D))
    have Z:=ih (L.setIfInBounds i true) V g (by simp[B]) X
    have e:(L.push false).setIfInBounds i true=(L.setIfInBounds i true).push false:=by
     apply Array.ext_getElem?;intro n;simp only[Array.getElem?_setIfInBounds,Array.getElem?_push,Array.size_push,Array.size_setIfInBounds];by_cases T:i=n
     ·subst T
      rw[if_pos rfl,if_pos (by omega),if_neg (by omega),if_pos rfl,if_pos (by omega)]
     ·simp[T]
    rw[e];exact Z
   ·exact .inr ⟨D,b,v,Y⟩
  ·refine jeu F (fun a w S=>jcm (E L B A) S _) (h.1 (jeg B A))
end
theorem jbK {P:Program} (A:World->Prop) {V:Nat} {Q:Exit->Act->World->Prop} {a:Act} {w:World} {l:List Oper} {o:Oper} (U:P.follows .mixedOrders=true) (O:Region.lexB .any l.toArray=true) (S:jg5 .any l.toArray o=true) (R:A w.drew)
  (h:wpQuiet P l.toArray (fun B=>∃ X:WIn A,B=X.world) (fun H=>∀ B,(∃ X:WIn A,B=X.world)->o.wp P H B (fun E G=>Q .normal E G) Q) l a):(Code.region V (l++[o]).toArray true).wp P Q a w:=by
 refine wp_region_any U ?_;have D:=O;simp only[Region.lexB,Bool.and_eq_true] at D;have L:=wpAnyQ_lex (C:=fun B=>∃ X:WIn A,B=X.world) (md:=.any) D.1 l 0 (Array.replicate l.toArray.size false) a (by simp) (by simpa using D.2) h;have M:=wpAny_of_quiet (Q':=jg7 P o Q) (fun H B F T=>T B F) _ _ _ w.drew ⟨⟨_,R⟩,rfl⟩ L;have N:=jfG (jg6 S) _ _ _ _ (by simp) M;have I:(l++[o]).toArray=l.toArray.push o:=by simp
 rw[I];have J:Array.replicate (l.toArray.push o).size false=(Array.replicate l.toArray.size false).push false:=by simp[Array.replicate_succ]
 rw[J];simpa using N
end
theorem jaB {P:Program} (A:World->Prop) {M:Nat} {Q:Exit->Act->World->Prop} {a:Act} {w:World} {L l:List Oper} {o:Oper} (I:L=l++[o]) (J:P.follows .mixedOrders=true) (F:Region.lexB .any l.toArray=true) (H:jg5 .any l.toArray o=true) (G:A w.drew)
  (h:wpQuiet P l.toArray (fun B=>∃ X:WIn A,B=X.world) (fun E=>∀ B,(∃ X:WIn A,B=X.world)->o.wp P E B (fun C D=>Q .normal C D) Q) l a):(Code.region M L.toArray true).wp P Q a w:=by
 subst I;exact jbK A J F H G h
section
open Go.Shelf Go.Maps Go.Sort
abbrev jct:Int->List Value:=fun x=>[encZ x]
attribute [-go_sem] Builtin.append_
end
section
open Go.Shelf
def FaultAt (W:World) (v:Value) (no:Int):Prop:=∃ b,v=.iface 355 (.pointer (some ⟨b,0,none⟩))/\W.heap[b]? = some (.cells #[.int .i64 no] 357 (0,0))
-- METHODS
end
section
open Go.Extern.Stop Go.Stop Go.Extern
theorem jfS (t:Value) (w:World) :
  Calls Tryz.prog 83 #[.nilIface,t] w fun e A=>e=.returned (.bool false)/\A=w:=by
 go_enter Tryz.func83,Tryz.ntmps83;go_wp2;go_ret;exact⟨rfl,rfl⟩
theorem jbp (t:Addr) (w:World):(ReflectliteValue.unpack (.iface 472 (.pointer (some t)))).run Tryz.prog w
  = .ok (.agg #[.pointer (some ⟨6,472,none⟩),.pointer (some ⟨w.heap.size,0,none⟩),.int .u64 150]) (w.alloc (.cells #[.pointer (some t)] 472)):=by kernel_rfl
theorem jcJ (a : Addr) (w : World) : (ReflectliteValue.methodAny (ReflectliteValue.valueError "reflectlite.Value.Type" 0) (fun t _ _ _ => ReflectliteType.toType t) #[.agg #[.pointer (some ⟨6, 472, none⟩), .pointer (some a), .int .u64 150]]).run Tryz.prog w
  = .ok (.iface 277 (.agg #[.pointer (some ⟨6,472,none⟩)])) w:=by kernel_rfl
theorem jbg (h : Value) (w : World) : (Go.method 738 277 (.agg #[h]) "Kind").run Tryz.prog w = .ok (325, h) w := by kernel_rfl
theorem jcI (w:World):((ReflectliteType.abiMethod fun t=>(fun a:Nat=>Value.int IntKind.u8 (a:Int)) <$> Rtype.kind t) #[.pointer (some ⟨6,472,none⟩)]).run Tryz.prog w=.ok (.int .u8 22) w:=by kernel_rfl
theorem jcH (w:World):((ReflectliteType.abiMethod fun t=>(fun a:Nat=>Value.int IntKind.u8 (a:Int)) <$> Rtype.kind t) #[.pointer (some ⟨6,355,none⟩)]).run Tryz.prog w=.ok (.int .u8 22) w:=by kernel_rfl
theorem rlm (z:Sem Value) (f:TypeId->Addr->Nat->Nat->Sem Value) (v:Value) :
  ReflectliteValue.method z f #[v]=(do match <- ReflectliteValue.parts v with | none=>z | some (t,a,fl)=>f t a fl (fl % 32)):=rfl
theorem jbb (a:Addr) (w:World):(ReflectliteValue.parts (.agg #[.pointer (some ⟨6,472,none⟩),.pointer (some a),.int .u64 150])).run Tryz.prog w=.ok (some (472,a,150)) w:=by kernel_rfl
theorem jb5 (a p:Addr) (W:World) (ha:W.cell? a=some (.pointer (some p))) :
  (ReflectliteValue.method (ReflectliteValue.valueError "reflectlite.Value.IsNil" 0) ReflectliteValue.isNil #[.agg #[.pointer (some ⟨6, 472, none⟩), .pointer (some a), .int .u64 150]]).run Tryz.prog W = .ok (.bool false) W := by
 rw[rlm];simp only[Sem.run_bind,jbb,Result.andThen];simp[ReflectliteValue.isNil,loadVar,isAgg,underlying,Tryz.underlying472,ha,Result.andThen]
theorem jbf (h : Value) (w : World) : (Go.method 738 277 (.agg #[h]) "Elem").run Tryz.prog w = .ok (341, .agg #[h]) w := by kernel_rfl
theorem jaI (h : Value) (w : World) : (Go.method 738 277 (.agg #[h]) "Implements").run Tryz.prog w = .ok (342, .agg #[h]) w := by kernel_rfl
theorem jaE (h : Value) (w : World) : (Go.method 738 277 (.agg #[h]) "AssignableTo").run Tryz.prog w = .ok (339, .agg #[h]) w := by kernel_rfl
theorem jcG (w:World):(ReflectliteType.method ReflectliteType.elem #[.agg #[.pointer (some ⟨6,472,none⟩)]]).run Tryz.prog w=.ok (.iface 277 (.agg #[.pointer (some ⟨6,355,none⟩)])) w:=by kernel_rfl
theorem ja0 (w : World) : (ReflectliteType.relation "Implements" ReflectliteType.implements_ #[.agg #[.pointer (some ⟨6, 355, none⟩)], .iface 277 (.agg #[.pointer (some ⟨6, 88, none⟩)])]).run Tryz.prog w = .ok (.bool true) w := by kernel_rfl
theorem jbR (v:Value) (w:World):(ReflectliteType.typeOf #[.iface 355 v]).run Tryz.prog w=.ok (.iface 277 (.agg #[.pointer (some ⟨6,355,none⟩)])) w:=by kernel_rfl
theorem jaZ (w : World) : (ReflectliteType.relation "AssignableTo" ReflectliteType.assignableTo #[.agg #[.pointer (some ⟨6, 355, none⟩)], .iface 277 (.agg #[.pointer (some ⟨6, 355, none⟩)])]).run Tryz.prog w = .ok (.bool true) w := by kernel_rfl
theorem jbo (e:Addr) (w:World):(ReflectliteValue.unpack (.iface 355 (.pointer (some e)))).run Tryz.prog w
  = .ok (.agg #[.pointer (some ⟨6,355,none⟩),.pointer (some ⟨w.heap.size,0,none⟩),.int .u64 150]) (w.alloc (.cells #[.pointer (some e)] 355)):=by kernel_rfl
theorem jbP (w:World):(Rtype.elem? 472).run Tryz.prog w=.ok (some 355) w:=by kernel_rfl
theorem jez (p:Addr) (w:World):(ReflectliteValue.mk 355 p ReflectliteValue.flagAddr).run Tryz.prog w=.ok (.agg #[.pointer (some ⟨6,355,none⟩),.pointer (some p),.int .u64 406]) w:=by kernel_rfl
theorem jb4 (a p:Addr) (W:World) (ha:W.cell? a=some (.pointer (some p))) :
  (ReflectliteValue.method (ReflectliteValue.valueError "reflectlite.Value.Elem" 0) ReflectliteValue.elem #[.agg #[.pointer (some ⟨6, 472, none⟩), .pointer (some a), .int .u64 150]]).run Tryz.prog W
   = .ok (.agg #[.pointer (some ⟨6,355,none⟩),.pointer (some p),.int .u64 406]) W:=by
 rw[rlm];simp only[Sem.run_bind,jbb,Result.andThen];simp[ReflectliteValue.elem,loadVar,isAgg,underlying,Tryz.underlying472,ha,Result.andThen,jbP,jez]
theorem rls (v x:Value):ReflectliteValue.set #[v,x]=(do
  let (some (dst,a,fl),some (src,b,_)):=(<- ReflectliteValue.parts v,<- ReflectliteValue.parts x)
   | unsupported (.noEntry "extern/(internal/reflectlite.Value).Set.zeroValue")
  if fl / ReflectliteValue.flagAddr % 2 == 0 then unsupported (.noEntry "extern/(internal/reflectlite.Value).Set.unaddressable")
  let val <- loadVar src b;if <- Rtype.directlyAssignable dst src then storeVar dst a val
  else if <- Rtype.implements dst src then
   if (<- Rtype.kind src)==20 then
    match val with
    | .nilIface => unsupported (.noEntry "extern/reflectlite: a nil value of one interface type handed on as a value of another")
    | _=>storeVar dst a val
   else storeVar dst a (.iface src val)
  else panicString ("reflectlite.Set: value of type " ++ (<- Rtype.spelt src) ++ " is not assignable to type " ++ (<- Rtype.spelt dst))
  pure (.tuple #[])):=rfl
theorem jbQ (a:Addr) (w:World):(ReflectliteValue.parts (.agg #[.pointer (some ⟨6,355,none⟩),.pointer (some a),.int .u64 406])).run Tryz.prog w=.ok (some (355,a,406)) w:=by kernel_rfl
theorem jb6 (a:Addr) (w:World):(ReflectliteValue.parts (.agg #[.pointer (some ⟨6,355,none⟩),.pointer (some a),.int .u64 150])).run Tryz.prog w=.ok (some (355,a,150)) w:=by kernel_rfl
theorem jbO (w:World):(Rtype.directlyAssignable 355 355).run Tryz.prog w=.ok true w:=by kernel_rfl
theorem jdh (ta b e:Addr) (A:Value) (W:World) (B:W.cell? b=some (.pointer (some e))) (ht:W.cell? ta=some A) (C:W.frozen? ta=false) :
  (ReflectliteValue.set #[.agg #[.pointer (some ⟨6,355,none⟩),.pointer (some ta),.int .u64 406],.agg #[.pointer (some ⟨6,355,none⟩),.pointer (some b),.int .u64 150]]).run Tryz.prog W
   = .ok (.tuple #[]) (W.setCell ta (.pointer (some e))):=by
 rw[rls];simp only[Sem.run_bind,jbQ,jb6,Result.andThen];simp[ReflectliteValue.flagAddr,loadVar,isAgg,underlying,Tryz.underlying355,B,Result.andThen,jbO,storeVar,Value.cells,storeCells,Addr.add];rw[run_store Tryz.prog W ta _ _ (by rfl)];simp[ht,C]
theorem jfR (e t:Addr) (C:Value) (w:World) (F:w.cell? ⟨0,0,none⟩=some (.iface 277 (.agg #[.pointer (some ⟨6,88,none⟩)]))) (A:w.cell? t=some C) (D:w.frozen? t=false) :
  Calls Tryz.prog 83 #[.iface 355 (.pointer (some e)),.iface 472 (.pointer (some t))] w fun I X=>I=.returned (.bool true)/\X=((((w.alloc (.cells #[.pointer (some t)] 472)).alloc (.cells #[.pointer (some ⟨6,472,none⟩),.pointer (some ⟨w.heap.size,0,none⟩),.int .u64 150] 222)).alloc (.cells #[.pointer (some ⟨6,472,none⟩),.pointer (some ⟨w.heap.size,0,none⟩),.int .u64 150] 222)).alloc (.cells #[.pointer (some e)] 355)).setCell t (.pointer (some e)):=by
 have b:=@run_callFunc_extern Tryz.prog 103 _ (fun args=>ReflectliteValue.unpack (args.getD 0 (.tuple #[]))) Tryz.func103 (by kernel_rfl) (by kernel_rfl) (by kernel_rfl) (by kernel_rfl);have c := @run_callFunc_extern Tryz.prog 104 _ (ReflectliteValue.methodAny (ReflectliteValue.valueError "reflectlite.Value.Type" 0) (fun t _ _ _ => ReflectliteType.toType t)) Tryz.func104 (by kernel_rfl) (by kernel_rfl) (by kernel_rfl) (by kernel_rfl);have d := @run_callFunc_extern Tryz.prog 105 _ (ReflectliteValue.method (ReflectliteValue.valueError "reflectlite.Value.IsNil" 0) ReflectliteValue.isNil) Tryz.func105 (by kernel_rfl) (by kernel_rfl) (by kernel_rfl) (by kernel_rfl);have N:=@run_callFunc_extern Tryz.prog 325 _ (ReflectliteType.abiMethod fun t=>do pure (.int .u8 (<- Rtype.kind t))) Tryz.func325 (by kernel_rfl) (by kernel_rfl) (by kernel_rfl) (by kernel_rfl);have P:=@run_callFunc_extern Tryz.prog 341 _ (ReflectliteType.method ReflectliteType.elem) Tryz.func341 (by kernel_rfl) (by kernel_rfl) (by kernel_rfl) (by kernel_rfl);have Q := @run_callFunc_extern Tryz.prog 342 _ (ReflectliteType.relation "Implements" ReflectliteType.implements_) Tryz.func342 (by kernel_rfl) (by kernel_rfl) (by kernel_rfl) (by kernel_rfl);have J:=@run_callFunc_extern Tryz.prog 128 _ ReflectliteType.typeOf Tryz.func128 (by kernel_rfl) (by kernel_rfl) (by kernel_rfl) (by kernel_rfl)
 have O := @run_callFunc_extern Tryz.prog 339 _ (ReflectliteType.relation "AssignableTo" ReflectliteType.assignableTo) Tryz.func339 (by kernel_rfl) (by kernel_rfl) (by kernel_rfl) (by kernel_rfl);have L := @run_callFunc_extern Tryz.prog 129 _ (ReflectliteValue.method (ReflectliteValue.valueError "reflectlite.Value.Elem" 0) ReflectliteValue.elem) Tryz.func129 (by kernel_rfl) (by kernel_rfl) (by kernel_rfl) (by kernel_rfl);have M:=@run_callFunc_extern Tryz.prog 130 _ ReflectliteValue.set Tryz.func130 (by kernel_rfl) (by kernel_rfl) (by kernel_rfl) (by kernel_rfl);have m:=jbR;have f:=jaE;have G:=jaZ;have V:=jbo;have Z:=jbp;have a:=jcJ;have j:=jbg;have g:=jbf;have i:=jaI;have U:=jcI;have T:=jcH;have H:=jcG;have S:=ja0;have k:=jb5 ⟨w.heap.size,0,none⟩ t ((w.alloc (.cells #[.pointer (some t)] 472)).alloc (.cells #[.pointer (some ⟨6,472,none⟩),.pointer (some ⟨w.heap.size,0,none⟩),.int .u64 150] 222)) (by simp);have E:0<w.heap.size:=World.block_lt_of_cell? w _ F
 have R:((w.alloc (.cells #[.pointer (some t)] 472)).alloc (.cells #[.pointer (some ⟨6,472,none⟩),.pointer (some ⟨w.heap.size,0,none⟩),.int .u64 150] 222)).cell? ⟨0,0,none⟩=some (.iface 277 (.agg #[.pointer (some ⟨6,88,none⟩)])):=by
  rw[World.cell?_alloc_lt _ _ ⟨0,0,none⟩ (by simp<;>omega),World.cell?_alloc_lt _ _ ⟨0,0,none⟩ E];exact F
 have B:t.block<w.heap.size:=by
  rcases Nat.lt_or_ge t.block w.heap.size with h | h
  ·exact h
  ·simp[World.cell?,Array.getElem?_eq_none h] at A
 have Y:=jb4 ⟨w.heap.size,0,none⟩ t (((w.alloc (.cells #[.pointer (some t)] 472)).alloc (.cells #[.pointer (some ⟨6,472,none⟩),.pointer (some ⟨w.heap.size,0,none⟩),.int .u64 150] 222)).alloc (.cells #[.pointer (some ⟨6,472,none⟩),.pointer (some ⟨w.heap.size,0,none⟩),.int .u64 150] 222)) (by rw[World.cell?_alloc_lt _ _ ⟨w.heap.size,0,none⟩ (by simp;omega)];simp)
 have l:=jdh t ⟨w.heap.size+1+1+1,0,none⟩ e C ((((w.alloc (.cells #[.pointer (some t)] 472)).alloc (.cells #[.pointer (some ⟨6,472,none⟩),.pointer (some ⟨w.heap.size,0,none⟩),.int .u64 150] 222)).alloc (.cells #[.pointer (some ⟨6,472,none⟩),.pointer (some ⟨w.heap.size,0,none⟩),.int .u64 150] 222)).alloc (.cells #[.pointer (some e)] 355))
  (by rw[World.cell?_alloc_at _ _ _ _ (by simp)];rfl)
  (by rw[World.cell?_alloc_lt _ _ t (by simp;omega),World.cell?_alloc_lt _ _ t (by simp;omega),World.cell?_alloc_lt _ _ t (by simp;omega),World.cell?_alloc_lt _ _ t B];exact A)
  (by rw[World.frozen?_alloc_old _ _ t (by simp;omega),World.frozen?_alloc_old _ _ t (by simp;omega),World.frozen?_alloc_old _ _ t (by simp;omega),World.frozen?_alloc_old _ _ t (Nat.ne_of_lt B)];exact D)
 go_enter Tryz.func83,Tryz.ntmps83;go_wp2;refine wp_loop_rounds 1 ?_;rw[rounds_succ];go_wp2;go_ret;exact⟨rfl,rfl⟩
def GT (w:World):Prop:=w.cell? ⟨0,0,none⟩=some (.iface 277 (.agg #[.pointer (some ⟨6,88,none⟩)]))
theorem GT.lt {w:World} (h:GT w):0<w.heap.size:=World.block_lt_of_cell? w _ h
theorem GT.go {w A:World} (h:GT w) (B:Bw w A):GT A:=(B.cell (p:=⟨0,0,none⟩) h.lt).trans h
theorem errno_nil (w:World):CR 218 #[.nilIface] w (.int .i64 0):=by
 have A:=fun t=>jfS t (w.alloc (.cells #[.pointer none] 355))
 go_enter Tryz.func218,Tryz.ntmps218;go_wp2_with fail;refine (A _).mono ?_;rintro e B ⟨rfl,rfl⟩;go_wp2_with fail;go_ret;exact⟨rfl,(Below.refl _ w).alloc (Nat.le_refl _) _⟩
theorem errno_fault (v:Value) (R:Int) (w:World) (S:GT w) (V:FaultAt w v R):CR 218 #[v] w (.int .i64 R):=by
 obtain⟨b,rfl,Q⟩:=V;obtain⟨I,T,C,A,X⟩:=jab w #[.pointer none] 355;have P:=jfR ⟨b,0,none⟩ ⟨w.heap.size,0,none⟩ (.pointer none) I (S.go A) (cCc C 0) (cFz C 0);obtain⟨D,F⟩:∃ D,(((I.alloc (.cells #[.pointer (some ⟨w.heap.size,0,none⟩)] 472)).alloc (.cells #[.pointer (some ⟨6,472,none⟩),.pointer (some ⟨I.heap.size,0,none⟩),.int .u64 150] 222)).alloc (.cells #[.pointer (some ⟨6,472,none⟩),.pointer (some ⟨I.heap.size,0,none⟩),.int .u64 150] 222)).alloc (.cells #[.pointer (some ⟨b,0,none⟩)] 355)=D:=⟨_,rfl⟩
 have B:Bw I D:=by
  rw[<- F];exact ((((Below.refl _ I).alloc (Nat.le_refl _) _).alloc (by simp<;>omega) _).alloc (by simp<;>omega) _).alloc (by simp<;>omega) _
 rw[F] at P;have L:=known B (Nat.le_refl _) C;have U:=(Array.getElem?_eq_some_iff.1 Q).1;have M:=known (A.trans (B.mono A.size)) (Nat.le_refl _) Q;have G:(D.setCell ⟨w.heap.size,0,none⟩ (.pointer (some ⟨b,0,none⟩))).heap[w.heap.size]? = some (.cells #[.pointer (some ⟨b,0,none⟩)] 355 (0,0)):=hSk L _;have H:=(jay (W:=D) (p:=⟨w.heap.size,0,none⟩) (b:=b) (by show w.heap.size≠b;omega) (.pointer (some ⟨b,0,none⟩))).trans M;have E:Bw w (D.setCell ⟨w.heap.size,0,none⟩ (.pointer (some ⟨b,0,none⟩))):=(A.trans (B.mono A.size)).setCell (p:=⟨w.heap.size,0,none⟩) (Nat.le_refl _) _;obtain⟨N,J⟩:∃ N,D.setCell ⟨w.heap.size,0,none⟩ (.pointer (some ⟨b,0,none⟩))=N:=⟨_,rfl⟩;rw[J] at P G H E;have Y:N.cell? ⟨w.heap.size,0,none⟩=some (.pointer (some ⟨b,0,none⟩)):=cCc G 0;have Z:N.cell? ⟨b,0,none⟩=some (.int .i64 R):=cCc H 0;have O:=Lib.hid E;clear S Q C A F B L M G H E J;go_enter Tryz.func218,Tryz.ntmps218;go_wp2_with fail;refine P.mono ?_;rintro e a ⟨rfl,rfl⟩;go_wp2_with fail;go_ret;exact⟨rfl,O.out⟩
end
section
open Go.ChangeShapes Go.WideShapes Go.ChangeAt Go.Lib Go.Deep Go.Shelf
theorem own:ownKnob Tryz.prog.godebug=none:=by kernel_rfl
theorem jhW:laidOutB Tryz.prog=true:=by kernel_rfl
theorem jie:Tryz.prog.underlying 4=some .bool:=by kernel_rfl
theorem jbw:Tryz.prog.underlying 22=some (.int .u64):=by kernel_rfl
theorem jeo:Tryz.prog.underlying 9=some .string:=by kernel_rfl
theorem jgP:Tryz.prog.underlying 3=some (.int .i64):=by kernel_rfl
theorem jbN {a b:Bool} (ha:a=true) (A:b=true):(a&&b)=true:=by rw[ha,A];rfl
theorem jiE:mapsRowed Tryz.pinned.checked.prog=true:=by kernel_rfl
theorem ji2:laidOutB Tryz.pinned.checked.prog=true:=by kernel_rfl
theorem jh5:(Tryz.pinned.checked.prog.stops==[])=true:=by kernel_rfl
theorem jh4:(Tryz.pinned.checked.prog.stopKnobs==[])=true:=by kernel_rfl
theorem jh3:Tryz.pinned.checked.prog.stopsHeard=true:=by kernel_rfl
theorem jh2:Tryz.pinned.checked.prog.mayEnter=true:=by kernel_rfl
theorem jiB:(Rows.wireNoneRow.plainKeys==Tryz.pinned.checked.prog.plainKeys)=true:=by kernel_rfl
theorem jiC:(Rows.wireNoneRow.lifted==Tryz.pinned.checked.prog.liftsFinal)=true:=by kernel_rfl
theorem jiD:(Tryz.pinned.checked.prog.make==some Rows.wireNoneRow.make)=true:=by kernel_rfl
theorem gET : Tryz.prog.globalNamed "errors.errorType" = some 0 := by kernel_rfl
theorem rtCut : (Tryz.prog.cutTypes.find? (·.1 == "internal/reflectlite.rtype")).map (·.2) = some 277 := by kernel_rfl
theorem jiA:((List.range 638).filter fun t=>Tryz.prog.rowNamed t [101,114,114,111,114])=[88]:=by kernel_rfl
theorem jgM:Tryz.prog.types.size=638:=by kernel_rfl
theorem jiU {W : World} (h : handlesMet Tryz.prog [("errors.errorType", Rows.laid_errors_errorType)] W) : GT W := by
 obtain⟨A,u,L,E,F,G,H,B⟩:=h _ (List.mem_singleton.2 rfl);have I:A=[101,114,114,111,114]:=(Option.some.inj E).symm;subst I;obtain rfl:=Option.some.inj (rtCut.symm.trans F);have D:L∈(List.range 638).filter fun t=>Tryz.prog.rowNamed t [101,114,114,111,114]:=List.mem_filter.2 ⟨List.mem_range.2 (by rw[<- jgM];exact G),H⟩
 rw[jiA] at D;obtain rfl:=List.mem_singleton.1 D;have J:typeHandle Tryz.prog 88=.pointer (some ⟨6,88,none⟩):=by kernel_rfl
 rw[J] at B;have C:=World.var?_cell gET B 0;simp at C;exact C
theorem jic {W:World} (B:W.ShapedOpen Tryz.prog):6<=W.heap.size:=by
 have A:(((begin Tryz.prog (fun _ _=>0) default).world.heap[6-1]?).bind Obj.row?).isSome=true:=by kernel_rfl
 obtain⟨⟨zero,t⟩,A⟩:=Option.isSome_iff_exists.1 A;obtain⟨D,C,-⟩:=B.1 (6-1) zero t (of_decide_eq_true (by kernel_rfl)) A;have:=(Array.getElem?_eq_some_iff.1 C).1;omega
section
variable {H:Type} {enc:TypeId × Value->H} {w:World} {base:Nat} {held:Bool}
theorem SlC.map {α β:Type} {encA:β->List Value} {k n:Nat} {a:Option Addr} {len cap:Nat} {f:α->β} {l:List α} (h:SlC (fun x=>encA (f x)) k n w a len cap l):SlC encA k n w a len cap (l.map f) :=
 ⟨⟨by rw[List.length_map];exact h.1.1,fun j x A=>by rw[List.getElem?_map] at A;obtain⟨y,B,rfl⟩:=Option.map_eq_some_iff.1 A;exact h.1.2 j y B⟩,h.2⟩
theorem jcz {P:Program} {α:Type} {t e:TypeId} {k:Nat} {encA:α->List Value} {Q:α->Prop} (N:0<k) (ht:P.underlying t=some (.slice e)) (M:P.cellsOf e=k)
  (E:∀ n C x,DataW.trod enc P w base (fun _=>true) held n e C=some x->∃ y,C=encA y/\Q y) {A:Nat} {v:Value} {x:DataW H × List MemPlace}
  (h:DataW.trod enc P w base (fun _=>true) held A t [v]=some x):∃ a len cap l,v=.slice a len cap/\SlC encA k w.heap.size w a len cap l/\∀ y∈l,Q y:=by
 obtain⟨a,len,cap,rfl⟩:∃ a len cap,v=.slice a len cap:=by
  rcases open_slice ht h with⟨G,_⟩ | ⟨U,I,F,m,n,D,T,B,-⟩
  ·simp only[List.cons.injEq,and_true] at G;exact⟨_,_,_,G⟩
  ·simp only[List.cons.injEq,and_true] at B;exact⟨_,_,_,B⟩
 obtain⟨l,O⟩:=jeQ (encA:=fun y : { y // Q y }=>encA y.1) N ht M (fun n C x R=>by obtain⟨y,J,L⟩:=E n C x R;exact⟨⟨y,L⟩,J⟩) h;refine⟨a,len,cap,l.map (·.1),rfl,O.map,fun y S=>?_⟩;obtain⟨z,_,rfl⟩:=List.mem_map.1 S;exact z.2
theorem jbx {n:Int} (w0:(Lit.int .u64 n).wf=true):U64 n:=by
 simp only[Lit.wf,IntKind.min,IntKind.max,IntKind.signed,IntKind.bits,Bool.and_eq_true] at w0;exact⟨by simpa using w0.1,by have:=w0.2;simp at this;omega⟩
theorem jhb {t:TypeId} {r:Reach} {A:Nat} {v:Value} {d:DataW H} {p:List MemPlace} (ht:Tryz.prog.underlying t=some .string) (B:Value.okWide Tryz.prog w r A t v) (_h:DataW.Trod enc Tryz.prog w base (fun _=>true) held t v d p):∃ s:ByteArray,v=.string s/\True:=by
 obtain⟨s,rfl⟩:=okWide_string ht B;exact⟨s,rfl,trivial⟩
end
def eT : String × DataW Unit := ("errors.errorType", Rows.laid_errors_errorType)
def jhw:Obj->Obj
 | .cells _ t frozen=>.cells #[.iface 277 (.agg #[.pointer (some ⟨6,88,none⟩)])] t frozen
 | o=>o
end
theorem jde:Tryz.prog.underlying 83=some (.pointer 86):=by kernel_rfl
theorem je6:Tryz.prog.underlying 191=some .unsafePointer:=by kernel_rfl
theorem je4:(Tryz.prog.info? 86).map (·.size)=some 2:=by kernel_rfl
theorem jix:liesAt Tryz.prog Tryz.prog.depth 86 (2 / Tryz.prog.cellsOf 86) 0 86 1=true:=by kernel_rfl
theorem jal:(Tryz.prog.info? 5).map (fun i=>(i.zero,i.size,i.bytes))=some (some (.int .u8 0),1,1):=by kernel_rfl
theorem jak:Tryz.prog.underlying 84=some (.slice 5):=by kernel_rfl
theorem jcM (b:Nat) (w:World) (F:w.cell? ⟨b,0,none⟩=some (.pointer none)) (A:w.shape? b=some (86,2)) (D:w.frozen? ⟨b,0,none⟩=false) :
  Calls Tryz.prog 60 #[.pointer (some ⟨b,0,none⟩)] w fun e E=>e=.returned (.tuple #[])/\E=w.setCell ⟨b,0,none⟩ (.pointer (some ⟨b,0,none⟩)):=by
 obtain⟨j,C,B⟩:=Option.map_eq_some_iff.1 je4;go_enter Tryz.func60,Tryz.ntmps60;go_wp2;rw[Lib.run_to_unsafe w ⟨b,0,none⟩ jde je6 C (by rw[B];decide) A (Nat.zero_lt_succ 1)];simp only[Result.andThen];rw[Oper.upon_value];go_wp2;rw[run_callFunc_extern Tryz.func85 (by kernel_rfl) (by kernel_rfl) (by kernel_rfl) (e:=Extern.AbiNoEscape.same) (by kernel_rfl)];rw[Lib.run_noEscape];simp only[Result.andThen];rw[Oper.upon_value];go_wp2;rw[Lib.run_from_unsafe w ⟨b,0,none⟩ je6 jde C A jix];simp only[Result.andThen];rw[Oper.upon_value];go_wp2;go_end0;exact⟨rfl,rfl⟩
theorem jc0 (b:Nat) (w:World) (D:w.cell? ⟨b,0,none⟩=some (.pointer (some ⟨b,0,none⟩))) :
  Calls Tryz.prog 60 #[.pointer (some ⟨b,0,none⟩)] w fun e C=>e=.returned (.tuple #[])/\C=w:=by
 obtain⟨j,A,B⟩:=Option.map_eq_some_iff.1 je4;have E:=Lib.run_neq_ptr_same (P:=Tryz.prog) w ⟨b,0,none⟩ jde A;go_enter Tryz.func60,Tryz.ntmps60;go_wp2;go_end0;exact⟨rfl,rfl⟩
theorem jdi (B b:Nat) (C:List Value) (w:World) (h:Lib.IsBuilderF 86 5 B b C w) :
  Calls Tryz.prog 60 #[.pointer (some ⟨b,0,none⟩)] w fun e A=>e=.returned (.tuple #[])/\(Lib.BuilderAtF 86 5 B b (.pointer (some ⟨b,0,none⟩)) C A/\Below B w A/\Lib.OthersKept 5 (some b) w A):=by
 rcases h with h | h
 ·refine (jcM b w h.cell0 h.shape h.frozen0).mono ?_
  rintro e A ⟨rfl,rfl⟩;exact⟨rfl,h.used _,(Below.refl B w).setCell (p:=⟨b,0,none⟩) h.1 _,(Lib.OthersKept.refl _ _ w).setCell ⟨b,0,none⟩ rfl _⟩
 ·refine (jc0 b w h.cell0).mono ?_
  rintro e A ⟨rfl,rfl⟩;exact⟨rfl,h,Below.refl B _,Lib.OthersKept.refl _ _ _⟩
theorem jbn (B b:Nat) (H:List Value) (s:ByteArray) (w:World) (h:Lib.IsBuilderF 86 5 B b H w) (X:H.length+s.size<=140737488355328) (c:B<=w.heap.size) :
  Calls Tryz.prog 30 #[.pointer (some ⟨b,0,none⟩),.string s] w fun e R=>e=.returned (.tuple #[.int .i64 s.size,.nilIface])/\(Lib.BuilderAtF 86 5 B b (.pointer (some ⟨b,0,none⟩)) (H++Lib.strCells s) R/\Below B w R/\Lib.OthersKept 5 (some b) w R):=by
 obtain⟨i,d,O,P,Q⟩:=info_parts jal;go_enter Tryz.func30,Tryz.ntmps30;go_wp2_with fail;refine (jdi B b H _ h).mono ?_;rintro e S ⟨rfl,a,G,J⟩;obtain⟨V,v,F,C,M⟩:=a;have l:S.cell? ⟨b,0,none⟩=some (.pointer (some ⟨b,0,none⟩)):=by rw[Lib.cell_of_heap F];rfl
 have m:S.cell? ⟨b,1,none⟩=some v:=by rw[Lib.cell_of_heap F];rfl
 go_wp2_with (at_builtin;refine Lib.wpList_append_own_stringF _ rfl _ _ 84 9 rfl B 5 i jak Tryz.underlying9 d O P Q _ _ _ rfl C s rfl ?c3 ?c4 ?c5 ?_)
 case c3=>unfold maxLen;omega
 case c4=>omega
 case c5=>have:=G.size;omega
 intro j I D A _;have L:b<S.heap.size:=(Array.getElem?_eq_some_iff.1 F).1
 have E:I.heap[b]? = some (.cells #[.pointer (some ⟨b,0,none⟩),v] 86 (0,0)):=by
  rw[A.block b L (fun e=>M e.symm)];exact F
 have n:I.cell? ⟨b,0,none⟩=some (.pointer (some ⟨b,0,none⟩)):=by rw[Lib.cell_of_heap E];rfl
 have o:I.cell? ⟨b,1,none⟩=some v:=by rw[Lib.cell_of_heap E];rfl
 have q:I.frozen? ⟨b,1,none⟩=false:=Lib.frozen_of_heap E 1
 obtain⟨U,Y,cap,rfl⟩:∃ U Y cap,j=.slice U Y cap:=by
  rcases D.2 with⟨N,_⟩ | ⟨g,cap,Z,r,N,_⟩
  ·exact⟨_,_,_,N⟩
  ·exact⟨_,_,_,N⟩
 go_wp2;go_ret2;refine⟨rfl,?_,?_,(J.grown A (Lib.ownsRowF_kind C)).setCell ⟨b,1,none⟩ rfl _⟩
 ·exact Lib.BuilderAtF.put (T:=86) (e:=5) V E (bs':=H++Lib.strCells s) (by simpa [Lib.strCells_length] using D) (by decide)
 ·exact (G.grown A (by have:=G.size;omega) (fun k f=>(C.lt k f).1)).setCell (p:=⟨b,1,none⟩) V _
section
open Go.Shelf
theorem jeH {T e:TypeId} {B b:Nat} {A:List Value} {w D:World} (h:Lib.IsBuilderF T e B b A w) (H:∀ j,j<w.heap.size->D.heap[j]? = w.heap[j]?):Lib.IsBuilderF T e B b A D:=by
 have one:∀ p,Lib.BuilderAtF T e B b p A w->Lib.BuilderAtF T e B b p A D:=fun p ⟨J,v,E,F,L⟩=>by
  refine⟨J,v,(H b (Array.getElem?_eq_some_iff.1 E).1).trans E,⟨F.1,?_⟩,L⟩;rcases F.2 with M | ⟨g,cap,C,I,O,N,G,r⟩
  ·exact .inl M
  ·exact .inr ⟨g,cap,C,I,O,N,(H g (Array.getElem?_eq_some_iff.1 G).1).trans G,r⟩
 exact h.imp (one _) (one _)
end
section
open Go.Shelf
attribute [local go_sem] Oper.semAt_some
attribute [-go_sem] Builtin.append_
def jhL (s:ByteArray):List Value:=[.string s]
end
structure Ser where
 l:List Lab
 sk:Sk
 seen:Int
structure jjb where
 la:Option Addr
 ll:Nat
 lc:Nat
 ss:SS
section
open Go.Shelf
theorem jdN {A B:World} {p:Addr} (h:B.heap[p.block]? = A.heap[p.block]?):B.cell? p=A.cell? p:=by unfold World.cell?;rw[h]
theorem SlC.frame {α:Type} {enc:α->List Value} {k D:Nat} {A B:World} {a:Option Addr} {len cap:Nat} {l:List α} {q:Nat->Prop} (C:SlC enc k D A a len cap l) (M:∀ z,a=some z->0<cap->q z.block) (I:∀ b,b<D->q b->B.heap[b]? = A.heap[b]?):SlC enc k D B a len cap l :=
 ⟨⟨C.1.1,fun j x G=>by
  obtain⟨b,E,e,F,H⟩:=C.1.2 j x G;have L:=(List.getElem?_eq_some_iff.1 G).1;have N:=C.1.1;have O:=C.2.1;exact⟨b,E,e,F,fun i J=>(jdN (I b F (M _ e (by omega)))).trans (H i J)⟩⟩,C.2⟩
end
section
open Go.Shelf
attribute [-go_sem] Builtin.append_
def Apart (B:Nat) (A A':World):Prop:=A.heap.size<=A'.heap.size/\∀ b,b<A.heap.size->b≠B->A'.heap[b]? = A.heap[b]?
section
variable {B:Nat} {A A' A'':World}
theorem Apart.of_below (h:Bw A A'):Apart B A A':=⟨h.size,fun b C _=>h.block b C⟩
theorem Apart.trans (h:Apart B A A') (C:Apart B A' A''):Apart B A A'':=⟨Nat.le_trans h.1 C.1,fun b D E=>(C.2 b (Nat.lt_of_lt_of_le D h.1) E).trans (h.2 b D E)⟩
theorem Apart.set (i:Nat) (v:Value):Apart B A (A.setCell ⟨B,i,none⟩ v):=⟨by rw[World.size_setCell];exact Nat.le_refl _,fun b _ C=>jay (fun h=>C h.symm) v⟩
end
theorem jat {W:World} {B i:Nat} {c:Array Value} {t:TypeId} (h:W.heap[B]? = some (.cells c t (0,0))) (v:Value):∃ V,W.setCell ⟨B,i,none⟩ v=V/\V.heap[B]? = some (.cells (c.setIfInBounds i v) t (0,0))/\Apart B W V/\(∀ n w0,n<=B->Below n w0 W->Below n w0 V)/\V.heap.size<=W.heap.size/\W.heap.size<=V.heap.size :=
 ⟨_,rfl,hSk h v,Apart.set i v,fun _ _ C A=>A.setCell (p:=⟨B,i,none⟩) C v,Nat.le_of_eq (World.size_setCell ..),Nat.le_of_eq (World.size_setCell ..).symm⟩
end
section
open Go.Shelf
def Ser.wf (x:Ser):Prop:=x.sk.fit/\U64 x.seen
theorem jcy {W:World} {B i:Nat} {c:Array Value} {t:TypeId} {G:Nat × Nat} {v:Value} (h:W.heap[B]? = some (.cells c t G)) (I:c[i]? = some v):W.setCell ⟨B,i,none⟩ v=W:=by
 have H:c.setIfInBounds i v=c:=by
  obtain⟨J,rfl⟩:=Array.getElem?_eq_some_iff.1 I;apply Array.ext (by simp);intro j D E;rw[Array.getElem_setIfInBounds];split
  ·rename_i e;subst e;rfl
  ·rfl
 have A:(W.setCell ⟨B,i,none⟩ v).heap=W.heap:=by
  apply Array.ext (jhr W _ v);intro j D E
  have C:(W.setCell ⟨B,i,none⟩ v).heap[j]? = W.heap[j]? := by
   by_cases F:B=j
   ·subst F
    rw[hSk h,h,H]
   ·exact jay (p:=⟨B,i,none⟩) F v
  rw[Array.getElem?_eq_getElem D,Array.getElem?_eq_getElem E] at C;exact Option.some.inj C
 have e:W.setCell ⟨B,i,none⟩ v = { W with heap:=(W.setCell ⟨B,i,none⟩ v).heap }:=rfl;rw[e,A]
def ja1 (i:Nat × Int):List Value:=[.int .u64 i.1,.int .u64 i.2]
theorem jer:Tryz.prog.underlying 45=some (.slice 110):=by kernel_rfl
theorem jfD (a:Option Addr) (len cap m:Nat) (w:World) (h:m<=cap):(Instr.slice 45 (.slice a len cap) none (some (.int .i64 (m:Int))) none).run Tryz.prog w=.ok (.slice a m cap) w:=by
 have B:=jb8 a cap 2;unfold jdj at B;have C:(sizeOf 110).run Tryz.prog w=.ok 2 w:=by kernel_rfl
 have A:Tryz.prog.elem 45=110:=by kernel_rfl
 rw[run_slice_h (t:=45) (a:=a) (len:=len) (cap:=cap) (w:=w) (ht:=by rw[A];exact jer) (kh:=.i64) (h:=(m:Int)) (by omega) (by omega),A,C];simp only[Result.andThen,sliced,Int.toNat_natCast,Nat.sub_zero,B]
end
section
open Go.ChangeShapes Go.WideShapes Go.ChangeAt Go.Lib Go.Deep Go.Shelf
section
variable {H:Type} {enc:TypeId × Value->H} {w:World} {base:Nat} {held:Bool}
theorem jgg (n:Nat) (A:List Value) (x:DataW H × List MemPlace) (h:DataW.trod enc Tryz.prog w base (fun _=>true) held n 110 A=some x):∃ y:Nat × Int,A=ja1 y/\Item.ok y:=by
 obtain⟨M,m,G⟩:=ja9 Tryz.underlying110 (by kernel_rfl) (by kernel_rfl) h;obtain⟨Q,S,E,J⟩:=G 0 _ rfl;obtain⟨R,T,F,L⟩:=G 1 _ rfl;obtain⟨B,C,-,w0⟩:=DataW.trod_int jbw J;obtain⟨I,D,-,O⟩:=DataW.trod_int jbw L
 match A,M with
 | [a,b],_ =>
  simp only[List.getElem?_cons_zero,List.getElem?_cons_succ,Option.some.injEq,List.cons.injEq,and_true] at E F C D;obtain⟨N,P⟩:=jbx w0;refine⟨(B.toNat,I),?_,?_,jbx O⟩
  ·rw[E,F,C,D]
   show _=[Value.int .u64 ((B.toNat:Nat):Int),.int .u64 I];rw[Int.toNat_of_nonneg N]
  ·show B.toNat<2^64
   omega
end
end
section
open Go.Shelf
attribute [local go_sem] Oper.semAt_some
def KB (B:Nat) (W W':World):Prop:=∀ o,W.heap[B]? = some o->W'.heap[B]? = some o
theorem KB.trans {B:Nat} {X Y Z:World} (h:KB B X Y) (k:KB B Y Z):KB B X Z:=fun o A=>k o (h o A)
theorem KB.refl (B:Nat) (X:World):KB B X X:=fun _ h=>h
theorem jeT {α:Type} {P:Program} {g:Operand} {Z:Array Tmp} {assign body:Code} {Q:Exit->Act->World->Prop} {a:Act} {w:World} (M:Nat) (T:α->Array Value)
  {gf:Nat} {lb:Array Value} (r:a.eval g=.func (.func gf) #[] lb) (f:∀ args w,(callFunc gf args).run P w=.ok (.enter gf args) w)
  {B:α->Array Value} {xs:List α} {N:Nat} {w0:World} (J:SeqStopsK Fence.wide 8 P gf lb B (KB M) (fun d=>d=xs) (fun A=>A <+: xs) N w0)
  (m:M<w.heap.size) (U:Bw w0 w) (Y:∀ x,(B x).size=Z.size)
  (I:List α->World->Prop) (L:Code->List α->World->Prop) (q:OwnFrom w.heap.size I) (R:∀ c,OwnFrom w.heap.size (L c)) (i:I [] w)
  (C:∀ (l:Nat) (A:List α) (x:α) (W:World) (K:Act->World->Prop),I A W->(I A W->K { tmps:=T x,defers:=[] } W) ->
   assign.wpIn (Fence.wide.inRound l) 7 P (Exit.then K (fun _ _ _=>False)) { tmps:=(Z.zip (B x)).foldl (fun t (p,v)=>t.setIfInBounds p v) a.tmps,defers:=[] } W)
  (E:∀ (l:Nat) (A:List α) (x:α) (W:World),I A W->A.length<N->body.wpIn (Fence.wide.inRound l) 7 P (ownPostG w.heap.size (KB M) I L (A++[x]) W) { tmps:=T x,defers:=[] } W)
  (F:∀ (D:Nat) (W:World),w.heap.size<=D->I xs W->W.heap[D]? = some (.deferred (some []))->Q .normal { a with defers:={ target:=.collected D,args:=#[] }::a.defers } W)
  (H:∀ (D:Nat) (c:Code) (A:List α) (W:World),w.heap.size<=D->A <+: xs->L c A W->W.heap[D]? = some (.deferred (some []))->c.wp P Q { a with defers:={ target:=.collected D,args:=#[] }::a.defers } W) :
  (Code.rangeFunc g Z assign body).wp P Q a w :=
 (wpIn_wide (n:=9)).1 (wpIn_rangeFunc_ownH rfl (by omega) r trivial f J (fun h k=>h.trans k)
  (fun W l o y u h _ _ z j=>(World.putObj_heap_other (by omega)).trans j) U Y I L q R i (fun x b _=>b = { tmps:=T x,defers:=[] }) (fun _ _=>ownFrom_pure _ _)
  (fun l A x W K G hK=>C l A x W K G (fun V=>hK _ _ (KeepsFrom.refl _ _) (KB.refl _ _) V rfl))
  (fun l A x b W _ _ G S X=>by subst S;exact E l A x W G X) (fun D d W O e G hK=>by subst e;exact F D W O G hK) (fun D c A W O s G hK=>wpIn_wide.2 (H D c A W O s G hK)))
theorem jb2 {α:Type} {P:Program} {g:Operand} {L:Array Tmp} {assign body:Code} {Q:Exit->Act->World->Prop} {a:Act} {w:World} {G:Nat} (M X Y:Nat) (Z b:α->Value)
  {gf:Nat} {lb:Array Value} (h:a.eval g=.func (.func gf) #[] lb) (d:∀ args w,(callFunc gf args).run P w=.ok (.enter gf args) w)
  {B:α->Array Value} {xs:List α} {N:Nat} {w0:World} (J:SeqStopsK Fence.wide 8 P gf lb B (KB M) (fun j=>j=xs) (fun A=>A <+: xs) N w0)
  (R:M<w.heap.size) (U:Bw w0 w) (V:∀ x,(B x).size=L.size)
  (I O:List α->World->Prop) (f:OwnFrom w.heap.size I) (T:OwnFrom w.heap.size O) (e:I [] w)
  (C:∀ (l:Nat) (A:List α) (x:α) (W:World) (K:Act->World->Prop),I A W->(I A W->K { tmps:=(((L.zip (B x)).foldl (fun t (p,v)=>t.setIfInBounds p v) a.tmps).setIfInBounds X (Z x)).setIfInBounds Y (b x),defers:=[] } W) ->
   assign.wpIn (Fence.wide.inRound l) 7 P (Exit.then K (fun _ _ _=>False)) { tmps:=(L.zip (B x)).foldl (fun t (p,v)=>t.setIfInBounds p v) a.tmps,defers:=[] } W)
  (F:∀ (l:Nat) (A:List α) (x:α) (W:World),I A W->A.length<N->body.wpIn (Fence.wide.inRound l) 7 P (ownPostG w.heap.size (KB M) I (fun c A W=>c=.exit G/\O A W) (A++[x]) W) { tmps:=(((L.zip (B x)).foldl (fun t (p,v)=>t.setIfInBounds p v) a.tmps).setIfInBounds X (Z x)).setIfInBounds Y (b x),defers:=[] } W)
  (E:∀ (D:Nat) (W:World),w.heap.size<=D->(I xs W\/∃ A,A <+: xs/\O A W)->W.heap[D]? = some (.deferred (some []))->Q .normal { a with defers:={ target:=.collected D,args:=#[] }::a.defers } W) :
  (Code.rangeFunc g L assign body).wp P (Exit.inBlock G Q) a w :=
 jeT M _ h d J R U V I (fun c A W=>c=.exit G/\O A W) f (fun _=>(ownFrom_pure _ _).and T) e C F (fun D W S H hK=>E D W S (.inl H) hK)
  (fun D c A W S i H hK=>by obtain⟨rfl,H⟩:=H;exact wp_exit (by show (if G=G then Q .normal _ _ else Q (.exit G) _ _);rw[if_pos rfl];exact E D W S (.inr ⟨A,i,H⟩) hK))
end
section
open Go.Shelf
structure Kept (q:Nat->Prop) (A B:World):Prop where
 os:B.os=A.os
 tape:B.tape=A.tape
 output:B.output=A.output
 size:A.heap.size<=B.heap.size
 block:∀ k,k<A.heap.size->q k->B.heap[k]? = A.heap[k]?
section
variable {q r:Nat->Prop} {A B C:World}
theorem Kept.of (h:Bw A B):Kept q A B:=⟨h.os,h.tape,h.output,h.size,fun k C _=>h.block k C⟩
theorem Kept.refl:Kept q A A:=.of (.refl _ _)
theorem Kept.trans (h:Kept q A B) (k:Kept q B C):Kept q A C:=⟨k.os.trans h.os,k.tape.trans h.tape,k.output.trans h.output,Nat.le_trans h.size k.size,fun i D E=>(k.block i (Nat.lt_of_lt_of_le D h.size) E).trans (h.block i D E)⟩
theorem Kept.mono (h:Kept q A B) (E:∀ k,r k->q k):Kept r A B:=⟨h.os,h.tape,h.output,h.size,fun k C D=>h.block k C (E k D)⟩
theorem Kept.drew (h:Kept q A B):Kept q A B.drew:=⟨h.os,h.tape,h.output,h.size,h.block⟩
theorem Kept.set (h:Kept q A B) {b:Nat} (D:b<A.heap.size->¬ q b) (i:Nat) (v:Value):Kept q A (B.setCell ⟨b,i,none⟩ v):=⟨h.os,h.tape,h.output,by rw[World.size_setCell];exact h.size,fun k E C=>(jay (p:=⟨b,i,none⟩) (fun e=>D (by have e:b=k:=e;omega) (by have e:b=k:=e;exact e▸C)) v).trans (h.block k E C)⟩
theorem Kept.below {n:Nat} (h:Kept q A B) (D:∀ k,k<n->q k) (E:n<=A.heap.size):Below n A B:=⟨h.os,h.tape,h.output,h.size,fun k C=>h.block k (Nat.lt_of_lt_of_le C E) (D k C)⟩
theorem Kept.known {k:Nat} {o:Obj} (h:Kept q A B) (C:q k) (e:A.heap[k]? = some o):B.heap[k]? = some o:=(h.block k (Array.getElem?_eq_some_iff.1 e).1 C).trans e
theorem Kept.cell {p:Addr} {v:Value} (h:Kept q A B) (C:q p.block) (e:A.cell? p=some v):B.cell? p=some v:=(jdN (h.block _ (World.block_lt_of_cell? A _ e) C)).trans e
theorem SlC.keep {α:Type} {enc:α->List Value} {k:Nat} {a:Option Addr} {len cap:Nat} {l:List α} (h:SlC enc k A.heap.size A a len cap l) (C:Kept q A B) (D:∀ z,a=some z->0<cap->q z.block):SlC enc k B.heap.size B a len cap l :=
 (h.frame D C.block).mono C.size
end
end
end Go.Proofs.YtlmlcadcdhhlcaaGreatDoor

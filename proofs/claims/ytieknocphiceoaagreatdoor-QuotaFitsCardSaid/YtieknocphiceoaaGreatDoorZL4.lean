/- What rows have in common: the program's closed facts, sketches and numbers opened, errors.errorType. Printed by gen_rz.py. Package label: the runes of names and values; names, values. Package label: values, sets of labels (ranges over slices.Values). strings.Builder: copyCheck, WriteString, WriteByte at this program (the library's copyCheck holds a branch that the loader refuses, so the shelf's contracts are not laid). strings.Builder: WriteByte, WriteRune. Package label: quoted. Package label: Less; slices of labels: Equal, Clone. -/
import Derived.Test.YtieknocphiceoaaGreatDoorCards
import Derived.Test.YtieknocphiceoaaGreatDoorTie
import Derived.LaidHandle
import Derived.Shelf.Vars
import Derived.ChangeMaps5
import Derived.Test.YtieknocphiceoaaGreatDoorZLC
namespace Go.Proofs.YtieknocphiceoaaGreatDoor
open Go Go.ChangeShapes Go.WideShapes Go.ChangeAt Go.RowKit Go.Lib Go.Deep Go.Shelf
theorem own:ownKnob Tryz.prog.godebug=none:=by kernel_rfl
theorem jqR:laidOutB Tryz.prog=true:=by kernel_rfl
theorem jrq:Tryz.prog.underlying 4=some .bool:=by kernel_rfl
theorem jn4:Tryz.prog.underlying 55=some (.int .u64):=by kernel_rfl
theorem jn3:Tryz.prog.underlying 9=some .string:=by kernel_rfl
theorem jfw:Tryz.prog.underlying 3=some (.int .i64):=by kernel_rfl
theorem jem {a b:Bool} (ha:a=true) (hb:b=true):(a&&b)=true:=by rw[ha,hb];rfl
theorem jrV:mapsRowed Tryz.pinned.checked.prog=true:=by kernel_rfl
theorem jsr:laidOutB Tryz.pinned.checked.prog=true:=by kernel_rfl
theorem jra:(Tryz.pinned.checked.prog.stops==[])=true:=by kernel_rfl
theorem jq9:(Tryz.pinned.checked.prog.stopKnobs==[])=true:=by kernel_rfl
theorem jq8:Tryz.pinned.checked.prog.stopsHeard=true:=by kernel_rfl
theorem jq7:Tryz.pinned.checked.prog.mayEnter=true:=by kernel_rfl
theorem jrS:(Rows.quotaFitsRow.plainKeys==Tryz.pinned.checked.prog.plainKeys)=true:=by kernel_rfl
theorem jrT:(Rows.quotaFitsRow.lifted==Tryz.pinned.checked.prog.liftsFinal)=true:=by kernel_rfl
theorem jrU:(Tryz.pinned.checked.prog.make==some Rows.quotaFitsRow.make)=true:=by kernel_rfl
theorem gET : Tryz.prog.globalNamed "errors.errorType" = some 0 := by kernel_rfl
theorem rtCut : (Tryz.prog.cutTypes.find? (·.1 == "internal/reflectlite.rtype")).map (·.2) = some 292 := by kernel_rfl
theorem jrQ:((List.range 409).filter fun t=>Tryz.prog.rowNamed t [101,114,114,111,114])=[124]:=by kernel_rfl
theorem jnY:Tryz.prog.types.size=409:=by kernel_rfl
theorem jsn {W : World} (h : handlesMet Tryz.prog [("errors.errorType", Rows.laid_errors_errorType)] W) : GT W := by
 obtain⟨name,u,ty,e1,e2,e3,e4,e5⟩:=h _ (List.mem_singleton.2 rfl);have en:name=[101,114,114,111,114]:=(Option.some.inj e1).symm;subst en;obtain rfl:=Option.some.inj (rtCut.symm.trans e2);have hm:ty∈(List.range 409).filter fun t=>Tryz.prog.rowNamed t [101,114,114,111,114]:=List.mem_filter.2 ⟨List.mem_range.2 (by rw[<- jnY];exact e3),e4⟩
 rw[jrQ] at hm;obtain rfl:=List.mem_singleton.1 hm;have hh:typeHandle Tryz.prog 124=.pointer (some ⟨4,124,none⟩):=by kernel_rfl
 rw[hh] at e5;have h9:=World.var?_cell gET e5 0;simp at h9;exact h9
section
variable {H:Type} {enc:TypeId × Value->H} {w:World} {base:Nat} {held:Bool}
theorem jiW {P:Program} {t:TypeId} {fs:Array Field} {fuel:Nat} {cs:List Value} {x:DataW H × List MemPlace} (ht:P.underlying t=some (.struct fs)) (h:DataW.trod enc P w base (fun _=>true) held fuel t cs=some x) :
  cs.length=P.cellsOf t/\∃ n,∀ (i:Nat) (f:Field),fs[i]? = some f->∃ y,DataW.trod enc P w base (fun _=>true) held n f.type ((cs.drop f.offset).take (P.cellsOf f.type))=some y:=by
 obtain⟨xs,n,_,_,hl,hx,hf⟩:=DataW.trod_struct ht h;refine⟨hl,n,fun i f hi=>?_⟩;have h1:=hf i f hi;have h2:=(Array.getElem?_eq_some_iff.1 hi).1;rw[List.getElem?_eq_getElem (by omega)] at h1;exact⟨_,h1⟩
theorem SlC.map {α β:Type} {encA:β->List Value} {k n:Nat} {a:Option Addr} {len cap:Nat} {f:α->β} {l:List α} (h:SlC (fun x=>encA (f x)) k n w a len cap l):SlC encA k n w a len cap (l.map f) :=
 ⟨⟨by rw[List.length_map];exact h.1.1,fun j x hx=>by rw[List.getElem?_map] at hx;obtain⟨y,hy,rfl⟩:=Option.map_eq_some_iff.1 hx;exact h.1.2 j y hy⟩,h.2⟩
theorem jeZ {P:Program} {α:Type} {t e:TypeId} {k:Nat} {encA:α->List Value} {Q:α->Prop} (hk:0<k) (ht:P.underlying t=some (.slice e)) (hc:P.cellsOf e=k)
  (hel:∀ n cs x,DataW.trod enc P w base (fun _=>true) held n e cs=some x->∃ y,cs=encA y/\Q y) {fuel:Nat} {v:Value} {x:DataW H × List MemPlace}
  (h:DataW.trod enc P w base (fun _=>true) held fuel t [v]=some x):∃ a len cap l,v=.slice a len cap/\SlC encA k w.heap.size w a len cap l/\∀ y∈l,Q y:=by
 obtain⟨a,len,cap,rfl⟩:∃ a len cap,v=.slice a len cap:=by
  rcases open_slice ht h with⟨h0,_⟩ | ⟨a',len',cap',m,n,D,Pl,hcs,-⟩
  ·simp only[List.cons.injEq,and_true] at h0;exact⟨_,_,_,h0⟩
  ·simp only[List.cons.injEq,and_true] at hcs;exact⟨_,_,_,hcs⟩
 obtain⟨l,hl⟩:=jkv (encA:=fun y : { y // Q y }=>encA y.1) hk ht hc (fun n cs x hx=>by obtain⟨y,h1,h2⟩:=hel n cs x hx;exact⟨⟨y,h2⟩,h1⟩) h;refine⟨a,len,cap,l.map (·.1),rfl,hl.map,fun y hy=>?_⟩;obtain⟨z,_,rfl⟩:=List.mem_map.1 hy;exact z.2
theorem jod {n:Int} (w0:(Lit.int .u64 n).wf=true):U64 n:=by
 simp only[Lit.wf,IntKind.min,IntKind.max,IntKind.signed,IntKind.bits,Bool.and_eq_true] at w0;exact⟨by simpa using w0.1,by have:=w0.2;simp at this;omega⟩
theorem wf_i64 {n:Int} (w0:(Lit.int .i64 n).wf=true):I64 n:=by
 simp only[Lit.wf,IntKind.min,IntKind.max,IntKind.signed,IntKind.bits,Bool.and_eq_true] at w0;exact⟨by have:=w0.1;simp at this;omega,by have:=w0.2;simp at this;omega⟩
theorem jlj (n:Nat) (cs:List Value) (x:DataW H × List MemPlace) (h:DataW.trod enc Tryz.prog w base (fun _=>true) held n 55 cs=some x):∃ y:Int,cs=jbH y/\U64 y:=by
 obtain⟨s0,c0,-,w0⟩:=DataW.trod_int jn4 h;exact⟨s0,c0,jod w0⟩
theorem joF (n:Nat) (cs:List Value) (x:DataW H × List MemPlace) (h:DataW.trod enc Tryz.prog w base (fun _=>true) held n 118 cs=some x):∃ y:Int × Int,cs=jb5 y/\(I64 y.1/\U64 y.2):=by
 obtain⟨hl,m,hf⟩:=jb3 Tryz.underlying118 (by kernel_rfl) (by kernel_rfl) h;obtain⟨v0,y0,e0,h0⟩:=hf 0 _ rfl;obtain⟨v1,y1,e1,h1⟩:=hf 1 _ rfl;obtain⟨s0,c0,-,w0⟩:=DataW.trod_int jfw h0;obtain⟨s1,c1,-,w1⟩:=DataW.trod_int jn4 h1
 match cs,hl with
 | [a,b],_ =>
  simp only[List.getElem?_cons_zero,List.getElem?_cons_succ,Option.some.injEq,List.cons.injEq,and_true] at e0 e1 c0 c1;exact⟨(s0,s1),by rw[e0,e1,c0,c1];rfl,wf_i64 w0,jod w1⟩
end
def eT : String × DataW Unit := ("errors.errorType", Rows.laid_errors_errorType)
def jpW:Obj->Obj
 | .cells _ t frozen=>.cells #[.iface 292 (.agg #[.pointer (some ⟨4,124,none⟩)])] t frozen
 | o=>o
end Go.Proofs.YtieknocphiceoaaGreatDoor
namespace Go.Proofs.YtieknocphiceoaaGreatDoor
open Go Go.RowKit
structure GW (w:World):Prop where
 utf8:Lib.Utf8Tabs 2 3 w
 maxLen:∃ m,w.cell? ⟨1,0,none⟩=some (.int .i64 m)
 size:4<=w.heap.size
theorem GW.below {w w':World} (h:GW w) (hb:Below w.heap.size w w'):GW w' :=
 ⟨Utf8Tabs_below h.utf8 hb,let ⟨m,hm⟩:=h.maxLen;⟨m,(hb.cell (p:=⟨1,0,none⟩) (by have:=h.size;show 1<w.heap.size;omega)).trans hm⟩,Nat.le_trans h.size hb.size⟩
def jbq (c:Int):Bool:=decide (97<=c)&&decide (c<=122)
def ja6 (c:Int):Bool:=decide (32<=c)&&(c != 127)
theorem jgY (c:Int) (w:World):Calls Tryz.prog 187 #[.int .i32 c] w fun e w'=>e=.returned (.bool (jbq c))/\w=w':=by
 by_cases h1:97<=c
 ·go_enter Tryz.func187,Tryz.ntmps187
  go_wp2;go_ret;exact⟨by simp[jbq,h1],rfl⟩
 ·go_enter Tryz.func187,Tryz.ntmps187
  go_wp2;go_ret;exact⟨by simp[jbq];omega,rfl⟩
theorem jge (c:Int) (w:World):Calls Tryz.prog 188 #[.int .i32 c] w fun e w'=>e=.returned (.bool (ja6 c))/\w=w':=by
 by_cases h1:32<=c
 ·go_enter Tryz.func188,Tryz.ntmps188
  go_wp2;go_ret;exact⟨by simp[ja6,h1],rfl⟩
 ·go_enter Tryz.func188,Tryz.ntmps188
  go_wp2;go_ret;exact⟨by simp[ja6];omega,rfl⟩
def jbD (s:ByteArray):Bool:=s.size != 0&&decide (s.size<=12)&&(rl s 0).all fun p=>jbq p.2
set_option maxHeartbeats 400000 in
theorem jlK (s:ByteArray) (w:World) (hs:s.size<=maxLen):Calls Tryz.prog 153 #[.string s] w fun e w'=>e=.returned (.bool (jbD s))/\Below w.heap.size w w':=by
 unfold maxLen at hs;have hem:=jdc s;by_cases h0:s.size=0
 ·have h1:s.toList.isEmpty=true:=by rw[hem];simp[h0]
  have h2:s.toList=[]:=by simpa using h1
  clear hem;go_enter Tryz.func153,Tryz.ntmps153;go_wp2_with fail;go_ret;exact⟨by simp[jbD,h0],Below.refl _ _⟩
 ·have h1:s.toList.isEmpty=false:=by rw[hem];simp[h0]
  have h2:¬ s.toList=[]:=by simpa using h1
  clear hem;by_cases h12:s.size<=12
  ·have h3:decide ((12:Int)<s.size)=false:=by simp;omega
   go_enter Tryz.func153,Tryz.ntmps153;go_wp2_with fail;go_loopw [] (fun wr=>∃ pos,wr.heap[w.heap.size]? = some (.stringIter s pos)/\Below w.heap.size w wr/\Hid (((rl s 0).all fun p=>jbq p.2)=(rl s pos).all fun p=>jbq p.2)) (fun wr=>s.size-wr.iterPos w.heap.size)
   case atStart=>exact⟨0,World.iter_heap w s 0,(Below.refl _ _).alloc (Nat.le_refl _) _,rfl⟩
   case round =>
    obtain⟨pos,hit,hbw,HS⟩:=hrel;have hpos0:=jaZ hit;by_cases hp:pos<s.size
    ·obtain⟨W1,hnx,hit2,hbw2,-,-⟩:=jd7 (P:=Tryz.prog) hit hbw (Nat.le_refl _) hp
     have hstep:=Lib.hid (jd0 s pos hp);have hd:=jdM s pos hp;go_wp2_with (go_at_call 187;refine (jgY _ _).mono ?_;rintro e w' ⟨rfl,rfl⟩)
     ·go_ret
      exact⟨by have:=HS.out;simp_all [jbD,hstep.out],hbw2⟩
     ·go_roundw
      case rel=>exact⟨_,hit2,hbw2,by have:=HS.out;rw[hstep.out] at this;simp_all [Hid]⟩
      case measure=>rw[jaZ hit2,hpos0];omega
    ·have hnx:∀ ty,(Instr.next (.pointer (some ⟨w.heap.size,0,none⟩)) true ty).run Tryz.prog wr=_:=fun ty=>Lib.run_next_end_at wr w.heap.size s pos ty hit hp
     go_wp2_with fail;go_ret;exact⟨by have:=HS.out;rw[jej s pos hp] at this;simp[jbD,h0,h12,this],hbw⟩
  ·have h3:decide ((12:Int)<s.size)=true:=by simp;omega
   go_enter Tryz.func153,Tryz.ntmps153;go_wp2_with fail;go_ret;exact⟨by simp[jbD,h12],Below.refl _ _⟩
def jd1 (s:ByteArray) (p:Nat × Int):Bool:=p.2==65533&&((Lib.decodeGo (s.extract p.1 s.size)).2:Int)==1
def jbc (s:ByteArray):Bool:=(rl s 0).all fun p => !jd1 s p
def jcT (s:ByteArray):Int:=if jbc s then ((rl s 0).length:Int) else 0
set_option maxHeartbeats 400000 in
theorem jmq (s:ByteArray) (w:World) (hs:s.size<=maxLen) (hG:GW w):Calls Tryz.prog 156 #[.string s] w fun e w'=>e=.returned (.tuple #[.int .i64 (jcT s),.bool (jbc s)])/\Below w.heap.size w w':=by
 unfold maxLen at hs;go_enter Tryz.func156,Tryz.ntmps156;go_wp2_with fail;go_loopw [4] (fun n wr=>∃ pos k,wr.heap[w.heap.size]? = some (.stringIter s pos)/\Below w.heap.size w wr/\n=.int .i64 (k:Nat)/\k<=pos/\Hid ((rl s 0).length=k+(rl s pos).length/\(jbc s=(rl s pos).all fun p => !jd1 s p))) (fun _ wr=>s.size-wr.iterPos w.heap.size)
 case atStart=>exact⟨0,0,World.iter_heap w s 0,(Below.refl _ _).alloc (Nat.le_refl _) _,rfl,Nat.le_refl _,by simp[Hid,jbc]⟩
 case round =>
  obtain⟨pos,k,hit,hbw,rfl,hkp,HS⟩:=hrel;have hpos0:=jaZ hit;by_cases hp:pos<s.size
  ·obtain⟨W1,hnx,hit2,hbw2,hsz,-⟩:=jd7 (P:=Tryz.prog) hit hbw (Nat.le_refl _) hp
   have hstep:=Lib.hid (jd0 s pos hp);have hd:=jdM s pos hp;have hT:=(hG.below hbw2).utf8;have hbx:Below w.heap.size W1 W1:=Below.refl _ _;by_cases hc:((Utf8.decode s pos).1:Int)=65533
   ·have hc1:(((Utf8.decode s pos).1:Int)==65533)=true:=by simp[hc]
    have hpi:(pos:Int)<=s.size:=by omega
    have HC:=Lib.hid hc;clear hc;by_cases hz:((Lib.decodeGo (s.extract pos s.size)).2:Int)=1
    ·have hz1:(((Lib.decodeGo (s.extract pos s.size)).2:Int)==1)=true:=by simp[hz]
     have HZ:=Lib.hid hz;clear hz;go_wp2_with (go_at_call 190;refine (Tryz.utf8_DecodeRuneInString _ _ hT).mono ?_;rintro e w' ⟨rfl,hb'⟩);go_ret2;have h2:jbc s=false:=by rw[HS.out.2,hstep.out];simp[jd1,HC.out,HZ.out]
     exact⟨by simp[jcT,h2],hbw2.trans (hb'.mono (by have:=hbw2.size;omega))⟩
    ·have hz1:(((Lib.decodeGo (s.extract pos s.size)).2:Int)==1)=false:=by simpa using hz
     have HZ:=Lib.hid hz;clear hz;go_wp2_with (go_at_call 190;refine (Tryz.utf8_DecodeRuneInString _ _ hT).mono ?_;rintro e w' ⟨rfl,hb'⟩);go_roundw
     case rel=>exact⟨_,k+1,(hb'.block _ (by rw[hsz];have:=(Array.getElem?_eq_some_iff.1 hit).1;exact this)).trans hit2,hbw2.trans (hb'.mono (by have:=hbw2.size;omega)),by go_num,by omega,by have h3:=HS.out.1;have h4:=HS.out.2;rw[hstep.out] at h3 h4;refine⟨by simp at h3;omega,by rw[h4];simp[jd1,HZ.out]⟩⟩
     case measure=>rw[jaZ ((hb'.block _ (by rw[hsz];have:=(Array.getElem?_eq_some_iff.1 hit).1;exact this)).trans hit2),hpos0];omega
   ·have hc1:(((Utf8.decode s pos).1:Int)==65533)=false:=by simpa using hc
    have HC:=Lib.hid hc;clear hc;go_wp2_with fail;go_roundw
    case rel=>exact⟨_,k+1,hit2,hbw2,by go_num,by omega,by have h3:=HS.out.1;have h4:=HS.out.2;rw[hstep.out] at h3 h4;refine⟨by simp at h3;omega,by rw[h4];simp[jd1,HC.out]⟩⟩
    case measure=>rw[jaZ hit2,hpos0];omega
  ·have hnx:∀ ty,(Instr.next (.pointer (some ⟨w.heap.size,0,none⟩)) true ty).run Tryz.prog wr=_:=fun ty=>Lib.run_next_end_at wr w.heap.size s pos ty hit hp
   go_wp2_with fail;go_ret2;have h2:=HS.out;rw[jej s pos hp] at h2;simp at h2;exact⟨by simp[jcT,h2],hbw⟩
end Go.Proofs.YtieknocphiceoaaGreatDoor
namespace Go.Proofs.YtieknocphiceoaaGreatDoor
open Go Go.RowKit Go.Shelf
attribute [local go_sem] Oper.semAt_some
def jbs (s:ByteArray):Bool:=jbc s&&decide (jcT s<=24)&&(rl s 0).all fun p=>ja6 p.2
set_option maxHeartbeats 400000 in
theorem jkc (s:ByteArray) (w:World) (hs:s.size<=maxLen) (hG:GW w):Calls Tryz.prog 154 #[.string s] w fun e w'=>e=.returned (.bool (jbs s))/\Below w.heap.size w w':=by
 have hR:=jmq s w hs hG;unfold maxLen at hs;by_cases h0:jbc s=true
 ·by_cases h1:jcT s<=24
  ·have h3:decide ((24:Int)<jcT s)=false:=by simp;omega
   go_enter Tryz.func154,Tryz.ntmps154;go_wp2_with (go_at_call 156;refine hR.mono ?_;rintro e w' ⟨rfl,hb'⟩);go_loopw [] (fun wr=>∃ pos,wr.heap[w'.heap.size]? = some (.stringIter s pos)/\Below w'.heap.size w' wr/\Hid (((rl s 0).all fun p=>ja6 p.2)=(rl s pos).all fun p=>ja6 p.2)) (fun wr=>s.size-wr.iterPos w'.heap.size)
   case atStart=>exact⟨0,World.iter_heap w' s 0,(Below.refl _ _).alloc (Nat.le_refl _) _,rfl⟩
   case round =>
    obtain⟨pos,hit,hbw,HS⟩:=hrel;have hpos0:=jaZ hit;have hsz:=hb'.size;by_cases hp:pos<s.size
    ·obtain⟨W1,hnx,hit2,hbw2,-,-⟩:=jd7 (P:=Tryz.prog) hit hbw (Nat.le_refl _) hp
     have hstep:=Lib.hid (jd0 s pos hp);have hd:=jdM s pos hp;go_wp2_with (go_at_call 188;refine (jge _ _).mono ?_;rintro e w' ⟨rfl,rfl⟩)
     ·go_ret
      exact⟨by have:=HS.out;simp_all [jbs,hstep.out],hb'.trans (hbw2.mono hsz)⟩
     ·go_roundw
      case rel=>exact⟨_,hit2,hbw2,by have:=HS.out;rw[hstep.out] at this;simp_all [Hid]⟩
      case measure=>rw[jaZ hit2,hpos0];omega
    ·have hnx:∀ ty,(Instr.next (.pointer (some ⟨w'.heap.size,0,none⟩)) true ty).run Tryz.prog wr=_:=fun ty=>Lib.run_next_end_at wr w'.heap.size s pos ty hit hp
     go_wp2_with fail;go_ret;exact⟨by have:=HS.out;rw[jej s pos hp] at this;simp[jbs,h0,h1,this],hb'.trans (hbw.mono hsz)⟩
  ·have h3:decide ((24:Int)<jcT s)=true:=by simp;omega
   go_enter Tryz.func154,Tryz.ntmps154;go_wp2_with (go_at_call 156;refine hR.mono ?_;rintro e w' ⟨rfl,hb'⟩);go_ret;exact⟨by simp[jbs];intro _ h;omega,hb'⟩
 ·have h0':jbc s=false:=by simpa using h0
  clear h0;go_enter Tryz.func154,Tryz.ntmps154;go_wp2_with (go_at_call 156;refine hR.mono ?_;rintro e w' ⟨rfl,hb'⟩);go_ret;exact⟨by simp[jbs,h0'],hb'⟩
structure Lab where
 name:ByteArray
 value:ByteArray
def Lab.ok (l:Lab):Prop:=l.name.size<4294967281/\l.value.size<4294967281
abbrev jiD:={ l:Lab // l.ok }
def Lab.enc (l:Lab):List Value:=[.string l.name,.string l.value]
def Labs (n₀:Nat) (w:World) (sv:Value) (ls:List Lab):Prop:=SlAt n₀ w sv ls.length (ls.flatMap Lab.enc)
theorem jkR (a:Option Addr) (len cap:Nat) (w:World) :
  Calls Tryz.prog 128 #[.slice a len cap] w fun e w'=>e=.returned (.func (.func 195) #[] #[.pointer (some ⟨w.heap.size,0,none⟩)])/\w'=w.alloc (.cells #[.slice a len cap] 68):=by
 go_enter Tryz.func128,Tryz.ntmps128;go_wp2;go_ret;exact⟨rfl,rfl⟩
theorem jnf (ls:List Lab) (j:Nat) (x:Lab) (h:ls[j]? = some x):(ls.flatMap Lab.enc)[j*2]? = some (.string x.name)/\(ls.flatMap Lab.enc)[j*2+1]? = some (.string x.value):=by
 induction ls generalizing j with
 | nil=>simp at h
 | cons y ys ih =>
  cases j with
  | zero=>simp at h;subst h;simp[Lab.enc]
  | succ j =>
   have:=ih j (by simpa using h);rw[show (j+1)*2=j*2+2 by omega];simp only[List.flatMap_cons,Lab.enc,List.cons_append,List.nil_append,List.getElem?_cons_succ];exact this
theorem jpn (ls:List Lab):(ls.flatMap Lab.enc).length=ls.length*2:=by
 induction ls with
 | nil=>rfl
 | cons y ys ih=>simp[List.flatMap_cons,Lab.enc,ih];omega
theorem Labs.cells {n₀:Nat} {w:World} {b off cap:Nat} {ls:List Lab} (h:Labs n₀ w (.slice (some ⟨b,off,none⟩) ls.length cap) ls) (j:Nat) (x:Lab) (hx:ls[j]? = some x) :
  b<n₀/\w.cell? ⟨b,off+j*2,none⟩=some (.string x.name)/\w.cell? ⟨b,off+j*2+1,none⟩=some (.string x.value):=by
 rcases h with⟨h,_⟩ | ⟨b',off',cap',e,hb,hc⟩
 ·simp at h
 ·simp only[Value.slice.injEq,Option.some.injEq,Addr.mk.injEq] at e
  obtain⟨⟨rfl,rfl,_⟩,_,rfl⟩:=e;have hj:j<ls.length:=(List.getElem?_eq_some_iff.1 hx).1;have:=jnf ls j x hx;rw[jpn] at hc;exact⟨hb,(hc (j*2) (by omega)).trans this.1,(hc (j*2+1) (by omega)).trans this.2⟩
set_option maxRecDepth 100000 in
set_option maxHeartbeats 1000000 in
theorem jkH (l Bs n₀ b off cap:Nat) (ls:List jiD) (hreach:ls.length<4294967281) (J Jx:List jiD->World->Prop)
  (hY:∀ pre x W,J pre W->pre.length<ls.length->YieldAt Fence.wide 7 Tryz.prog l #[.agg #[.string x.1.name,.string x.1.value]] W fun e W' =>
   (e=.returned (.bool true)/\J (pre++[x]) W'/\Below n₀ W W')\/(e=.returned (.bool false)/\Jx (pre++[x]) W'))
  (W:World) (hJ:AbidesFrom W.heap.size J) (hn₀:n₀<=W.heap.size) (hBs:W.cell? ⟨Bs,0,none⟩=some (.slice (some ⟨b,off,none⟩) ls.length cap)) (hc:Labs n₀ W (.slice (some ⟨b,off,none⟩) (ls.map (·.1)).length cap) (ls.map (·.1))) (h0:J [] W) :
  CallsIn Fence.wide 8 Tryz.prog 195 #[.func (.yield l) #[] #[],.pointer (some ⟨Bs,0,none⟩)] W fun e W'=>(∃ v,e=.returned v) /\
   ((∃ ys,ys=ls/\J ys W')\/(∃ pre,pre <+: ls/\Jx pre W')):=by
 refine callsIn_of_wp Tryz.func195 rfl trivial ?_ rfl;simp only[Tryz.ntmps195,List.size_toArray,List.length_cons,List.length_nil,Nat.reduceAdd,Nat.reduceSub,Array.replicate_succ,Array.replicate_zero,List.push_toArray,List.append_toArray,List.nil_append,List.cons_append];gi_wp2;gi_loopw [7] (fun i wr=>∃ k:Nat,k<=ls.length/\i=.int .i64 k/\J (ls.take k) wr/\Below n₀ W wr) (fun i _=>ls.length-(intOf i).toNat)
 case atStart=>exact⟨0,Nat.zero_le _,rfl,h0,Below.refl _ _⟩
 case round =>
  obtain⟨k,hk,rfl,hJs,hnx⟩:=hrel;by_cases hlt:k<ls.length
  ·obtain⟨x,hx⟩:∃ x,ls[k]? = some x:=⟨_,List.getElem?_eq_getElem hlt⟩
   obtain⟨hb,hc0,hc1⟩:=Labs.cells (SlAt.below hnx hc) k x.1 (by simp[hx]);have hJa:=hJ _ _ (wr.alloc (.cells #[.string x.1.name,.string x.1.value] 67)) none hJs (World.grownBy_alloc _ _ none) (fun r e=>by cases e);obtain⟨fn,tmps,assign,body,hy,hR⟩:=hY _ x _ hJa (by simp;omega);have HX:=Lib.hid hx;clear hx;gi_wp2;refine hR.mono ?_;rintro e W3 (⟨rfl,hJ3,hk3⟩ | ⟨rfl,hJx3⟩)
   ·gi_wp2
    go_roundw
    case rel=>exact⟨k+1,by omega,by simp,by rw[List.take_add_one,HX.out];exact hJ3,hnx.trans (((Below.refl n₀ wr).alloc (by have:=hnx.size;omega) _).trans hk3)⟩
    case measure=>simp[intOf];omega
   ·gi_wp2
    refine bodyPost_ret (results_none rfl _ _ _) rfl ?_;exact⟨⟨_,rfl⟩,.inr ⟨_,by have h:=List.take_prefix (k+1) ls;rwa [List.take_add_one,HX.out] at h,hJx3⟩⟩
  ·obtain rfl:k=ls.length:=by omega
   gi_wp2
   go_end0;exact⟨⟨_,rfl⟩,.inl ⟨_,List.take_length,hJs⟩⟩
set_option maxRecDepth 100000 in
set_option maxHeartbeats 1000000 in
theorem jgO (l Bs:Nat) (J:List jiD->World->Prop) (W:World) (hBs:W.cell? ⟨Bs,0,none⟩=some (.slice none 0 0)) (h0:J [] W) :
  CallsIn Fence.wide 8 Tryz.prog 195 #[.func (.yield l) #[] #[],.pointer (some ⟨Bs,0,none⟩)] W fun e W'=>(∃ v,e=.returned v)/\J [] W':=by
 refine callsIn_of_wp Tryz.func195 rfl trivial ?_ rfl;simp only[Tryz.ntmps195,List.size_toArray,List.length_cons,List.length_nil,Nat.reduceAdd,Nat.reduceSub,Array.replicate_succ,Array.replicate_zero,List.push_toArray,List.append_toArray,List.nil_append,List.cons_append];gi_wp2;gi_loopw [7] (fun i wr=>i=.int .i64 0/\J [] wr) (fun _ _=>0)
 case atStart=>exact⟨rfl,h0⟩
 case round =>
  obtain⟨rfl,hJs⟩:=hrel;gi_wp2;go_end0;exact⟨⟨_,rfl⟩,hJs⟩
theorem jhK (Bs n₀:Nat) (sv:Value) (ls:List jiD) (hreach:ls.length<4294967281) (w:World) (hBs:Bs<w.heap.size) (hn₀:n₀<=w.heap.size)
  (hc:w.cell? ⟨Bs,0,none⟩=some sv) (hI:Labs n₀ w sv (ls.map (·.1))) :
  SeqStopsK Fence.wide 8 Tryz.prog 195 #[.pointer (some ⟨Bs,0,none⟩)] (fun x:jiD=>#[.agg #[.string x.1.name,.string x.1.value]]) (Below n₀) (fun ys=>ys=ls) (fun pre=>pre <+: ls) ls.length w:=fun l J Jx W hW hJ _ hY h0=>by
 have hc':=(hW.cell (p:=⟨Bs,0,none⟩) hBs).trans hc;have hI':Labs n₀ W sv (ls.map (·.1)):=SlAt.below (hW.mono hn₀) hI;rcases id hI' with⟨rfl,hl,_⟩ | ⟨b,off,cap,rfl,hb,hcs⟩
 ·obtain rfl:ls=[]:=by simpa using hl
  exact (jgO l Bs J W hc' h0).mono fun e W' ⟨he,hj⟩=>⟨he,.inl ⟨_,rfl,hj⟩⟩
 ·rw[List.length_map] at hc'
  exact jkH l Bs n₀ b off cap ls hreach J Jx hY W hJ (Nat.le_trans hn₀ hW.size) hc' hI' h0
def jiv (a b:ByteArray):Bool:=Op.bytesLess a.toList b.toList||a.toList==b.toList
def jdv:ByteArray->List Lab->Bool
 | _,[]=>true
 | before,x::xs=>(jbD x.name && !jiv x.name before&&jbs x.value)&&jdv x.name xs
def jdQ:ByteArray->List Lab->ByteArray
 | before,[]=>before
 | _,x::xs=>jdQ x.name xs
theorem jlL (b:ByteArray) (ls:List Lab) (x:Lab):jdv b (ls++[x])=(jdv b ls&&(jbD x.name && !jiv x.name (jdQ b ls)&&jbs x.value)):=by
 induction ls generalizing b with
 | nil=>simp[jdv,jdQ]
 | cons y ys ih=>simp[jdv,jdQ,ih,Bool.and_assoc]
theorem ji7 (b:ByteArray) (ls:List Lab) (x:Lab):jdQ b (ls++[x])=x.name:=by
 induction ls generalizing b with
 | nil=>rfl
 | cons y ys ih=>simp[jdQ,ih]
theorem ji5 (b:ByteArray) (ps ls:List Lab) (h:ps <+: ls) (hf:jdv b ps=false):jdv b ls=false:=by
 obtain⟨t,rfl⟩:=h
 induction ps generalizing b with
 | nil=>simp[jdv] at hf
 | cons y ys ih =>
  simp only[jdv,List.cons_append] at hf ⊢;rcases Bool.and_eq_false_iff.1 hf with h | h
  ·simp[h]
  ·simp[ih _ h]
def jar (ls:List Lab):Bool:=ls.length != 0&&decide (ls.length<=6)&&jdv (⟨#[]⟩:ByteArray) ls
set_option maxRecDepth 100000 in
set_option maxHeartbeats 1000000 in
theorem jgh (a0:Option Addr) (cap:Nat) (ls:List jiD) (w:World) (hL:Labs w.heap.size w (.slice a0 ls.length cap) (ls.map (·.1))) (hG:GW w) (h1:decide ((6:Int)<ls.length)=false) (h2:((ls.length:Int)==0)=false) (h3:ls.length<4294967281) :
  Calls Tryz.prog 101 #[.slice a0 ls.length cap] w fun e w'=>e=.returned (.bool (jdv (⟨#[]⟩:ByteArray) (ls.map (·.1))))/\Below w.heap.size w w':=by
 refine jaT Tryz.func101 rfl ?_;simp only[Tryz.ntmps101,List.size_toArray,List.length_cons,List.length_nil,Nat.reduceAdd,Nat.reduceSub,Array.replicate_succ,Array.replicate_zero,List.push_toArray,List.append_toArray,List.nil_append,List.cons_append];go_wp2_with fail;go_step3;go_wp2_with fail;go_step3;go_wp2_with (go_at_call 128;refine (jkR _ _ _ _).mono ?_;rintro e w' ⟨rfl,rfl⟩);have bR:=Boxed.new w 4 (.bool true);have bB:=Boxed.new (w.alloc (.cells #[.bool true] 4)) 9 (.string (⟨#[]⟩:ByteArray));have bN:=Boxed.new ((w.alloc (.cells #[.bool true] 4)).alloc (.cells #[.string (⟨#[]⟩:ByteArray)] 9)) 68 (.slice a0 ls.length cap);have hB0:Below w.heap.size w (((w.alloc (.cells #[.bool true] 4)).alloc (.cells #[.string (⟨#[]⟩:ByteArray)] 9)).alloc (.cells #[.slice a0 ls.length cap] 68)):=(((Below.refl _ w).alloc (Nat.le_refl _) _).alloc (by simp) _).alloc (by simp;omega) _;simp only[World.size_alloc] at bB bN;have bR0:=(bR.alloc (.cells #[.string (⟨#[]⟩:ByteArray)] 9)).alloc (.cells #[.slice a0 ls.length cap] 68);have bB0:=bB.alloc (.cells #[.slice a0 ls.length cap] 68);have hsz:(((w.alloc (.cells #[.bool true] 4)).alloc (.cells #[.string (⟨#[]⟩:ByteArray)] 9)).alloc (.cells #[.slice a0 ls.length cap] 68)).heap.size=w.heap.size+3:=by simp
 generalize (((w.alloc (.cells #[.bool true] 4)).alloc (.cells #[.string (⟨#[]⟩:ByteArray)] 9)).alloc (.cells #[.slice a0 ls.length cap] 68))=W0 at bR0 bB0 bN hB0 hsz ⊢;clear bR bB
 refine jfy 67 (fun x:jiD=>#[.string x.1.name,.string x.1.value]) 5 (gf:=195) (lb:=#[.pointer (some ⟨w.heap.size+2,0,none⟩)]) rfl (enters_of Tryz.func195 (by kernel_rfl) rfl)
  (jhK (w.heap.size+2) w.heap.size _ ls h3 W0 (by omega) (by omega) bN.cell (SlAt.below hB0 hL)) (by omega) (Below.refl _ _) (fun _=>rfl)
  (fun pre W=>Boxed W w.heap.size 4 (.bool true)/\Boxed W (w.heap.size+1) 9 (.string (jdQ ⟨#[]⟩ (pre.map (·.1))))/\jdv ⟨#[]⟩ (pre.map (·.1))=true/\Below w.heap.size w W)
  (fun c pre W=>Boxed W w.heap.size 4 (.bool false)/\(c=.exit 0/\jdv ⟨#[]⟩ (pre.map (·.1))=false)/\Below w.heap.size w W)
  ((jjj _ _ _ _).and ((jjj _ _ _ _).and ((ownFrom_pure _ _).and (ownFrom_below (Nat.le_refl _) (by omega)))))
  (fun c=>(jjj _ _ _ _).and ((ownFrom_pure _ _).and (ownFrom_below (Nat.le_refl _) (by omega))))
  ⟨bR0,bB0,rfl,hB0⟩ ?assign ?body ?done ?stop
 case assign =>
  rintro l pre x W K ⟨hb1,hb2,hg,hB⟩ hs hK;simp only[List.zip_toArray,List.zip_cons_cons,List.zip_nil_right,List.size_toArray,List.foldl_toArray',List.foldl_cons,List.foldl_nil,List.setIfInBounds_toArray,List.set_cons_succ,List.set_cons_zero] at hK ⊢;gi_wp2;exact⟨hb1.alloc _,hb2.alloc _,hg,hB.alloc hB.size _⟩
 case body =>
  rintro l pre x W Bx ⟨hb1,hb2,hg,hB⟩ hBx hBl hx hlt;have c0:=cCc hx 0;have c1:=cCc hx 1;have c2:=hb2.cell;have c3:=hb1.cell;have c4:=hb1.frozen;have c5:=hb2.frozen;have hGW:GW W:=hG.below hB;have hB':=hB.size;simp at c0 c1;simp only[List.zip_toArray,List.zip_cons_cons,List.zip_nil_right,List.size_toArray,List.foldl_toArray',List.foldl_cons,List.foldl_nil,List.setIfInBounds_toArray,List.set_cons_succ,List.set_cons_zero];generalize hlast:jdQ ⟨#[]⟩ (pre.map (·.1))=last at c2 hb2;have hsn:=jlL ⟨#[]⟩ (pre.map (·.1)) x.1;rw[hg,hlast] at hsn;have hsl:=ji7 ⟨#[]⟩ (pre.map (·.1)) x.1;have HS:=Lib.hid hsn;have HL:=Lib.hid hsl;have hnm:=jlK x.1.name W (by have:=x.2.1;unfold maxLen;omega);clear hsn hsl hlast hsz hx;have hlt1:=hb1.lt;gi_wp2_with fail;refine⟨trivial,(CallsIn.inRound l (callsIn_wide.2 hnm)).mono ?_⟩;rintro e w1 ⟨rfl,hb1'⟩;have d0:=(hb1'.cell (p:=⟨Bx,0,none⟩) hBl).trans c0;have d1:=(hb1'.cell (p:=⟨Bx,1,none⟩) hBl).trans c1;have e1:=jcz hb1' hlt1 hb1;have e2:=jcz hb1' hb2.lt hb2;have d2:=e2.cell;have d3:=e1.cell;have d4:=e1.frozen;have d5:=e2.frozen;have hs1:=hb1'.size;have hBw:Below w.heap.size W w1:=hb1'.mono hB';have hKw:KeepsFrom W0.heap.size W w1:=jkM hb1' (Nat.le_refl _);clear hnm;by_cases hn:jbD x.1.name=true
  ·by_cases hle:(Op.bytesLess x.1.name.toList last.toList||x.1.name.toList==last.toList)=true
   ·gi_wp2_with fail
    refine⟨trivial,?_⟩;gi_wp2_with fail;exact⟨hKw.trans ((KeepsOthers.setCell _ _ _).from _),e1.set _,⟨rfl,by rw[List.map_append,List.map_singleton,HS.out,jiv,hle];simp⟩,hB.trans (hBw.setCell (p:=⟨w.heap.size,0,none⟩) (Nat.le_refl _) _)⟩
   ·have hle':(Op.bytesLess x.1.name.toList last.toList||x.1.name.toList==last.toList)=false:=by simpa using hle
    clear hle;have hvl:=jkc x.1.value w1 (by have:=x.2.2;unfold maxLen;omega) (hGW.below hb1');gi_wp2_with fail;refine⟨trivial,(CallsIn.inRound l (callsIn_wide.2 hvl)).mono ?_⟩;rintro e w2 ⟨rfl,hb2'⟩;have f0:=(hb2'.cell (p:=⟨Bx,0,none⟩) (by show Bx<_;omega)).trans d0;have g1:=jcz hb2' (by omega) e1;have g2:=jcz hb2' (by have:=hb2.lt;omega) e2;have k2:=g2.cell;have k3:=g1.cell;have k4:=g1.frozen;have k5:=g2.frozen;have hBw2:Below w.heap.size W w2:=hBw.trans (hb2'.mono (by omega));have hKw2:KeepsFrom W0.heap.size W w2:=hKw.trans (jkM hb2' (Nat.le_refl _));clear hvl;by_cases hv:jbs x.1.value=true
    ·gi_wp2_with fail
     refine⟨hKw2.trans ((KeepsOthers.setCell _ _ _).from _),hBw2.setCell (p:=⟨w.heap.size+1,0,none⟩) (Nat.le_succ _) _,g1.other (by omega) _,?_,?_,hB.trans (hBw2.setCell (p:=⟨w.heap.size+1,0,none⟩) (Nat.le_succ _) _)⟩
     ·rw[List.map_append,List.map_singleton,HL.out];exact g2.set _
     ·rw[List.map_append,List.map_singleton,HS.out,jiv,hle',hn,hv];rfl
    ·have hv':jbs x.1.value=false:=by simpa using hv
     clear hv;gi_wp2_with fail;exact⟨hKw2.trans ((KeepsOthers.setCell _ _ _).from _),g1.set _,⟨rfl,by rw[List.map_append,List.map_singleton,HS.out,hv'];simp⟩,hB.trans (hBw2.setCell (p:=⟨w.heap.size,0,none⟩) (Nat.le_refl _) _)⟩
  ·have hn':jbD x.1.name=false:=by simpa using hn
   clear hn;gi_wp2_with fail;refine⟨trivial,?_⟩;gi_wp2_with fail;exact⟨hKw.trans ((KeepsOthers.setCell _ _ _).from _),e1.set _,⟨rfl,by rw[List.map_append,List.map_singleton,HS.out,hn'];simp⟩,hB.trans (hBw.setCell (p:=⟨w.heap.size,0,none⟩) (Nat.le_refl _) _)⟩
 case done =>
  rintro D W hD ⟨hb1,hb2,hg,hB⟩ hK;have c3:=hb1.cell;have hDs:w.heap.size<=D:=by omega
  clear hsz;go_wp2_with fail;refine jbY hK (results_tmp rfl _ _ _) ⟨by rw[hg];rfl,jls hB hDs hK⟩
 case stop =>
  rintro D c pre W hD hp ⟨hb1,⟨rfl,hg⟩,hB⟩ hK;have c3:=hb1.cell;have hDs:w.heap.size<=D:=by omega
  clear hsz;go_wp2_with fail;refine jbY hK (results_tmp rfl _ _ _) ⟨by rw[ji5 _ _ _ (hp.map _) hg];rfl,jls hB hDs hK⟩
set_option maxHeartbeats 400000 in
theorem jcL (a0:Option Addr) (cap:Nat) (ls:List jiD) (w:World) (hL:Labs w.heap.size w (.slice a0 ls.length cap) (ls.map (·.1))) (hG:GW w) (h3:ls.length<4294967281) :
  Calls Tryz.prog 101 #[.slice a0 ls.length cap] w fun e w'=>e=.returned (.bool (jar (ls.map (·.1))))/\Below w.heap.size w w':=by
 by_cases h0:ls.length=0
 ·have h2:((ls.length:Int)==0)=true:=by simp[h0]
  have H0:=Lib.hid h0;clear h0;refine jaT Tryz.func101 rfl ?_;simp only[Tryz.ntmps101,List.size_toArray,List.length_cons,List.length_nil,Nat.reduceAdd,Nat.reduceSub,Array.replicate_succ,Array.replicate_zero,List.push_toArray,List.append_toArray,List.nil_append,List.cons_append];go_wp2_with fail;go_step3;go_wp2_with fail;exact jci (results_tmp rfl _ _ _) rfl ⟨by simp[jar,H0.out],Below.refl _ _⟩
 ·have h2:((ls.length:Int)==0)=false:=by rw[beq_eq_false_iff_ne];omega
  by_cases h6:ls.length<=6
  ·have h1:decide ((6:Int)<ls.length)=false:=by simp;omega
   refine (jgh a0 cap ls w hL hG h1 h2 h3).mono ?_;rintro e w' ⟨rfl,hb⟩;exact⟨by simp[jar,h6,h0],hb⟩
  ·have h1:decide ((6:Int)<ls.length)=true:=by simp;omega
   have H6:=Lib.hid h6;refine jaT Tryz.func101 rfl ?_;simp only[Tryz.ntmps101,List.size_toArray,List.length_cons,List.length_nil,Nat.reduceAdd,Nat.reduceSub,Array.replicate_succ,Array.replicate_zero,List.push_toArray,List.append_toArray,List.nil_append,List.cons_append];go_wp2_with fail;go_step3;go_wp2_with fail;exact jci (results_tmp rfl _ _ _) rfl ⟨by simp[jar,H6.out],Below.refl _ _⟩
end Go.Proofs.YtieknocphiceoaaGreatDoor
namespace Go.Proofs.YtieknocphiceoaaGreatDoor
open Go Go.RowKit
theorem jn5:Tryz.prog.underlying 229=some (.pointer 231):=by kernel_rfl
theorem jqk:Tryz.prog.underlying 269=some .unsafePointer:=by kernel_rfl
theorem jqi:(Tryz.prog.info? 231).map (·.size)=some 2:=by kernel_rfl
theorem jrN:liesAt Tryz.prog Tryz.prog.depth 231 (2 / Tryz.prog.cellsOf 231) 0 231 1=true:=by kernel_rfl
theorem jna:(Tryz.prog.info? 5).map (fun i=>(i.zero,i.size,i.bytes))=some (some (.int .u8 0),1,1):=by kernel_rfl
theorem jn6:Tryz.prog.underlying 191=some (.slice 5):=by kernel_rfl
set_option maxHeartbeats 1000000 in
set_option maxRecDepth 100000 in
theorem jf3 (b:Nat) (w:World) (h0:w.cell? ⟨b,0,none⟩=some (.pointer none)) (hsh:w.shape? b=some (231,2)) (hfz:w.frozen? ⟨b,0,none⟩=false) :
  Calls Tryz.prog 196 #[.pointer (some ⟨b,0,none⟩)] w fun e w'=>e=.returned (.tuple #[])/\w'=w.setCell ⟨b,0,none⟩ (.pointer (some ⟨b,0,none⟩)):=by
 obtain⟨j,hj,hjs⟩:=Option.map_eq_some_iff.1 jqi;go_enter Tryz.func196,Tryz.ntmps196;go_wp2;rw[Lib.run_to_unsafe w ⟨b,0,none⟩ jn5 jqk hj (by rw[hjs];decide) hsh (Nat.zero_lt_succ 1)];simp only[Result.andThen];rw[Oper.upon_value];go_wp2;rw[run_callFunc_extern Tryz.func213 (by kernel_rfl) (by kernel_rfl) (by kernel_rfl) (e:=Extern.AbiNoEscape.same) (by kernel_rfl)];rw[Lib.run_noEscape];simp only[Result.andThen];rw[Oper.upon_value];go_wp2;rw[Lib.run_from_unsafe w ⟨b,0,none⟩ jqk jn5 hj hsh jrN];simp only[Result.andThen];rw[Oper.upon_value];go_wp2;go_end0;exact⟨rfl,rfl⟩
set_option maxHeartbeats 1000000 in
theorem jgV (b:Nat) (w:World) (h0:w.cell? ⟨b,0,none⟩=some (.pointer (some ⟨b,0,none⟩))) :
  Calls Tryz.prog 196 #[.pointer (some ⟨b,0,none⟩)] w fun e w'=>e=.returned (.tuple #[])/\w'=w:=by
 obtain⟨j,hj,hjs⟩:=Option.map_eq_some_iff.1 jqi;have hn:=Lib.run_neq_ptr_same (P:=Tryz.prog) w ⟨b,0,none⟩ jn5 hj;go_enter Tryz.func196,Tryz.ntmps196;go_wp2;go_end0;exact⟨rfl,rfl⟩
theorem jeH (B b:Nat) (bs:List Value) (w:World) (h:Lib.IsBuilderF 231 5 B b bs w) :
  Calls Tryz.prog 196 #[.pointer (some ⟨b,0,none⟩)] w fun e w'=>e=.returned (.tuple #[])/\(Lib.BuilderAtF 231 5 B b (.pointer (some ⟨b,0,none⟩)) bs w'/\Below B w w'/\Lib.OthersKept 5 (some b) w w'):=by
 rcases h with h | h
 ·refine (jf3 b w h.cell0 h.shape h.frozen0).mono ?_
  rintro e w' ⟨rfl,rfl⟩;exact⟨rfl,h.used _,(Below.refl B w).setCell (p:=⟨b,0,none⟩) h.1 _,(Lib.OthersKept.refl _ _ w).setCell ⟨b,0,none⟩ rfl _⟩
 ·refine (jgV b w h.cell0).mono ?_
  rintro e w' ⟨rfl,rfl⟩;exact⟨rfl,h,Below.refl B _,Lib.OthersKept.refl _ _ _⟩
set_option maxHeartbeats 2000000 in
set_option maxRecDepth 100000 in
theorem jeB (B b:Nat) (bs:List Value) (c:Int) (w:World) (h:Lib.IsBuilderF 231 5 B b bs w) (hlen:bs.length+1<=140737488355328) (hBw:B<=w.heap.size) :
  Calls Tryz.prog 169 #[.pointer (some ⟨b,0,none⟩),.int .u8 c] w fun e w'=>e=.returned .nilIface/\(Lib.BuilderAtF 231 5 B b (.pointer (some ⟨b,0,none⟩)) (bs++[.int .u8 c]) w'/\Below B w w'/\Lib.OthersKept 5 (some b) w w'):=by
 obtain⟨i0,hi,hz0,hz1,hz2⟩:=info_parts jna;go_enter Tryz.func169,Tryz.ntmps169;go_wp2_with fail;refine (jeH B b bs _ h).mono ?_;rintro e w1 ⟨rfl,h1,hb1,hk1⟩;obtain⟨hB,v,hbk,hown,hne⟩:=h1;have c0:w1.cell? ⟨b,0,none⟩=some (.pointer (some ⟨b,0,none⟩)):=by rw[Lib.cell_of_heap hbk];rfl
 have c1:w1.cell? ⟨b,1,none⟩=some v:=by rw[Lib.cell_of_heap hbk];rfl
 go_wp2_with (at_builtin;refine wpList_append_ownF _ rfl _ _ 191 rfl B 5 i0 (.int .u8 0) 1 1 jn6 hi hz0 hz1 hz2 rfl (by decide) _ _ _ rfl (hown.alloc _) ⟨w1.heap.size,0,none⟩ 1 1 [.int .u8 c] rfl rfl ?c1 ?c2 ?c3 ?c4 ?c5 ?_)
 case c1 =>
  intro j u hj
  match j,hj with
  | 0,hj=>simp at hj;subst hj;simp[Addr.add]
 case c2=>intro u hu;simp at hu;subst hu;rfl
 case c3=>unfold maxLen;omega
 case c4=>omega
 case c5=>have:=hb1.size;simp;omega
 intro v' w2 hown' hgrow _;have hlt:b<w1.heap.size:=(Array.getElem?_eq_some_iff.1 hbk).1
 have hb2:w2.heap[b]? = some (.cells #[.pointer (some ⟨b,0,none⟩),v] 231 (0,0)):=by
  rw[hgrow.block b (by simp;omega) (fun e=>hne e.symm),Lib.alloc_old w1 _ b hlt];exact hbk
 have d0:w2.cell? ⟨b,0,none⟩=some (.pointer (some ⟨b,0,none⟩)):=by rw[Lib.cell_of_heap hb2];rfl
 have d1:w2.cell? ⟨b,1,none⟩=some v:=by rw[Lib.cell_of_heap hb2];rfl
 have f1:w2.frozen? ⟨b,1,none⟩=false:=Lib.frozen_of_heap hb2 1
 obtain⟨g,cap,rfl⟩:∃ g cap,v'=.slice (some ⟨g,0,none⟩) (bs.length+1) cap:=by
  rcases hown'.2 with⟨_,h0⟩ | ⟨g,cap,cur,fz,hv,_⟩
  ·omega
  ·exact⟨g,cap,hv⟩
 go_wp2;go_ret;refine⟨rfl,?_,?_,((hk1.alloc _).grown hgrow (Lib.ownsRowF_kind (hown.alloc _))).setCell ⟨b,1,none⟩ rfl _⟩
 ·exact Lib.BuilderAtF.put (T:=231) (e:=5) hB hb2 (bs':=bs++[.int .u8 c]) (by simpa using hown') (by decide)
 ·exact ((hb1.alloc (by have:=hb1.size;omega) _).grown hgrow (by have:=hb1.size;simp;omega) (fun k hk=>(hown.lt k hk).1)).setCell (p:=⟨b,1,none⟩) hB _
set_option maxHeartbeats 2000000 in
set_option maxRecDepth 100000 in
theorem jdq (B b:Nat) (bs:List Value) (r:Int) (hr0 : -2147483648<=r) (hr1:r<=2147483647) (w:World) (h:Lib.IsBuilderF 231 5 B b bs w) (hlen:bs.length+4<=140737488355328) (hBw:B<=w.heap.size) :
  Calls Tryz.prog 170 #[.pointer (some ⟨b,0,none⟩),.int .i32 r] w fun e w'=>(∃ v,e=.returned v)/\(Lib.BuilderAtF 231 5 B b (.pointer (some ⟨b,0,none⟩)) (bs++Lib.runeCells r) w'/\Below B w w'/\Lib.OthersKept 5 (some b) w w'):=by
 have hk4:=Lib.runeCells_le r;go_enter Tryz.func170,Tryz.ntmps170;go_wp2_with fail;refine (jeH B b bs _ h).mono ?_;rintro e w1 ⟨rfl,h1,hb1,hk1⟩;obtain⟨hB,v,hbk,hown,hne⟩:=h1
 obtain⟨ao,cap,rfl⟩:∃ ao cap,v=.slice ao bs.length cap:=by
  rcases hown.2 with⟨hv,h0⟩ | ⟨g,cap,cur,fz,hv,_⟩
  ·exact⟨none,0,by rw[hv,h0]⟩
  ·exact⟨_,_,hv⟩
 have c0:w1.cell? ⟨b,0,none⟩=some (.pointer (some ⟨b,0,none⟩)):=by rw[Lib.cell_of_heap hbk];rfl
 have c1:w1.cell? ⟨b,1,none⟩=some (.slice ao bs.length cap):=by rw[Lib.cell_of_heap hbk];rfl
 go_wp2_with fail;refine (Tryz.utf8_AppendRune_row B _ bs.length bs r hr0 hr1 _ hown hlen (by have:=hb1.size;omega)).mono ?_;rintro e w2 ⟨v',rfl,hown',o,hgrow⟩;have hlt:b<w1.heap.size:=(Array.getElem?_eq_some_iff.1 hbk).1
 have hb2:w2.heap[b]? = some (.cells #[.pointer (some ⟨b,0,none⟩),.slice ao bs.length cap] 231 (0,0)):=by
  rw[hgrow.block b (by simp;omega) (fun e=>hne e.symm),Lib.alloc_old w1 _ b hlt];exact hbk
 have d0:w2.cell? ⟨b,0,none⟩=some (.pointer (some ⟨b,0,none⟩)):=by rw[Lib.cell_of_heap hb2];rfl
 have d1:w2.cell? ⟨b,1,none⟩=some (.slice ao bs.length cap):=by rw[Lib.cell_of_heap hb2];rfl
 have f1:w2.frozen? ⟨b,1,none⟩=false:=Lib.frozen_of_heap hb2 1
 obtain⟨g,cap',rfl⟩:∃ g cap',v'=.slice (some ⟨g,0,none⟩) (bs.length+(Lib.runeCells r).length) cap':=by
  rcases hown'.2 with⟨_,h0⟩ | ⟨g,cap',cur,fz,hv,_⟩
  ·omega
  ·exact⟨g,cap',hv⟩
 go_wp2;go_ret2;refine⟨⟨_,rfl⟩,?_,?_,((hk1.alloc _).grown hgrow (Lib.ownsRowF_kind (hown.alloc _))).setCell ⟨b,1,none⟩ rfl _⟩
 ·exact Lib.BuilderAtF.put (T:=231) (e:=5) hB hb2 (bs':=bs++Lib.runeCells r) (by simpa using hown') (by decide)
 ·exact ((hb1.alloc (by have:=hb1.size;omega) _).grown hgrow (by have:=hb1.size;simp;omega) (fun k hk=>(hown.lt k hk).1)).setCell (p:=⟨b,1,none⟩) hB _
end Go.Proofs.YtieknocphiceoaaGreatDoor
namespace Go.Proofs.YtieknocphiceoaaGreatDoor
open Go Go.RowKit Go.Shelf
def jaH (l:List (Nat × Int)):List UInt8:=l.flatMap fun p=>(if p.2==44||p.2==92 then [92] else [])++Lib.encodeRune p.2
theorem jfu (l:List (Nat × Int)) (p:Nat × Int):jaH (l++[p])=jaH l++((if p.2==44||p.2==92 then [92] else [])++Lib.encodeRune p.2):=by simp[jaH]
theorem jrK (r:Int):(Lib.encodeRune r).length<=4:=by have:=Lib.runeCells_le r;rw[Lib.runeCells_length] at this;omega
theorem jeu (l:List (Nat × Int)):(jaH l).length<=5*l.length:=by
 induction l with
 | nil=>simp[jaH]
 | cons x xs ih =>
  have h:=jrK x.2;have e:jaH (x::xs)=((if x.2==44||x.2==92 then [92] else [])++Lib.encodeRune x.2)++jaH xs:=by simp[jaH]
  rw[e,List.length_append,List.length_append,List.length_cons];split<;>simp<;>omega
theorem jpk {T e:TypeId} {B b k:Nat} {bs:List Value} {w w':World} {s:ByteArray} {pos:Nat} (h:Lib.IsBuilderF T e B b bs w) (hk:w.heap[k]? = some (.stringIter s pos)) (hs:∀ j,j≠k->w'.heap[j]? = w.heap[j]?):Lib.IsBuilderF T e B b bs w':=by
 have one:∀ p,Lib.BuilderAtF T e B b p bs w->Lib.BuilderAtF T e B b p bs w':=fun p ⟨h1,v,h2,h3,h4⟩=>by
  refine⟨h1,v,?_,⟨h3.1,?_⟩,h4⟩
  ·rw[hs b (fun e=>by rw[e,hk] at h2;cases h2)];exact h2
  ·rcases h3.2 with h5 | ⟨g,cap,cur,fz,hv,hg,hh,r⟩
   ·exact .inl h5
   ·exact .inr ⟨g,cap,cur,fz,hv,hg,by rw[hs g (fun e=>by rw[e,hk] at hh;cases hh)];exact hh,r⟩
 exact h.imp (one _) (one _)
theorem jqQ {T e:TypeId} {B b:Nat} {bs:List Value} {w w':World} (h:Lib.IsBuilderF T e B b bs w) (hs:∀ j,j<w.heap.size->w'.heap[j]? = w.heap[j]?):Lib.IsBuilderF T e B b bs w':=by
 have one:∀ p,Lib.BuilderAtF T e B b p bs w->Lib.BuilderAtF T e B b p bs w':=fun p ⟨h1,v,h2,h3,h4⟩=>by
  refine⟨h1,v,(hs b (Array.getElem?_eq_some_iff.1 h2).1).trans h2,⟨h3.1,?_⟩,h4⟩;rcases h3.2 with h5 | ⟨g,cap,cur,fz,hv,hg,hh,r⟩
  ·exact .inl h5
  ·exact .inr ⟨g,cap,cur,fz,hv,hg,(hs g (Array.getElem?_eq_some_iff.1 hh).1).trans hh,r⟩
 exact h.imp (one _) (one _)
set_option maxRecDepth 100000 in
set_option maxHeartbeats 1000000 in
theorem jl0 (s:ByteArray) (w:World) (hs:s.size<4294967281):Calls Tryz.prog 129 #[.string s] w fun e w'=>e=.returned (.string ⟨(jaH (rl s 0)).toArray⟩)/\Below w.heap.size w w':=by
 obtain⟨W0,hW0,hX0,hB0,hs0⟩:=jah w #[.pointer none,.slice none 0 0] 231;have hbu:Lib.IsBuilderF 231 5 w.heap.size w.heap.size [] W0:=by rw[<- hW0];exact Lib.IsBuilderF.of (Lib.fresh_isBuilder _ _ w)
 have hit0:=World.iter_heap W0 s 0;have hBi:Below w.heap.size w (W0.iter s 0):=hB0.alloc hB0.size _;have hbi:Lib.IsBuilderF 231 5 w.heap.size w.heap.size [] (W0.iter s 0):=jqQ hbu (fun j hj=>Below.heap_alloc _ _ _ hj);rw[hs0] at hit0;have HW0:=Lib.hid hW0;clear hW0 hX0 hs0 hbu;go_enter Tryz.func129,Tryz.ntmps129;go_wp2_with fail;rw[HW0.out];go_loopw [5] (fun _ wr=>∃ (pos:Nat) (done:List (Nat × Int)),wr.heap[w.heap.size+1]? = some (.stringIter s pos)/\Below w.heap.size w wr/\Lib.IsBuilderF 231 5 w.heap.size w.heap.size (Lib.byteCells (jaH done)) wr/\done.length<=pos  /\ Hid (rl s 0=done++rl s pos)) (fun _ wr=>s.size-wr.iterPos (w.heap.size+1))
 case atStart=>exact⟨0,[],hit0,hBi,hbi,Nat.le_refl _,rfl⟩
 case round =>
  obtain⟨pos,done,hit,hB,hbd,hdl,HS⟩:=hrel;have hpos0:=jaZ hit;have hql:=jeu done;by_cases hp:pos<s.size
  ·obtain⟨W1,hnx,hit2,hB2,hsz2,hoth⟩:=jd7 (P:=Tryz.prog) hit hB (Nat.le_succ _) hp
   have hbd1:=jpk hbd hit hoth;have hstep:=Lib.hid (jd0 s pos hp);have hd:=jdM s pos hp;have hle:=decode_le s pos;have hqc:(Lib.byteCells (jaH done)).length=(jaH done).length:=by simp[Lib.byteCells]
   have hsW:w.heap.size<=W1.heap.size:=hB2.size;by_cases hc:((Utf8.decode s pos).1:Int)=44\/((Utf8.decode s pos).1:Int)=92
   ·have HC:Hid ((((Utf8.decode s pos).1:Int)==44||((Utf8.decode s pos).1:Int)==92)=true):=by
     rcases hc with hc | hc<;>simp[Hid,hc]
    have fin:∀ (w2 w3:World) (hw2:Lib.BuilderAtF 231 5 w.heap.size w.heap.size (.pointer (some ⟨w.heap.size,0,none⟩)) (Lib.byteCells (jaH done)++[.int .u8 92]++Lib.runeCells ((Utf8.decode s pos).1:Int)) w3) (hb1:Below w.heap.size W1 w2) (hk1:Lib.OthersKept 5 (some w.heap.size) W1 w2) (hb2:Below w.heap.size w2 w3) (hk2:Lib.OthersKept 5 (some w.heap.size) w2 w3),∃ (pos':Nat) (done':List (Nat × Int)),w3.heap[w.heap.size+1]? = some (.stringIter s pos')/\Below w.heap.size w w3/\Lib.IsBuilderF 231 5 w.heap.size w.heap.size (Lib.byteCells (jaH done')) w3/\done'.length<=pos'/\Hid (rl s 0=done'++rl s pos'):=by
     intro w2 w3 hw2 hb1 hk1 hb2 hk2;refine⟨pos+(Utf8.decode s pos).2,done++[(pos,((Utf8.decode s pos).1:Int))],hk2.iter (hk1.iter hit2 (by omega)) (by omega),(hB2.trans hb1).trans hb2,?_,by simp;omega,?_⟩
     ·rw[jfu,if_pos HC.out,Lib.byteCells_append,Lib.byteCells_append,Lib.byteCells_encodeRune,<- List.append_assoc]
      exact .inr hw2
     ·show rl s 0=_
      rw[HS.out,hstep.out];simp
    have hcc:((((Utf8.decode s pos).1:Int)==44)=true)\/((((Utf8.decode s pos).1:Int)==44)=false/\(((Utf8.decode s pos).1:Int)==92)=true):=by
     rcases hc with hc | hc
     ·exact .inl (by simp[hc])
     ·exact .inr (by simp[hc])
    clear hc;rcases hcc with hc1 | ⟨hc1,hc2⟩
    ·go_wp2_with (first | (go_at_call 169;refine (jeB w.heap.size w.heap.size _ 92 _ hbd1 (by omega) hsW).mono ?_;rintro e w2 ⟨rfl,h1,hb1,hk1⟩) | (go_at_call 170;refine (jdq w.heap.size w.heap.size _ _ (by omega) (by omega) _ (.inr h1) (by rw[List.length_append,List.length_singleton];omega) (by have:=hb1.size;omega)).mono ?_;rintro e w3 ⟨⟨v,rfl⟩,h2,hb2,hk2⟩))
     go_roundw
     case rel=>exact fin w2 _ h2 hb1 hk1 hb2 hk2
     case measure=>rw[jaZ (hk2.iter (hk1.iter hit2 (by omega)) (by omega)),hpos0];omega
    ·go_wp2_with (first | (go_at_call 169;refine (jeB w.heap.size w.heap.size _ 92 _ hbd1 (by omega) hsW).mono ?_;rintro e w2 ⟨rfl,h1,hb1,hk1⟩) | (go_at_call 170;refine (jdq w.heap.size w.heap.size _ _ (by omega) (by omega) _ (.inr h1) (by rw[List.length_append,List.length_singleton];omega) (by have:=hb1.size;omega)).mono ?_;rintro e w3 ⟨⟨v,rfl⟩,h2,hb2,hk2⟩))
     go_roundw
     case rel=>exact fin w2 _ h2 hb1 hk1 hb2 hk2
     case measure=>rw[jaZ (hk2.iter (hk1.iter hit2 (by omega)) (by omega)),hpos0];omega
   ·have hc1:(((Utf8.decode s pos).1:Int)==44)=false:=by simp;omega
    have hc2:(((Utf8.decode s pos).1:Int)==92)=false:=by simp;omega
    clear hc;go_wp2_with (go_at_call 170;refine (jdq w.heap.size w.heap.size _ _ (by omega) (by omega) _ hbd1 (by omega) hsW).mono ?_;rintro e w3 ⟨⟨v,rfl⟩,h2,hb2,hk2⟩);go_roundw
    case rel =>
     refine⟨pos+(Utf8.decode s pos).2,done++[(pos,((Utf8.decode s pos).1:Int))],hk2.iter hit2 (by omega),hB2.trans hb2,?_,by simp;omega,?_⟩
     ·rw[jfu,if_neg (by rw[hc1,hc2];decide),List.nil_append,Lib.byteCells_append,Lib.byteCells_encodeRune]
      exact .inr h2
     ·show rl s 0=_
      rw[HS.out,hstep.out];simp
    case measure=>rw[jaZ (hk2.iter hit2 (by omega)),hpos0];omega
  ·have hnx:∀ ty,(Instr.next (.pointer (some ⟨w.heap.size+1,0,none⟩)) true ty).run Tryz.prog wr=_:=fun ty=>Lib.run_next_end_at wr (w.heap.size+1) s pos ty hit hp
   go_wp2_with (go_at_call 171;refine (Tryz.Builder_String_any_f w.heap.size w.heap.size _ _ hbd hB.size).mono ?_;rintro e w3 ⟨rfl,h2,hb2⟩);go_ret;have h3:=HS.out;rw[jej s pos hp,List.append_nil] at h3;rw[h3];exact⟨rfl,hB.trans hb2⟩
deriving instance DecidableEq for Lab
def jau:List Lab->List Lab->Bool
 | [],bs=>decide (0<bs.length)
 | _::_,[]=>false
 | x::xs,y::ys=>if x.name=y.name/\x.value=y.value then jau xs ys else if x.name≠y.name then Op.bytesLess x.name.toList y.name.toList else Op.bytesLess x.value.toList y.value.toList
theorem jja {n₀:Nat} {w:World} {a:Option Addr} {len:Nat} {l:List Lab} (h:SlE Lab.enc 2 n₀ w a len l) {j:Nat} (hj:j<len) :
  ∃ x b off,l[j]? = some x/\a=some ⟨b,off,none⟩/\b<n₀/\w.cell? ⟨b,off+j*2,none⟩=some (.string x.name)/\w.cell? ⟨b,off+j*2+1,none⟩=some (.string x.value):=by
 obtain⟨x,b,off,hx,e,hb,hc⟩:=h.at hj;exact⟨x,b,off,hx,e,hb,hc 0 (by omega),hc 1 (by omega)⟩
theorem jc5 (a b:ByteArray):(a.toList==b.toList)=decide (a=b):=by
 by_cases h:a=b
 ·subst h;simp
 ·rw[decide_eq_false h,beq_eq_false_iff_ne]
  intro e;apply h;rw[Lib.toList_data,Lib.toList_data] at e;exact ByteArray.ext (Array.ext' e)
theorem jaJ {α:Type} {l:List α} {k:Nat} {x:α} (h:l[k]? = some x):l.drop k=x::l.drop (k+1):=by
 obtain⟨hk,rfl⟩:=List.getElem?_eq_some_iff.1 h;exact List.drop_eq_getElem_cons hk
theorem jmN:Tryz.prog.eqGuardType Tryz.prog.depth 67=false:=by kernel_rfl
theorem jmO (x1 x2 y1 y2:ByteArray) (w:World):(binOp .eql 67 (.agg #[.string x1,.string x2]) (.agg #[.string y1,.string y2])).run Tryz.prog w=.ok (.bool (x1.toList==y1.toList&&x2.toList==y2.toList)) w:=by
 have h1:Tryz.prog.underlying 67=some (.struct (Tryz.prog.fieldsOf 67)):=by kernel_rfl
 have h2:Tryz.prog.stoodInHeld 67=false:=by kernel_rfl
 have h3 : (Tryz.prog.fieldsOf 67).toList = [{ name := "Name", type := 9, offset := 0, embedded := false, tag := "", pkgPath := "", byteOffset := 0 }, { name := "Value", type := 9, offset := 1, embedded := false, tag := "", pkgPath := "", byteOffset := 16 }] := by kernel_rfl
 rw[run_eql_struct,run_equalIn_agg w 9999 _ _ _ h1 h2,h3]
 cases ha:(x1.toList==y1.toList)<;>cases hb:(x2.toList==y2.toList)<;>simp[go_sem,ha,hb,Tryz.underlying9]
theorem jii (x1 x2 y1 y2:ByteArray) (w:World):(binOp .neq 67 (.agg #[.string x1,.string x2]) (.agg #[.string y1,.string y2])).run Tryz.prog w=.ok (.bool (!(x1.toList==y1.toList&&x2.toList==y2.toList))) w:=by
 have h1:Tryz.prog.underlying 67=some (.struct (Tryz.prog.fieldsOf 67)):=by kernel_rfl
 have h2:Tryz.prog.stoodInHeld 67=false:=by kernel_rfl
 have h3 : (Tryz.prog.fieldsOf 67).toList = [{ name := "Name", type := 9, offset := 0, embedded := false, tag := "", pkgPath := "", byteOffset := 0 }, { name := "Value", type := 9, offset := 1, embedded := false, tag := "", pkgPath := "", byteOffset := 16 }] := by kernel_rfl
 rw[run_neq_struct,run_equalIn_agg w 9999 _ _ _ h1 h2,h3]
 cases ha:(x1.toList==y1.toList)<;>cases hb:(x2.toList==y2.toList)<;>simp[go_sem,ha,hb,Tryz.underlying9]
set_option maxRecDepth 100000 in
set_option maxHeartbeats 1000000 in
theorem jc8 (a1:Option Addr) (len1 cap1:Nat) (l1:List Lab) (a2:Option Addr) (len2 cap2:Nat) (l2:List Lab) (w:World) (h1:SlE Lab.enc 2 w.heap.size w a1 len1 l1) (h2:SlE Lab.enc 2 w.heap.size w a2 len2 l2) (hm:len1<=maxLen) (hm2:len2<=maxLen) :
  Calls Tryz.prog 83 #[.slice a1 len1 cap1,.slice a2 len2 cap2] w fun e w'=>e=.returned (.bool (jau l1 l2))/\Below w.heap.size w w':=by
 unfold maxLen at hm hm2;have E1:=Lib.hid h1.1;have E2:=Lib.hid h2.1;go_enter Tryz.func83,Tryz.ntmps83;go_wp2_with fail;go_loopw [4,10] (fun _ i wr=>∃ (k:Nat),i=.int .i64 k/\k<=len1/\k<=len2/\Below w.heap.size w wr/\Hid (jau l1 l2=jau (l1.drop k) (l2.drop k))) (fun _ i _=>len1-(intOf i).toNat)
 case atStart=>exact⟨0,rfl,Nat.zero_le _,Nat.zero_le _,Below.refl _ _,rfl⟩
 case round =>
  obtain⟨k,rfl,hk,hk2,hB,HF⟩:=hrel;have hsz:=hB.size;by_cases hlt:k<len1
  ·obtain⟨x,b1,o1,hx,ea1,hb1,p0,p1⟩:=jja (h1.below hB) hlt
   subst ea1;by_cases hlt2:k<len2
   ·obtain⟨y,b2,o2,hy,ea2,hb2,q0,q1⟩:=jja (h2.below hB) hlt2
    subst ea2;obtain⟨x1,x2⟩:=x;obtain⟨y1,y2⟩:=y;dsimp only at p0 p1 q0 q1;have t0:((k:Int)==(len2:Int))=false:=by rw[beq_eq_false_iff_ne];omega
    have HX:Hid (jau l1 l2=if x1=y1/\x2=y2 then jau (l1.drop (k+1)) (l2.drop (k+1)) else if x1≠y1 then Op.bytesLess x1.toList y1.toList else Op.bytesLess x2.toList y2.toList):=by
     rw[Hid,HF.out,jaJ hx,jaJ hy];rfl
    clear hx hy h1 h2 HF;have i0:(0:Int)<=(k:Int):=by omega
    have i1:(k:Int)<(len1:Int):=by omega
    have i2:(k:Int)<(len2:Int):=by omega
    obtain⟨W1,hW1,hX1,hB1,hs1⟩:=jah wr #[.string x1,.string x2] 67;have u0:W1.cell? ⟨b2,o2+k*2,none⟩=some (.string y1):=(hB1.cell (p:=⟨b2,o2+k*2,none⟩) (by show b2<_;omega)).trans q0;have u1:W1.cell? ⟨b2,o2+k*2+1,none⟩=some (.string y2):=(hB1.cell (p:=⟨b2,o2+k*2+1,none⟩) (by show b2<_;omega)).trans q1;obtain⟨W2,hW2,hX3,hB3,hs2⟩:=jah W1 #[.string y1,.string y2] 67;have hX2:=(hB3.block wr.heap.size (by omega)).trans hX1;have hB2:Below wr.heap.size wr W2:=hB1.trans (hB3.mono (by omega));obtain⟨r0,r1⟩:=cl2 hX2;have r2:W2.cell? ⟨W1.heap.size,0,none⟩=some (.string y1):=cCc hX3 0;have r3:W2.cell? ⟨W1.heap.size,1,none⟩=some (.string y2):=cCc hX3 1;clear hX1 hX2 hX3 q0 q1 hs1 hs2;have hBB:Below w.heap.size w W2:=hB.trans (hB2.mono hsz);have n2:=jmN;have hn:=jc5 x1 y1;have hv:=jc5 x2 y2;by_cases hx1:x1=y1
    ·by_cases hx2:x2=y2
     ·have n1:∀ w,(binOp .eql 67 (.agg #[.string x1,.string x2]) (.agg #[.string y1,.string y2])).run Tryz.prog w=.ok (.bool true) w:=fun w=>by rw[jmO,hn,hv];simp[hx1,hx2]
      have HXY:=Lib.hid (And.intro hx1 hx2);clear hx1 hx2 hn hv;go_wp2_with fail
      all_goals go_roundw
      case rel=>exact⟨k+1,by go_num,by omega,by omega,hBB,by rw[Hid,HX.out,if_pos HXY.out]⟩
      case measure=>simp[intOf];omega
     ·have n1:∀ w,(binOp .eql 67 (.agg #[.string x1,.string x2]) (.agg #[.string y1,.string y2])).run Tryz.prog w=.ok (.bool false) w:=fun w=>by rw[jmO,hn,hv];simp[hx2]
      have n3:(x1.toList==y1.toList)=true:=by rw[hn];simp[hx1]
      have HXY:Hid (¬ (x1=y1/\x2=y2)/\¬ (x1≠y1)):=⟨fun h=>hx2 h.2,fun h=>h hx1⟩;clear hx1 hx2 hn hv;go_wp2_with fail;go_ret;exact⟨by rw[HX.out,if_neg HXY.out.1,if_neg HXY.out.2];rfl,hBB⟩
    ·have n1:∀ w,(binOp .eql 67 (.agg #[.string x1,.string x2]) (.agg #[.string y1,.string y2])).run Tryz.prog w=.ok (.bool false) w:=fun w=>by rw[jmO,hn,hv];simp[hx1]
     have n3:(x1.toList==y1.toList)=false:=by rw[hn];simp[hx1]
     have HXY:Hid (¬ (x1=y1/\x2=y2)/\(x1≠y1)):=⟨fun h=>hx1 h.1,hx1⟩;clear hx1 hn hv;go_wp2_with fail;go_ret;exact⟨by rw[HX.out,if_neg HXY.out.1,if_pos HXY.out.2];rfl,hBB⟩
   ·have t0:((k:Int)==(len2:Int))=true:=by rw[beq_iff_eq];omega
    have i0:(0:Int)<=(k:Int):=by omega
    have i1:(k:Int)<(len1:Int):=by omega
    have HX:Hid (jau l1 l2=false):=by
     rw[Hid,HF.out,jaJ hx,(List.drop_eq_nil_of_le (by rw[<- E2.out];omega):l2.drop k=[])];rfl
    have hBa:Below w.heap.size w (wr.alloc (.cells #[.string x.name,.string x.value] 67)):=hB.alloc hsz _;clear hx h1 h2 HF;go_wp2_with fail;go_ret;exact⟨by rw[HX.out];rfl,hBa⟩
  ·have HX:Hid (jau l1 l2=decide ((len1:Int)<len2)):=by
    rw[Hid,HF.out,List.drop_eq_nil_of_le (by rw[<- E1.out];omega),jau,List.length_drop,<- E2.out];simp;omega
   clear h1 h2 HF;go_wp2_with fail;go_ret;exact⟨by rw[HX.out];simp,hB⟩
end Go.Proofs.YtieknocphiceoaaGreatDoor

/- What rows have in common: requests and replies opened, the two sentinels of field, beside the tables of unicode/utf8. -/
import Derived.Lib.LaidTab
import Derived.Lib.LaidU8T
import Derived.Stop.LaidTwo
import Derived.Test.YtlmlcadcdhhlcaaGreatDoorZWbm
set_option maxRecDepth 100000
namespace Go.Proofs.YtlmlcadcdhhlcaaGreatDoor
open Go Go.ChangeAt Go.ChangeShapes Go.Deep Go.Lib Go.RowKit Go.Shelf Go.WideShapes
section
section
variable {H:Type} {enc:TypeId × Value->H} {w:World} {base:Nat} {held:Bool}
theorem jhx:Tryz.prog.underlying 27=some (.int .i64):=by kernel_rfl
theorem jgN (n:Nat) (A:List Value) (x:DataW H × List MemPlace) (h:DataW.trod enc Tryz.prog w base (fun _=>true) held n 22 A=some x):∃ y:Int,A=jca y/\U64 y:=by
 obtain⟨C,B,-,w0⟩:=DataW.trod_int jbw h;exact⟨C,B,jbx w0⟩
theorem jgf (n:Nat) (A:List Value) (x:DataW H × List MemPlace) (h:DataW.trod enc Tryz.prog w base (fun _=>true) held n 3 A=some x):∃ y:Int,A=jct y/\True:=by
 obtain⟨C,B,-,w0⟩:=DataW.trod_int jgP h;exact⟨C,B,trivial⟩
theorem jf3 (n:Nat) (B:List Value) (x:DataW H × List MemPlace) (h:DataW.trod enc Tryz.prog w base (fun _=>true) held n 103 B=some x):∃ y:Ent,B=Ent.enc y/\(U64 y.seq/\U64 y.tm/\U64 y.sum):=by
 obtain⟨P,m,A⟩:=ja9 Tryz.underlying103 (by kernel_rfl) (by kernel_rfl) h;obtain⟨X,f,F,L⟩:=A 0 _ rfl;obtain⟨Y,g,G,M⟩:=A 1 _ rfl;obtain⟨Z,i,I,N⟩:=A 2 _ rfl;obtain⟨e,j,J,O⟩:=A 3 _ rfl;obtain⟨Q,C,-,w0⟩:=DataW.trod_int jbw L;obtain⟨R,D,-,U⟩:=DataW.trod_int jbw M;obtain⟨S,E,-,-⟩:=DataW.trod_string jeo N;obtain⟨T,c3,-,V⟩:=DataW.trod_int jbw O
 match B,P with
 | [a,b,c,d],_ =>
  simp only[List.getElem?_cons_zero,List.getElem?_cons_succ,Option.some.injEq,List.cons.injEq,and_true] at F G I J C D E c3;exact⟨⟨Q,R,S,T⟩,by rw[F,G,I,J,C,D,E,c3];rfl,jbx w0,jbx U,jbx V⟩
theorem jha {r:Reach} {o:Nat} {v:Value} {d:DataW H} {p:List MemPlace} (hv:Value.okWide Tryz.prog w r o 48 v) (h:DataW.Trod enc Tryz.prog w base (fun _=>true) held 48 v d p) :
  ∃ (q:Rq) (F:Option Addr) (G:Nat) (ta:Option Addr) (I:Nat),v=.agg (rqV q F G ta I)/\q.Wf/\q.items.length<=G/\q.tens.length<=I/\SlE ja1 2 w.heap.size w F q.items.length q.items/\SlE jca 1 w.heap.size w ta q.tens.length q.tens:=by
 obtain⟨E,rfl,-⟩:=okWide_struct Tryz.underlying48 hv;obtain⟨B,A⟩:=h;change DataW.trod enc Tryz.prog w base (fun _=>true) held B 48 E.toList=_ at A;obtain⟨hl,m,A⟩:=ja9 Tryz.underlying48 (by kernel_rfl) (by kernel_rfl) A;obtain⟨v0,y0,T,t⟩:=A 0 _ rfl;obtain⟨v1,y1,U,u⟩:=A 1 _ rfl;obtain⟨v2,y2,V,x⟩:=A 2 _ rfl;obtain⟨v3,y3,X,y⟩:=A 3 _ rfl;obtain⟨v4,y4,Y,z⟩:=A 4 _ rfl;obtain⟨v5,y5,Z,h5⟩:=A 5 _ rfl;obtain⟨v6,y6,a,h6⟩:=A 6 _ rfl;obtain⟨v7,y7,b,h7⟩:=A 7 _ rfl;obtain⟨v8,y8,c,h8⟩:=A 8 _ rfl;obtain⟨v9,y9,e,C⟩:=A 9 _ rfl;obtain⟨s0,N,-,-⟩:=DataW.trod_int jgP t;obtain⟨s1,O,-,w1⟩:=DataW.trod_int jbw u;obtain⟨s2,P,-,-⟩:=DataW.trod_string jeo x;obtain⟨s3,c3,-,-⟩:=DataW.trod_string jeo y;obtain⟨s4,c4,-,-⟩:=DataW.trod_int jgP z;obtain⟨F,il,G,D,c5,J,g⟩:=jcz (k:=2) (encA:=ja1) (by omega) Tryz.underlying45 (by kernel_rfl) jgg h5;obtain⟨s6,Q,-,w6⟩:=DataW.trod_int jbw h6;obtain⟨s7,R,-,w7⟩:=DataW.trod_int jbw h7;obtain⟨s8,S,-,w8⟩:=DataW.trod_int jbw h8;obtain⟨ta,tl,I,f,s,L,j⟩:=jcz (k:=1) (encA:=jca) (by omega) Tryz.underlying46 (by kernel_rfl) jgN C;obtain rfl:il=D.length:=J.1.1;obtain rfl:tl=f.length:=L.1.1;refine⟨⟨s0,s1,s2,s3,s4,D,s6,s7,s8,f⟩,F,G,ta,I,?_,⟨jbx w1,fun i hi=>?_,jbx w6,jbx w7,jbx w8,fun n hn=>j n hn⟩,J.2.1,L.2.1,J.1,L.1⟩
 ·have M:E.toList.length=10:=hl
  generalize hcs:E.toList=l at *
  match l,M with
  | [a0,a1,a2,a3,a4,a5,a6,a7,a8,a9],_ =>
   simp only[List.getElem?_cons_zero,List.getElem?_cons_succ,Option.some.injEq,List.cons.injEq,and_true] at T U V X Y Z a b c e N O P c3 c4 Q R S;rw[<- Array.toArray_toList (xs:=E),hcs,T,U,V,X,Y,Z,a,b,c,e,N,O,P,c3,c4,c5,Q,R,S,s];rfl
 ·have C:=g i hi
  unfold Item.ok at C;exact⟨⟨by omega,by have:=C.1;omega⟩,C.2⟩
theorem jfu {r:Reach} {V:Nat} {v:Value} {d:DataW H} {p:List MemPlace} (f:Value.okWide Tryz.prog w r V 52 v) (h:DataW.Trod enc Tryz.prog w base (fun _=>true) held 52 v d p) :
  ∃ (q:Ry) (E:Option Addr) (F:Nat) (D:Option Addr) (I:Nat),v=.agg (ryV q E F D I)/\q.Wf/\q.nots.length<=F/\SlE jct 1 w.heap.size w E q.nots.length q.nots/\SlE Ent.enc 4 w.heap.size w D q.ents.length q.ents:=by
 obtain⟨C,rfl,-⟩:=okWide_struct Tryz.underlying52 f;obtain⟨B,A⟩:=h;change DataW.trod enc Tryz.prog w base (fun _=>true) held B 52 C.toList=_ at A;obtain⟨e,m,A⟩:=ja9 Tryz.underlying52 (by kernel_rfl) (by kernel_rfl) A;obtain⟨s,z,O,Z⟩:=A 0 _ rfl;obtain⟨t,y1,P,a⟩:=A 1 _ rfl;obtain⟨u,y2,Q,b⟩:=A 2 _ rfl;obtain⟨y,y3,R,c⟩:=A 3 _ rfl;obtain⟨j,M,-,-⟩:=DataW.trod_int jhx Z;obtain⟨n,N,-,o⟩:=DataW.trod_int jbw a;obtain⟨E,i,F,T,X,G,-⟩:=jcz (k:=1) (encA:=jct) (by omega) Tryz.underlying49 (by kernel_rfl) jgf b;obtain⟨D,Y,I,S,c3,L,U⟩:=jcz (k:=4) (encA:=Ent.enc) (by omega) Tryz.underlying50 (by kernel_rfl) jf3 c;obtain rfl:i=T.length:=G.1.1;obtain rfl:Y=S.length:=L.1.1;refine⟨⟨j,n,T,S⟩,E,F,D,I,?_,⟨jbx o,fun x g=>U x g⟩,G.2.1,G.1,L.1⟩;have J:C.toList.length=4:=e;generalize hcs:C.toList=l at *
 match l,J with
 | [a0,a1,a2,a3],_ =>
  simp only[List.getElem?_cons_zero,List.getElem?_cons_succ,Option.some.injEq,List.cons.injEq,and_true] at O P Q R M N;rw[<- Array.toArray_toList (xs:=C),hcs,O,P,Q,R,M,N,X,c3];rfl
end
def jhX : List (String × DataW Unit) := [("unicode/utf8.acceptRanges", Rows.laid_unicode_utf8_acceptRanges), ("aviary/field.errMore", Rows.laid_aviary_field_errMore), ("aviary/field.errField", Rows.laid_aviary_field_errField), ("unicode/utf8.first", Rows.laid_unicode_utf8_first)]
theorem jiH : "*" ++ "errors.errorString" = "*errors.errorString" := by decide
theorem jia (u : TypeId) (h : Tryz.prog.typeName? 3 u = some "*errors.errorString") : u = 528 :=
 typeName_ptr_named (nm := "errors.errorString") (by rw [jiH]; kernel_rfl) (by kernel_rfl) (by decide) u (by rw [jiH]; exact h)
theorem gAX : Tryz.prog.globalNamed "aviary/field.errMore" = some 1 := by kernel_rfl
theorem gBX : Tryz.prog.globalNamed "aviary/field.errField" = some 2 := by kernel_rfl
theorem jiT {W:World} (L:laidMet Tryz.prog jhX W) (M:W.ShapedOpen Tryz.prog):∃ J I,GF J I W:=by
 have A : laidMet Tryz.prog (("aviary/field.errMore", Rows.laid_aviary_field_errMore) :: ("aviary/field.errField", Rows.laid_aviary_field_errField) :: ("unicode/utf8.first", Rows.laid_unicode_utf8_first) :: []) W := L.tail;obtain⟨G,H,R,S,P,Q,T,U,E,F,-,-,-,-,-,-,D,B,C⟩:=laid_sentinels2 A gAX (by kernel_rfl:(Tryz.prog.globals[1]?).map (·.type)=some 88) gBX (by kernel_rfl) Tryz.underlying88 jia Tryz.underlying528 Tryz.underlying626 rfl rfl jeo (by kernel_rfl) (by kernel_rfl);have N:W.cell? ⟨1,0,none⟩=some (jcb G):=by simpa using World.var?_cell gAX E 0
 have O:W.cell? ⟨2,0,none⟩=some (jcb H):=by simpa using World.var?_cell gBX F 0
 exact⟨G,H,N,O,fun h=>D h.symm,⟨_,_,B⟩,⟨_,_,C⟩,jic M⟩
theorem jiS {W:World} (h:GT W):Fr.GT W:=h
def jhY : List (String × DataW Unit) := [("unicode/utf8.acceptRanges", Rows.laid_unicode_utf8_acceptRanges), eT, ("aviary/field.errMore", Rows.laid_aviary_field_errMore), ("aviary/field.errField", Rows.laid_aviary_field_errField), ("unicode/utf8.first", Rows.laid_unicode_utf8_first)]
theorem ji3 {W:World} (h:laidMetH Tryz.prog jhY W):laidMet Tryz.prog jhX W/\handlesMet Tryz.prog [eT] W:=h
abbrev tAX:ByteArray:={ data:=#[102,105,101,108,100,58,32,98,121,116,101,115,32,97,114,101,32,109,105,115,115,105,110,103] }
abbrev tBX:ByteArray:={ data:=#[102,105,101,108,100,58,32,116,104,101,115,101,32,98,121,116,101,115,32,97,114,101,32,110,111,110,101] }
noncomputable def lowX:Nat:=(World.holding Tryz.prog default ⟨#[],#[],[]⟩).heap.size
noncomputable def laidWorldX (os:Os):World :=
 let w0:=World.holding Tryz.prog os ⟨#[.cells #[.string tAX] 626,.cells #[.string tBX] 626],#[],[]⟩
 { w0 with heap:=((((w0.heap.modify 0 jhw).modify 1 fun
   | .cells _ t frozen=>.cells #[jcb ⟨lowX,0,none⟩] t frozen
   | o=>o).modify 2 fun
   | .cells _ t frozen=>.cells #[jcb ⟨lowX+1,0,none⟩] t frozen
   | o=>o).modify 4 fun
   | .cells _ t frozen=>.cells (firstTab.map (Value.int .u8)).toArray t frozen
   | o=>o).modify 5 fun
   | .cells _ t frozen=>.cells ((List.range 16).flatMap fun i=>[Value.int .u8 (accLo i),Value.int .u8 (accHi i)]).toArray t frozen
   | o=>o }
theorem jgh (A:Os) (args:Array Value):laidMetH Tryz.prog jhY ((laidWorldX A).forCall (fun _ _=>0) ⟨#[],args,[]⟩).memory :=
 laidMetH_of_parts (show laidMet Tryz.prog jhX _ from laidMet_of_run' 8 (by kernel_rfl) (by kernel_rfl)) (by kernel_rfl)
end
end Go.Proofs.YtlmlcadcdhhlcaaGreatDoor

/- What rows have in common: sketches opened, with their counters' columns. Printed by gen_rkw.py. What rows have in common: series opened, with their sketches' columns. Printed by gen_rkt.py. The plain law of tables: labels are in a strict order; a series put in is inserted; two of different labels may be put in either way about. No program. The references of layers 2 and 4 in plain data: texts compared byte by byte, runes one by one, names, values. No program in sight. The reference of layer 2: Least. The reference of layer 4: isName, Size. The references of layers 7 and 8: Right, Same. The reference of layer 8: Right, Same. -/
import Derived.Lib.MapLaws
import Derived.Lib.ValidLaws
import Derived.Shelf.Strings.MapAny
import Derived.Test.YtafhpamnegmilaaGreatDoorZLR
set_option maxHeartbeats 1000000
set_option maxRecDepth 100000
namespace Go.Proofs.YtafhpamnegmilaaGreatDoor
open Go Go.RowKit
section
open Go.ChangeShapes Go.WideShapes Go.ChangeAt Go.Lib Go.Deep Go.Shelf
section
variable {H:Type} {enc:TypeId × Value->H} {w:World} {base:Nat} {held:Bool}
theorem jpS (n:Nat) (B:List Value) (x:DataW H × List MemPlace) (h:DataW.trod enc Tryz.prog w base (fun _=>true) held n 41 B=some x):∃ (y:Sk) (s:SS),B=[.int .i64 y.kind,.int .i64 y.level,.slice s.ea s.el s.ec,.int .i64 y.hb,.string y.hr,.int .i64 y.cr,.int .i64 y.cc,.slice s.ca s.cl s.cc,.int .i64 y.gf,.slice s.ga s.gl s.gc]/\s.At w.heap.size w y/\y.arg/\I64 y.cc:=by
 obtain⟨L,m,A⟩:=jlA Tryz.underlying41 h;replace L:B.length=10:=L.trans (by kernel_rfl);obtain⟨y0,C⟩:=A 0 _ rfl;obtain⟨y1,D⟩:=A 1 _ rfl;obtain⟨y2,E⟩:=A 2 _ rfl;obtain⟨y3,F⟩:=A 3 _ rfl;obtain⟨y4,G⟩:=A 4 _ rfl;obtain⟨y5,I⟩:=A 5 _ rfl
 match B,L with
 | [v1,v2,v3,v4,v5,v6,v7,v8,v9,v10],_ =>
  change DataW.trod enc Tryz.prog w base _ held m 3 (([v1,v2,v3,v4,v5,v6,v7,v8,v9,v10].drop 0).take (Tryz.prog.cellsOf 3))=some y0 at C;change DataW.trod enc Tryz.prog w base _ held m 3 (([v1,v2,v3,v4,v5,v6,v7,v8,v9,v10].drop 1).take (Tryz.prog.cellsOf 3))=some y1 at D;change DataW.trod enc Tryz.prog w base _ held m 32 (([v1,v2,v3,v4,v5,v6,v7,v8,v9,v10].drop 2).take (Tryz.prog.cellsOf 32))=some y2 at E;change DataW.trod enc Tryz.prog w base _ held m 34 (([v1,v2,v3,v4,v5,v6,v7,v8,v9,v10].drop 3).take (Tryz.prog.cellsOf 34))=some y3 at F;change DataW.trod enc Tryz.prog w base _ held m 36 (([v1,v2,v3,v4,v5,v6,v7,v8,v9,v10].drop 5).take (Tryz.prog.cellsOf 36))=some y4 at G;change DataW.trod enc Tryz.prog w base _ held m 39 (([v1,v2,v3,v4,v5,v6,v7,v8,v9,v10].drop 8).take (Tryz.prog.cellsOf 39))=some y5 at I;rw[show Tryz.prog.cellsOf 3=1 by kernel_rfl] at C D;rw[show Tryz.prog.cellsOf 32=1 by kernel_rfl] at E;rw[show Tryz.prog.cellsOf 34=2 by kernel_rfl] at F;rw[show Tryz.prog.cellsOf 36=3 by kernel_rfl] at G;rw[show Tryz.prog.cellsOf 39=2 by kernel_rfl] at I;simp only[List.drop_zero,List.drop_succ_cons,List.take_succ_cons,List.take_zero] at C D E F G I;obtain⟨s0,M,-,-⟩:=DataW.trod_int jhd C;obtain⟨s1,c1,-,-⟩:=DataW.trod_int jhd D;obtain⟨-,m2,p⟩:=jcm Tryz.underlying32 (by kernel_rfl) (by kernel_rfl) E;obtain⟨-,m3,Y⟩:=jcm Tryz.underlying34 (by kernel_rfl) (by kernel_rfl) F;obtain⟨-,m4,J⟩:=jcm Tryz.underlying36 (by kernel_rfl) (by kernel_rfl) G
  obtain⟨-,m5,Z⟩:=jcm Tryz.underlying39 (by kernel_rfl) (by kernel_rfl) I;obtain⟨u2,z2,P,q⟩:=p 0 _ rfl;obtain⟨u3,z3,Q,r⟩:=Y 0 _ rfl;obtain⟨u4,z4,R,t⟩:=Y 1 _ rfl;obtain⟨u5,z5,S,u⟩:=J 0 _ rfl;obtain⟨u6,z6,T,v⟩:=J 1 _ rfl;obtain⟨u7,z7,U,z⟩:=J 2 _ rfl;obtain⟨u8,z8,V,g8⟩:=Z 0 _ rfl;obtain⟨u9,z9,X,g9⟩:=Z 1 _ rfl;obtain⟨j,o,l,le,k2,a,d⟩:=jgu (k:=1) (encA:=jaG) (by omega) Tryz.underlying30 (by kernel_rfl) joJ q;obtain⟨s3,c3,-,-⟩:=DataW.trod_int jhd r;obtain⟨s4,c4,-,-⟩:=DataW.trod_string joK t;obtain⟨s5,c5,-,-⟩:=DataW.trod_int jhd u;obtain⟨s6,N,-,w6⟩:=DataW.trod_int jhd v;obtain⟨g,cl,i,lc,k7,b,e⟩:=jgu (k:=1) (encA:=jaG) (by omega) Tryz.underlying30 (by kernel_rfl) joJ z;obtain⟨s8,O,-,-⟩:=DataW.trod_int jhd g8;obtain⟨ga,gl,gc,lg,k9,c,f⟩:=jgu (k:=2) (encA:=jbO) (by omega) Tryz.underlying37 (by kernel_rfl) jtc g9;simp only[List.getElem?_cons_zero,List.getElem?_cons_succ,Option.some.injEq,List.cons.injEq,and_true] at P Q R S T U V X M c1 c3 c4 c5 N O;refine⟨⟨s0,s1,le,s3,s4,s5,s6,lc,s8,lg⟩,⟨j,o,l,g,cl,i,ga,gl,gc⟩,?_,⟨a,b,c⟩,⟨d,e,f⟩,wf_i64 w6⟩;rw[M,c1,P,k2,Q,c3,R,c4,S,c5,T,N,U,k7,V,O,X,k9]
end
end
section
open Go.ChangeShapes Go.WideShapes Go.ChangeAt Go.Lib Go.Deep Go.Shelf
section
variable {H:Type} {enc:TypeId × Value->H} {w:World} {base:Nat} {held:Bool}
theorem jnH (n:Nat) (A:List Value) (x:DataW H × List MemPlace) (h:DataW.trod enc Tryz.prog w base (fun _=>true) held n 60 A=some x):∃ e:Ser × SerP,A=jev e/\(e.2.At w.heap.size w e.1/\(e.1.wn/\I64 e.1.sk.cc)):=by
 obtain⟨F,m,E⟩:=jlA Tryz.underlying60 h;replace F:A.length=12:=F.trans (by kernel_rfl);obtain⟨c,B⟩:=E 0 _ rfl;obtain⟨d,C⟩:=E 1 _ rfl;obtain⟨f,D⟩:=E 2 _ rfl
 match A,F with
 | [v0,v1,v2,v3,v4,v5,v6,v7,v8,v9,v10,v11],_ =>
  change DataW.trod enc Tryz.prog w base _ held m 58 (([v0,v1,v2,v3,v4,v5,v6,v7,v8,v9,v10,v11].drop 0).take (Tryz.prog.cellsOf 58))=some c at B;change DataW.trod enc Tryz.prog w base _ held m 41 (([v0,v1,v2,v3,v4,v5,v6,v7,v8,v9,v10,v11].drop 1).take (Tryz.prog.cellsOf 41))=some d at C;change DataW.trod enc Tryz.prog w base _ held m 48 (([v0,v1,v2,v3,v4,v5,v6,v7,v8,v9,v10,v11].drop 11).take (Tryz.prog.cellsOf 48))=some f at D;rw[show Tryz.prog.cellsOf 58=1 by kernel_rfl] at B;rw[show Tryz.prog.cellsOf 41=10 by kernel_rfl] at C;rw[show Tryz.prog.cellsOf 48=1 by kernel_rfl] at D;simp only[List.drop_zero,List.drop_succ_cons,List.take_succ_cons,List.take_zero] at B C D;obtain⟨N,P,O,l,M,J,-⟩:=jgu (k:=2) (encA:=Lab.enc) (by omega) Tryz.underlying58 (by kernel_rfl) jrh B;obtain⟨y,s,I,L,fit,w6⟩:=jpS _ _ _ C;obtain⟨a,c2,-,b⟩:=DataW.trod_int jsn D;simp only[List.cons.injEq,and_true] at I c2;obtain⟨Q,R,S,T,U,V,X,Y,Z,G⟩:=I;refine⟨(⟨l,y,a⟩,⟨N,P,O,s⟩),?_,⟨J,L⟩,⟨fit,jsz b⟩,w6⟩;rw[M,Q,R,S,T,U,V,X,Y,Z,G,c2];rfl
theorem jg7 {r:Reach} {E:Nat} {v:Value} {d:DataW H} {p:List MemPlace} (G:Value.okWide Tryz.prog w r E 22 v) (h:DataW.Trod enc Tryz.prog w base (fun _=>true) held 22 v d p) :
  ∃ a len cap l,v=.slice a len cap/\Tab w.heap.size w a len cap l/\∀ x∈l.map (·.1),Ser.wn x/\I64 x.sk.cc:=by
 obtain⟨a,len,cap,rfl⟩:=okWide_slice jcY G;obtain⟨C,F⟩:=h;obtain⟨J,D,B,l,e,S,U⟩:=jgu (k:=12) (encA:=jev) (by omega) jcY (by kernel_rfl) jnH F;injection e with e1 e2 e3
 subst e1 e2 e3;refine⟨a,len,cap,l,rfl,⟨S,fun e A=>(U e A).1⟩,fun x I=>?_⟩;obtain⟨e,A,rfl⟩:=List.mem_map.1 I;exact (U e A).2
end
end
section
open Go.Shelf
theorem jln:∀ a:List UInt8,Op.bytesLess a a=false
 | []=>rfl
 | a::x=>by simp[Op.bytesLess,jln x]
theorem jto:∀ a b c:List UInt8,Op.bytesLess a b=true->Op.bytesLess b c=true->Op.bytesLess a c=true
 | _,[],_,h,_=>by rename_i x _;cases x<;>simp[Op.bytesLess] at h
 | _,_::_,[],_,h=>by simp[Op.bytesLess] at h
 | [],_::_,_::_,_,_=>by simp[Op.bytesLess]
 | a::x,b::y,c::z,B,A=>by
  simp only[Op.bytesLess,Bool.or_eq_true,Bool.and_eq_true,decide_eq_true_eq,beq_iff_eq] at B A ⊢;rcases B with B | ⟨rfl,B⟩
  ·rcases A with A | ⟨rfl,A⟩
   ·exact .inl (UInt8.lt_trans B A)
   ·exact .inl B
  ·rcases A with A | ⟨rfl,A⟩
   ·exact .inl A
   ·exact .inr ⟨rfl,jto x y z B A⟩
theorem juT:∀ a b:List UInt8,Op.bytesLess a b=false->Op.bytesLess b a=false->a=b
 | [],[],_,_=>rfl
 | [],_::_,h,_=>by simp[Op.bytesLess] at h
 | _::_,[],_,h=>by simp[Op.bytesLess] at h
 | a::x,b::y,h1,h2=>by
  simp only[Op.bytesLess,Bool.or_eq_false_iff,decide_eq_false_iff_not] at h1 h2;have A:a=b:=UInt8.le_antisymm (UInt8.not_lt.1 h2.1) (UInt8.not_lt.1 h1.1);subst A;simp only[BEq.rfl,Bool.true_and] at h1 h2;rw[juT x y h1.2 h2.2]
theorem jwL:∀ a b c:List Lab,jau a b=true->jau b c=true->jau a c=true
 | _::_,[],_,h,_=>by simp[jau] at h
 | [],[],_,h,_=>by simp[jau] at h
 | _,_::_,[],_,h=>by simp[jau] at h
 | [],_::_,_::_,_,_=>by simp[jau]
 | x::a,y::b,z::c,h1,h2=>by
  simp only[jau] at h1 h2 ⊢;by_cases B:x.name=y.name
  ·by_cases C:x.value=y.value
   ·rw[if_pos ⟨B,C⟩] at h1
    rw[B,C];by_cases F:y.name=z.name/\y.value=z.value
    ·rw[if_pos F] at h2 ⊢
     exact jwL a b c h1 h2
    ·rw[if_neg F] at h2 ⊢
     exact h2
   ·rw[if_neg (fun k=>C k.2),if_neg (by simp[B])] at h1
    rw[B];by_cases A:y.name=z.name
    ·by_cases E:y.value=z.value
     ·rw[<- E,if_neg (fun k=>C k.2),if_neg (by simp[A])]
      exact h1
     ·rw[if_neg (fun k=>E k.2),if_neg (by simp[A])] at h2
      have D:=jto _ _ _ h1 h2;rw[if_neg (fun k=>by rw[k.2,jln] at D;cases D),if_neg (by simp[A])];exact D
    ·rw[if_neg (fun k=>A k.1),if_pos A] at h2
     rw[if_neg (fun k=>A k.1),if_pos A];exact h2
  ·rw[if_neg (fun k=>B k.1),if_pos B] at h1
   by_cases A:y.name=z.name
   ·rw[<- A,if_neg (fun k=>B k.1),if_pos B]
    exact h1
   ·rw[if_neg (fun k=>A k.1),if_pos A] at h2
    have D:=jto _ _ _ h1 h2;have G:x.name≠z.name:=fun k=>by rw[k,jln] at D;cases D
    rw[if_neg (fun k=>G k.1),if_pos G];exact D
def Sorted (l:List Ser):Prop:=l.Pairwise (fun x y=>jau x.l y.l=true)
theorem jjV:∀ (l:List Ser) (q:List Lab),jca (some q) l=true↔(∀ x∈l,jaV x=true)/\(∀ x∈l,jau q x.l=true)/\Sorted l
 | [],q=>by simp[jca,Sorted]
 | y::r,q=>by
  simp only[jca,Bool.and_eq_true,jjV r,Sorted,List.pairwise_cons,List.mem_cons,forall_eq_or_imp];constructor
  ·rintro⟨⟨C,A⟩,D,B,E⟩
   exact⟨⟨C,D⟩,⟨A,fun x F=>jwL _ _ _ A (B x F)⟩,B,E⟩
  ·rintro⟨⟨C,D⟩,⟨A,G⟩,B,E⟩
   exact⟨⟨C,A⟩,D,B,E⟩
theorem jbZ (l:List Ser):jas l=true↔l.length<=20/\(∀ x∈l,jaV x=true)/\Sorted l:=by
 unfold jas;rw[Bool.and_eq_true,decide_eq_true_eq]
 cases l with
 | nil=>simp[jca,Sorted]
 | cons y r=>simp only[jca,Bool.and_eq_true,jjV r,Sorted,List.pairwise_cons,List.mem_cons,forall_eq_or_imp,and_true];constructor<;>(intro h;simp_all)
end
def jdi:List UInt8->List UInt8->Int
 | [],[]=>0
 | [],_::_ => -1
 | _::_,[]=>1
 | a::x,b::y=>if a<b then -1 else if b<a then 1 else jdi x y
theorem jgn:∀ x y:List UInt8,decide (jdi x y<0)=Op.bytesLess x y
 | [],[]=>rfl
 | [],_::_=>rfl
 | _::_,[]=>rfl
 | a::x,b::y=>by
  have D:=jgn x y;simp only[jdi,Op.bytesLess];by_cases A:a<b
  ·simp[A]
  ·by_cases B:b<a
   ·have C:(a==b)=false:=by rw[beq_eq_false_iff_ne];rintro rfl;exact UInt8.lt_irrefl _ B
    simp[A,B,C]
   ·have C:a=b:=UInt8.le_antisymm (UInt8.not_lt.1 B) (UInt8.not_lt.1 A)
    subst C;simp only[A,if_false,decide_false,beq_self_eq_true,Bool.true_and,Bool.false_or];exact D
theorem jgH:∀ x y:List UInt8,jdi x y=0↔x=y
 | [],[]=>⟨fun _=>rfl,fun _=>rfl⟩
 | [],_::_=>⟨fun h=>by simp[jdi] at h,fun h=>by cases h⟩
 | _::_,[]=>⟨fun h=>by simp[jdi] at h,fun h=>by cases h⟩
 | a::x,b::y=>by
  have D:=jgH x y;simp only[jdi];by_cases B:a<b
  ·rw[if_pos B]
   exact⟨fun h=>by omega,fun h=>by injection h with A;subst A;exact absurd B (UInt8.lt_irrefl _)⟩
  ·rw[if_neg B]
   by_cases A:b<a
   ·rw[if_pos A]
    exact⟨fun h=>by omega,fun h=>by injection h with C;subst C;exact absurd A (UInt8.lt_irrefl _)⟩
   ·rw[if_neg A,D]
    have C:a=b:=UInt8.le_antisymm (UInt8.not_lt.1 A) (UInt8.not_lt.1 B);subst C;exact⟨fun h=>by rw[h],fun h=>by injection h⟩
def jfo (l:List UInt8):Bool:=(Lib.decodeL l).1==65533&&(Lib.decodeL l).2==1
theorem jhA (l:List UInt8):jfo l=true↔(Lib.decodeL l).1=65533/\(Lib.decodeL l).2=1:=by unfold jfo;simp
theorem jh7 (l:List UInt8) (k:Nat):(k<l.length->(l++[120]).getD k 0=l.getD k 0)/\(¬ k<l.length->((l++[120]).getD k 0).toNat / 64≠2):=by
 constructor
 ·intro h
  rw[List.getD_eq_getElem?_getD,List.getD_eq_getElem?_getD,List.getElem?_append_left h]
 ·intro h
  rw[List.getD_eq_getElem?_getD,List.getElem?_append_right (by omega)];rcases Nat.eq_zero_or_pos (k-l.length) with A | A
  ·rw[A];decide
  ·rw[List.getElem?_eq_none (by simp;omega)];decide
theorem jqG (l:List UInt8) (A:l≠[]):Lib.decodeL (l++[120])=Lib.decodeL l:=by
 have I:0<l.length:=List.length_pos_iff.2 A;rw[Lib.decodeL_N,Lib.decodeL_N,List.length_append,List.length_singleton,(jh7 l 0).1 I];have F:=jh7 l 1;have G:=jh7 l 2;have H:=jh7 l 3;have z:∀ k,¬ k<l.length->(l.getD k 0).toNat / 64≠2:=fun k E=>by rw[List.getD_eq_getElem?_getD,List.getElem?_eq_none (by omega)];decide
 have key:∀ k,((l++[120]).getD k 0).toNat / 64=2->k<l.length:=fun k E=>by
  by_cases h:k<l.length
  ·exact h
  ·exact absurd E ((jh7 l k).2 h)
 have e:∀ k,(k<l.length+1/\((l++[120]).getD k 0).toNat / 64=2)=(k<l.length/\(l.getD k 0).toNat / 64=2):=fun k=>propext ⟨fun h=>⟨key k h.2,by rw[<- (jh7 l k).1 (key k h.2)];exact h.2⟩,fun h=>⟨by omega,by rw[(jh7 l k).1 h.1];exact h.2⟩⟩
 unfold Lib.decodeN;simp only[e 1,e 2,e 3];by_cases B:1<l.length
 ·rw[F.1 B]
  by_cases C:2<l.length
  ·rw[G.1 C]
   by_cases D:3<l.length
   ·rw[H.1 D]
   ·simp[D]
  ·simp[C]
 ·simp[B]
theorem jdY (l:List UInt8):((l.getD 0 0).toNat<128/\Lib.decodeL l=((l.getD 0 0).toNat,1))\/(128<=(l.getD 0 0).toNat/\128<=(Lib.decodeL l).1/\2<=(Lib.decodeL l).2/\∀ k,k<(Lib.decodeL l).2->128<=(l.getD k 0).toNat)\/(128<=(l.getD 0 0).toNat/\Lib.decodeL l=(65533,1)):=by
 rw[Lib.decodeL_N];have F:=(l.getD 0 0).toNat_lt;by_cases C:(l.getD 0 0).toNat<128
 ·left
  refine⟨C,?_⟩;unfold Lib.decodeN;rw[if_pos C]
 ·right
  rcases Lib.decodeN_shape l.length (l.getD 0 0).toNat (l.getD 1 0).toNat (l.getD 2 0).toNat (l.getD 3 0).toNat with⟨c,e⟩ | ⟨c1,c2,c3,B,e⟩ | ⟨c1,c2,c3,c4,B,D,e⟩ | ⟨c1,c2,c3,c4,c5,B,E,e⟩ | e
  ·omega
  ·left
   rw[e];refine⟨by omega,B,Nat.le_refl _,fun k A=>?_⟩;dsimp only at A;rcases (by omega:k=0\/k=1) with rfl | rfl<;>omega
  ·left
   rw[e];refine⟨by omega,by dsimp only;omega,by omega,fun k A=>?_⟩;dsimp only at A;rcases (by omega:k=0\/k=1\/k=2) with rfl | rfl | rfl<;>omega
  ·left
   rw[e];refine⟨by omega,by dsimp only;omega,by omega,fun k A=>?_⟩;dsimp only at A;rcases (by omega:k=0\/k=1\/k=2\/k=3) with rfl | rfl | rfl | rfl<;>omega
  ·right
   exact⟨by omega,e⟩
theorem jq2 (l:List UInt8) (h:(Lib.decodeL l).1=65533):jfo l=true\/((Lib.decodeL l).2=3/\2<l.length/\(l.getD 0 0).toNat=239/\(l.getD 1 0).toNat=191/\(l.getD 2 0).toNat=189):=by
 rw[jhA];rw[Lib.decodeL_N] at h ⊢;have D:=(l.getD 0 0).toNat_lt;have E:=(l.getD 1 0).toNat_lt;have F:=(l.getD 2 0).toNat_lt;rcases Lib.decodeN_shape l.length (l.getD 0 0).toNat (l.getD 1 0).toNat (l.getD 2 0).toNat (l.getD 3 0).toNat with⟨c,e⟩ | ⟨c1,c2,c3,A,e⟩ | ⟨c1,c2,c3,c4,A,B,e⟩ | ⟨c1,c2,c3,c4,c5,A,C,e⟩ | e
 ·rw[e] at h;dsimp only at h;omega
 ·rw[e] at h;dsimp only at h;omega
 ·right
  rw[e] at h ⊢;dsimp only at h ⊢;exact⟨rfl,c2,by omega,by omega,by omega⟩
 ·rw[e] at h;dsimp only at h;omega
 ·left;rw[e];exact⟨rfl,rfl⟩
theorem jqU (l:List UInt8) (A:2<l.length) (B:(l.getD 0 0).toNat=239) (C:(l.getD 1 0).toNat=191) (D:(l.getD 2 0).toNat=189):Lib.decodeL l=(65533,3):=by
 rw[Lib.decodeL_N,B,C,D];unfold Lib.decodeN;have E:1<l.length:=by omega
 simp[A,E]
theorem jsV (s:ByteArray) (A:Nat) (h:A<s.size):jeZ s (A,((Utf8.decode s A).1:Int))=jfo (s.data.toList.drop A):=by
 unfold jeZ jfo;rw[Lib.decodeGo_extract s A h,Lib.decodeL_drop];dsimp only
 have C:(((Utf8.decode s A).1:Int)==65533)=((Utf8.decode s A).1==65533):=by
  by_cases B:(Utf8.decode s A).1=65533
  ·rw[B];rfl
  ·rw[beq_eq_false_iff_ne.2 B,beq_eq_false_iff_ne];omega
 have D:(((Utf8.decode s A).2:Int)==1)=((Utf8.decode s A).2==1):=by
  by_cases B:(Utf8.decode s A).2=1
  ·rw[B];rfl
  ·rw[beq_eq_false_iff_ne.2 B,beq_eq_false_iff_ne];omega
 rw[C,D]
def jgo (s:ByteArray) (pos:Nat):Bool:=(rl s pos).all fun p => !jeZ s p
theorem jiq (s:ByteArray) (A:Nat) (h:A<s.size):jgo s A=(!jfo (s.data.toList.drop A)&&jgo s (A+(Lib.decodeL (s.data.toList.drop A)).2)):=by
 unfold jgo;rw[jeX s A h,List.all_cons,jsV s A h,Lib.decodeL_drop]
theorem jpB (s:ByteArray) (A:Nat) (h:¬ A<s.size):jgo s A=true:=by
 unfold jgo;rw[jgr s A h];rfl
def jbH (b:UInt8):Bool:=decide (97<=b.toNat)&&decide (b.toNat<=122)
def jch (b:UInt8):Bool:=decide (32<=b.toNat)&&b.toNat != 127
theorem jqI (s:ByteArray) (A n:Nat) (h:A<s.size) (C:n≠0):∃ t,s.data.toList.drop A=(s.data.toList.drop A).getD 0 0::t/\t.drop (n-1)=s.data.toList.drop (A+n):=by
 have B:A<s.data.toList.length:=by rw[Array.length_toList];exact h
 rw[List.drop_eq_getElem_cons B];refine⟨_,rfl,?_⟩;rw[List.drop_drop];congr 1;omega
theorem jiQ (f:Int->Bool) (g:UInt8->Bool) (ha:∀ b:UInt8,b.toNat<128->f (b.toNat:Int)=g b) (c:Bool) (I:∀ r:Nat,128<=r->f (r:Int)=c) (J:∀ b:UInt8,128<=b.toNat->g b=c) (s:ByteArray) :
  ∀ (k A:Nat),s.size-A<=k->((rl s A).all fun p=>f p.2)=(s.data.toList.drop A).all g:=by
 intro k
 induction k with
 | zero =>
  intro A O;have B:¬ A<s.size:=by omega
  rw[jgr s A B,List.drop_eq_nil_of_le (by rw[Array.length_toList];exact Nat.not_lt.1 B)];rfl
 | succ k ih =>
  intro A O;by_cases B:A<s.size
  ·rw[jeX s A B,List.all_cons]
   have H:=Lib.decodeL_drop s A;have P:=jdJ s A B;rw[ih _ (by omega),<- H];rw[<- H] at P;dsimp only;obtain⟨t,e,G⟩:=jqI s A (Lib.decodeL (s.data.toList.drop A)).2 B (by omega);rw[<- G];have Q:(s.data.toList.drop A).length=s.size-A:=by rw[List.length_drop,Array.length_toList];rfl
   have key:∀ n,(∀ j,j<n->128<=((s.data.toList.drop A).getD j 0).toNat)->1<=n->(c&&(t.drop (n-1)).all g)=(g ((s.data.toList.drop A).getD 0 0)&&t.all g):=by
    intro n F M
    have E:∀ j,j<n-1->128<=(t.getD j 0).toNat:=by
     intro j L;have:=F (j+1) (by omega);rw[e,List.getD_cons_succ] at this;exact this
    rw[J _ (F 0 (by omega))];generalize n-1=m at E;clear e G F
    induction m generalizing t with
    | zero=>rfl
    | succ m ihm =>
     cases t with
     | nil=>rfl
     | cons y t' =>
      rw[List.drop_succ_cons,ihm t' (fun j L=>by have:=E (j+1) (by omega);rwa [List.getD_cons_succ] at this),List.all_cons,J y (E 0 (by omega)),<- Bool.and_assoc,Bool.and_self]
   rcases jdY (s.data.toList.drop A) with⟨D,C⟩ | ⟨D,C,R,N⟩ | ⟨D,C⟩
   ·rw[C]
    dsimp only;rw[ha _ D,e,List.all_cons,List.getD_cons_zero];rfl
   ·rw[I _ C]
    conv=>rhs;rw[e,List.all_cons]
    exact key _ N (by omega)
   ·rw[C]
    dsimp only
    conv=>rhs;rw[e,List.all_cons]
    rw[I 65533 (by omega)];exact key 1 (fun j L=>by have:j=0:=(by omega);rw[this];exact D) (Nat.le_refl 1)
  ·rw[jgr s A B,List.drop_eq_nil_of_le (by rw[Array.length_toList];exact Nat.not_lt.1 B)]
   rfl
theorem jpA (s:ByteArray):jbQ s=(s.size != 0&&decide (s.size<=12)&&s.data.toList.all jbH):=by
 unfold jbQ;rw[jiQ jbG jbH (fun b h=>by unfold jbG jbH;congr 1<;>exact decide_eq_decide.2 (by omega)) false (fun r h=>by unfold jbG;simp;omega) (fun b h=>by unfold jbH;simp;omega) s s.size 0 (by omega),List.drop_zero]
theorem jsw (s:ByteArray):((rl s 0).all fun p=>jbd p.2)=s.data.toList.all jch:=by
 rw[jiQ jbd jch (fun b h=>by unfold jbd jch;congr 1;exact decide_eq_decide.2 (by omega);rw[Bool.eq_iff_iff];simp;omega) true (fun r h=>by unfold jbd;simp;omega) (fun b h=>by unfold jch;simp;omega) s s.size 0 (by omega),List.drop_zero]
theorem jke (s:ByteArray) (A:Nat):(s.data.toList.drop A).length=s.size-A:=by rw[List.length_drop,Array.length_toList];rfl
def jxA (l:List UInt8):Bool:=(Lib.decodeL l).1==65533&&(decide (l.length<3)||l.take 3 != [239,191,189])
theorem jvZ (l:List UInt8):jxA l=jfo l:=by
 unfold jxA;by_cases h:(Lib.decodeL l).1=65533
 ·rcases jq2 l h with C | ⟨C,B,A,D,E⟩
  ·rw[C]
   obtain⟨-,B⟩:=(jhA l).1 C;rw[h];by_cases A:l.length<3
   ·simp[A]
   ·have:l.take 3≠[239,191,189]:=by
     intro e;rcases l with _ | ⟨a,_ | ⟨b,_ | ⟨c,t⟩⟩⟩
     ·exact A (by simp)
     ·exact A (by simp)
     ·exact A (by simp)
     ·simp only[List.take_succ_cons,List.take_zero,List.cons.injEq,and_true] at e
      obtain⟨rfl,rfl,rfl⟩:=e;have:=jqU (239::191::189::t) (by simp) rfl rfl rfl;rw[this] at B;exact absurd B (by decide)
    simp[this]
  ·have F:jfo l=false:=by unfold jfo;rw[C];simp
   have G:l.take 3=[239,191,189]:=by
    rcases l with _ | ⟨a,_ | ⟨b,_ | ⟨c,t⟩⟩⟩
    ·exact absurd B (by simp)
    ·exact absurd B (by simp)
    ·exact absurd B (by simp)
    ·simp only[List.getD_cons_zero,List.getD_cons_succ] at A D E
     simp only[List.take_succ_cons,List.take_zero,List.cons.injEq,and_true];exact⟨UInt8.toNat_inj.1 A,UInt8.toNat_inj.1 D,UInt8.toNat_inj.1 E⟩
   rw[F,h,G];have:¬ l.length<3:=by omega
   simp[this]
 ·unfold jfo
  rw[beq_eq_false_iff_ne.2 h];rfl
theorem jkU (l:List UInt8) (B:l≠[]) (h:jfo l=false):1<=(Lib.decodeL l).2/\(Lib.decodeL l).2<=l.length/\¬ ((Lib.decodeL l).2=1/\128<=(l.getD 0 0).toNat):=by
 have C:0<l.length:=List.length_pos_iff.2 B;refine⟨?_,?_,?_⟩
 ·rcases jdY l with⟨-,e⟩ | ⟨-,-,e,-⟩ | ⟨-,e⟩
  ·rw[e];exact Nat.le_refl _
  ·omega
  ·rw[e];exact Nat.le_refl _
 ·rcases jdY l with⟨-,e⟩ | ⟨-,-,e,D⟩ | ⟨-,e⟩
  ·rw[e];exact C
  ·apply Nat.le_of_not_lt
   intro A;have:=D l.length A;rw[List.getD_eq_getElem?_getD,List.getElem?_eq_none (Nat.le_refl _)] at this;exact absurd this (by decide)
  ·rw[e];exact C
 ·rintro⟨E,F⟩
  rcases jdY l with⟨G,-⟩ | ⟨-,-,e,-⟩ | ⟨-,e⟩
  ·omega
  ·omega
  ·unfold jfo at h
   rw[e] at h;exact absurd h (by decide)
theorem joo (x y:List UInt8):decide (0<=jdi x y)=(Op.bytesLess y x||y==x):=by
 have C:=jgn x y;by_cases h:jdi x y<0
 ·have A:Op.bytesLess x y=true:=by rw[<- C];simpa using h
  have E:Op.bytesLess y x=false:=by
   cases B:Op.bytesLess y x
   ·rfl
   ·have:=jto x y x A B
    rw[jln] at this;exact absurd this (by decide)
  have F:(y==x)=false:=by
   rw[beq_eq_false_iff_ne];rintro rfl;rw[jln] at A;exact absurd A (by decide)
  rw[E,F];simp;omega
 ·have A:Op.bytesLess x y=false:=by rw[<- C];simp;omega
  have D:decide (0<=jdi x y)=true:=by simp;omega
  rw[D]
  cases B:Op.bytesLess y x
  ·have:=juT x y A B
   rw[this];simp
  ·rfl
theorem jl4 (n:Nat):decide (1<=n)=(n != 0):=by cases n with | zero=>rfl | succ n=>simp
def jb8 (s:ByteArray):Bool:=s.data.toList.all jbH&&(decide (1<=s.size)&&decide (s.size<=12))
def jbx (s:ByteArray):Bool:=s.data.toList.all jch&&(jav s&&decide ((rl s 0).length<=24))
theorem jot (s:ByteArray):jb8 s=jbQ s:=by
 rw[jpA];unfold jb8;have:=jl4 s.size;rw[this,Bool.and_comm]
theorem jmC (s:ByteArray):jbx s=jbc s:=by
 unfold jbx jbc jcW;rw[jsw,Bool.and_comm]
 cases jav s
 ·rfl
 ·congr 2
  exact decide_eq_decide.2 (by rw[if_pos rfl];omega)
def jcA:Option ByteArray->List Lab->Bool
 | _,[]=>true
 | none,x::xs=>jb8 x.name&&jbx x.value&&jcA (some x.name) xs
 | some b,x::xs=>jb8 x.name&&jbx x.value && !decide (0<=jdi b.data.toList x.name.data.toList)&&jcA (some x.name) xs
theorem jnf (b:ByteArray) (A:List Lab):jcA (some b) A=jdF b A:=by
 induction A generalizing b with
 | nil=>rfl
 | cons x xs ih =>
  show (jb8 x.name&&jbx x.value && !decide (0<=jdi b.data.toList x.name.data.toList)&&jcA (some x.name) xs)=((jbQ x.name && !jfO x.name b&&jbc x.value)&&jdF x.name xs);rw[ih,jot,jmC,joo];unfold jfO;rw[Lib.toList_data,Lib.toList_data];congr 1
  cases jbQ x.name<;>cases jbc x.value<;>simp
theorem jne (A:List Lab):jcA none A=jdF (⟨#[]⟩:ByteArray) A:=by
 cases A with
 | nil=>rfl
 | cons x xs =>
  show (jb8 x.name&&jbx x.value&&jcA (some x.name) xs)=((jbQ x.name && !jfO x.name (⟨#[]⟩:ByteArray)&&jbc x.value)&&jdF x.name xs);rw[jnf,jot,jmC];congr 1
  cases h:jbQ x.name
  ·rfl
  ·have B:x.name.size≠0:=by
    unfold jbQ at h;intro e;rw[e] at h;exact absurd h (by simp)
   have C:jfO x.name (⟨#[]⟩:ByteArray)=false:=by
    unfold jfO;rw[Lib.toList_data,Lib.toList_data]
    have D:x.name.data.toList≠[]:=by
     intro e;apply B;show x.name.data.size=0;rw[<- Array.length_toList,e];rfl
    cases e:x.name.data.toList with
    | nil=>exact absurd e D
    | cons a t=>rfl
   rw[C];simp
def jlR (ls:List Lab):Bool:=jcA none ls&&(decide (1<=ls.length)&&decide (ls.length<=6))
theorem jlS (A:List Lab):jlR A=jal A:=by
 unfold jlR jal;rw[jne];have:=jl4 A.length;rw[this,Bool.and_comm]
def jem (x y:Lab):Int:=if jdi x.name.data.toList y.name.data.toList=0 then jdi x.value.data.toList y.value.data.toList else jdi x.name.data.toList y.name.data.toList
def jb2:List Lab->List Lab->Bool
 | x::xs,y::ys=>if jem x y=0 then jb2 xs ys else decide (jem x y<0)
 | xs,ys=>decide (xs.length<ys.length)
theorem jgm (a b:ByteArray):jdi a.data.toList b.data.toList=0↔a=b:=by
 have:=jgH a.data.toList b.data.toList;constructor
 ·intro h
  exact ByteArray.ext (Array.ext' (this.1 h))
 ·rintro rfl
  exact (jgH _ _).2 rfl
theorem jii:∀ xs B:List Lab,jb2 xs B=jau xs B
 | [],[]=>rfl
 | [],y::B=>by simp[jb2,jau]
 | x::xs,[]=>by simp[jb2,jau]
 | x::xs,y::B=>by
  have E:=jii xs B;unfold jb2 jau jem;by_cases A:x.name=y.name
  ·rw[if_pos ((jgm _ _).2 A)]
   by_cases C:x.value=y.value
   ·rw[if_pos ((jgm _ _).2 C),if_pos ⟨A,C⟩,E]
   ·rw[if_neg (fun e=>C ((jgm _ _).1 e)),if_neg (fun e=>C e.2),if_neg (fun e=>e A),jgn,Lib.toList_data,Lib.toList_data]
  ·have D:¬ jdi x.name.data.toList y.name.data.toList=0:=fun e=>A ((jgm _ _).1 e)
   rw[if_neg D,if_neg D,if_neg (fun e=>A e.1),if_pos A,jgn,Lib.toList_data,Lib.toList_data]
section
open Go.Shelf
theorem jgI (s:ByteArray) (k:Nat) (h:k<s.size):s.data.toList.drop k=s[k]'h::s.data.toList.drop (k+1):=by
 have A:k<s.data.toList.length:=by rw[Array.length_toList];exact h
 rw[List.drop_eq_getElem_cons A];rfl
theorem jeI (s:ByteArray) (k:Nat) (h:s.size<=k):s.data.toList.drop k=[]:=List.drop_eq_nil_of_le (by rw[Array.length_toList];exact h)
theorem jt4 (a b:ByteArray) (k:Nat) (ha:k<a.size) (A:k<b.size):jdi (a.data.toList.drop k) (b.data.toList.drop k)=if (a[k]'ha).toNat<(b[k]'A).toNat then -1 else if (b[k]'A).toNat<(a[k]'ha).toNat then 1 else jdi (a.data.toList.drop (k+1)) (b.data.toList.drop (k+1)):=by
 rw[jgI a k ha,jgI b k A,jdi];rfl
theorem jjF (a b:ByteArray) (k:Nat) (D:k<=a.size) (C:k<=b.size) (h:¬ (k<a.size/\k<b.size)):jdi (a.data.toList.drop k) (b.data.toList.drop k)=if a.size<b.size then -1 else if b.size<a.size then 1 else 0:=by
 by_cases ha:k<a.size
 ·have A:k=b.size:=by omega
  rw[jeI b k (by omega),jgI a k ha,jdi,if_neg (by omega),if_pos (by omega)]
 ·have B:k=a.size:=by omega
  rw[jeI a k (by omega)];by_cases A:k<b.size
  ·rw[jgI b k A,jdi,if_pos (by omega)]
  ·rw[jeI b k (by omega),jdi,if_neg (by omega),if_neg (by omega)]
theorem jdK {w W:World} (h:∃ m,W=w.drewN m) (n:Nat):∃ m,W.drewN n=w.drewN m:=by
 obtain⟨m,rfl⟩:=h;exact⟨m+n,World.drewN_drewN _ _ _⟩
theorem jcv (a b:ByteArray) (w:World) (ha:a.size<4294967281) :
  Calls Tryz.prog 70 #[.string a,.string b] w fun e w'=>e=.returned (.int .i64 (jdi a.data.toList b.data.toList))/\∃ m,w'=w.drewN m:=by
 have L:Hid (jdi a.data.toList b.data.toList=jdi (a.data.toList.drop 0) (b.data.toList.drop 0)):=rfl;generalize jdi a.data.toList b.data.toList=R at L ⊢;go_enter Tryz.func70,Tryz.ntmps70;go_wp2_with fail;go_loopw [5] (fun i wr=>∃ (k:Nat),i=.int .i64 k/\k<=a.size/\k<=b.size/\(∃ m,wr=w.drewN m)/\Hid (R=jdi (a.data.toList.drop k) (b.data.toList.drop k))) (fun i _=>a.size-(intOf i).toNat)
 case atStart=>exact⟨0,rfl,Nat.zero_le _,Nat.zero_le _,⟨0,(World.drewN_zero w).symm⟩,L⟩
 case round =>
  obtain⟨k,rfl,M,G,C,F⟩:=hrel;by_cases D:k<a.size
  ·by_cases A:k<b.size
   ·have I:=Lib.hid (jt4 a b k D A)
    have N:=UInt8.toNat_lt (a[k]'D);have O:=UInt8.toNat_lt (b[k]'A);by_cases E:(a[k]'D).toNat<(b[k]'A).toNat
    ·have B:Hid (R = -1):=by rw[Hid,F.out,I.out,if_pos E]
     go_wp2_with fail;go_quiet (fail);go_wp2_with fail;go_ret;exact⟨by rw[B.out];rfl,(by first | exact jdK C _ | exact jdK (jdK C _) _)⟩
    ·by_cases J:(b[k]'A).toNat<(a[k]'D).toNat
     ·have B:Hid (R=1):=by rw[Hid,F.out,I.out,if_neg E,if_pos J]
      go_wp2_with fail;go_quiet (fail);go_wp2_with fail;go_quiet (fail);go_wp2_with fail;go_ret;exact⟨by rw[B.out];rfl,(by first | exact jdK C _ | exact jdK (jdK C _) _)⟩
     ·have B:Hid (R=jdi (a.data.toList.drop (k+1)) (b.data.toList.drop (k+1))):=by rw[Hid,F.out,I.out,if_neg E,if_neg J]
      go_wp2_with fail;go_quiet (fail);go_wp2_with fail;go_quiet (fail);go_wp2_with fail;go_roundw
      case rel=>exact⟨k+1,by go_num,by omega,by omega,(by first | exact jdK C _ | exact jdK (jdK C _) _),B.out⟩
      case measure=>simp[intOf];omega
   ·have H:=Lib.hid (jjF a b k M G (by omega))
    have E:b.size<a.size:=by omega
    have B:Hid (R=1):=by rw[Hid,F.out,H.out,if_neg (by omega),if_pos E]
    go_wp2_with fail;go_ret;exact⟨by rw[B.out];rfl,C⟩
  ·have H:=Lib.hid (jjF a b k M G (by omega))
   by_cases E:a.size<b.size
   ·have B:Hid (R = -1):=by rw[Hid,F.out,H.out,if_pos E]
    go_wp2_with fail;go_ret;exact⟨by rw[B.out];rfl,C⟩
   ·have J:a.size=b.size:=by omega
    have B:Hid (R=0):=by rw[Hid,F.out,H.out,if_neg (by omega),if_neg (by omega)]
    go_wp2_with fail;go_ret;exact⟨by rw[B.out];rfl,C⟩
theorem juR (f:UInt8->Bool) (s:ByteArray) (k:Nat) (h:k<s.size):(s.data.toList.drop k).all f=(f (s[k]'h)&&(s.data.toList.drop (k+1)).all f):=by rw[jgI s k h,List.all_cons]
theorem jhm (s:ByteArray) (w:World) (P:s.size<4294967281) :
  CR 115 #[.string s] w (.bool (jb8 s)):=by
 have G:Hid (jb8 s=((s.data.toList.drop 0).all jbH&&(decide (1<=s.size)&&decide (s.size<=12)))):=rfl;generalize jb8 s=R at G ⊢;go_enter Tryz.func115,Tryz.ntmps115;go_wp2_with fail;go_loopw [3] (fun i wr=>∃ (k:Nat),i=.int .i64 k/\k<=s.size/\Bw w wr/\Hid (R=((s.data.toList.drop k).all jbH&&(decide (1<=s.size)&&decide (s.size<=12))))) (fun i _=>s.size-(intOf i).toNat)
 case atStart=>exact⟨0,rfl,Nat.zero_le _,Below.refl _ _,G⟩
 case round =>
  obtain⟨k,rfl,O,E,C⟩:=hrel;by_cases A:k<s.size
  ·have F:=Lib.hid (juR jbH s k A)
   have Q:=UInt8.toNat_lt (s[k]'A);by_cases M:(s[k]'A).toNat<97
   ·have B:Hid (R=false):=by rw[Hid,C.out,F.out,show jbH (s[k]'A)=false by unfold jbH;simp;omega];rfl
    go_wp2_with fail;go_ret;exact⟨by rw[B.out];first | rfl | (simp only[D];rfl),E⟩
   ·by_cases N:122<(s[k]'A).toNat
    ·have B:Hid (R=false):=by rw[Hid,C.out,F.out,show jbH (s[k]'A)=false by unfold jbH;simp;omega];rfl
     go_wp2_with fail;go_ret;exact⟨by rw[B.out];first | rfl | (simp only[D];rfl),E⟩
    ·have B:Hid (R=((s.data.toList.drop (k+1)).all jbH&&(decide (1<=s.size)&&decide (s.size<=12)))):=by rw[Hid,C.out,F.out,show jbH (s[k]'A)=true by unfold jbH;simp;omega];rfl
     go_wp2_with fail;go_roundw
     case rel=>exact⟨k+1,by go_num,by omega,E,B.out⟩
     case measure=>simp[intOf];omega
  ·have L:s.data.toList.drop k=[]:=jeI s k (by omega)
   have H:=Lib.hid L;by_cases I:1<=s.size
   ·by_cases J:s.size<=12
    ·have B:Hid (R=true):=by rw[Hid,C.out,H.out,decide_eq_true I,decide_eq_true J];rfl
     have D:decide ((s.size:Int)<=12)=true:=by rw[decide_eq_true_iff];omega
     go_wp2_with fail;go_ret;exact⟨by rw[B.out];first | rfl | (simp only[D];rfl),E⟩
    ·have B:Hid (R=false):=by rw[Hid,C.out,H.out,decide_eq_false J];simp
     have D:decide ((s.size:Int)<=12)=false:=by rw[decide_eq_false_iff_not];omega
     go_wp2_with fail;go_ret;exact⟨by rw[B.out];first | rfl | (simp only[D];rfl),E⟩
   ·have B:Hid (R=false):=by rw[Hid,C.out,decide_eq_false I];simp
    go_wp2_with fail;go_ret;exact⟨by rw[B.out];first | rfl | (simp only[D];rfl),E⟩
theorem jw7 (s:ByteArray):(s++(⟨#[120]⟩:ByteArray)).data.toList=s.data.toList++[120]:=by simp
theorem jw8 (s:ByteArray):(s++(⟨#[120]⟩:ByteArray)).size=s.size+1:=by rw[ByteArray.size_append];rfl
theorem juP (s:ByteArray) (h:0<s.size):Utf8.decode (s++(⟨#[120]⟩:ByteArray)) 0=Lib.decodeL s.data.toList:=by
 rw[<- Lib.decodeL_drop,List.drop_zero,jw7];exact jqG _ (by intro e;have:=congrArg List.length e;rw[Array.length_toList] at this;exact absurd this (by show ¬ s.size=0;omega))
def joM (l:List UInt8):Nat:=if jfo l then 0 else (Lib.decodeL l).2
theorem jjc (s:ByteArray) (w:World) (O:0<s.size) (p:s.size<4294967281) :
  CR 157 #[.string s] w (.int .i64 (joM s.data.toList)):=by
 have a:s.data.toList≠[]:=by intro e;have:=congrArg List.length e;rw[Array.length_toList] at this;exact absurd this (by show ¬ s.size=0;omega)
 have b:=jw8 s;have T:=juP s O;have N:=Lib.hid (jvZ s.data.toList);have M:=Lib.hid (jkU s.data.toList a);have j:s.data.toList.length=s.size:=by rw[Array.length_toList];rfl
 have G:Hid (joM s.data.toList=if jfo s.data.toList then 0 else (Lib.decodeL s.data.toList).2):=rfl;generalize joM s.data.toList=R at G ⊢;generalize ht:s++(⟨#[120]⟩:ByteArray)=t at b T;go_enter Tryz.func157,Tryz.ntmps157;go_wp2_with fail;go_loopw [3,4] (fun _ _ wr=>∃ I,wr.heap[w.heap.size]? = some (.stringIter t I)/\Bw w wr/\(I=0\/(I=(Lib.decodeL s.data.toList).2/\jfo s.data.toList=false))) (fun _ _ wr=>t.size-wr.iterPos w.heap.size)
 case atStart=>exact⟨0,World.iter_heap w t 0,(Below.refl _ _).alloc (Nat.le_refl _) _,.inl rfl⟩
 case round =>
  obtain⟨I,H,S,Q⟩:=hrel;have D:=jax H;rcases Q with rfl | ⟨rfl,i⟩
  ·have Q:0<t.size:=by omega
   obtain⟨l,L,A,B,-,-⟩:=jdG (P:=Tryz.prog) H S (Nat.le_refl _) Q;rw[T] at L A;have Z:=jdJ t 0 Q;rw[T] at Z;have F:Hid (jfo s.data.toList=((Lib.decodeL s.data.toList).1==65533&&(decide (s.data.toList.length<3)||s.data.toList.take 3 != [239,191,189]))):=N.out.symm;rw[j] at F;have U:s.data.toList.take 3=(s.extract 0 3).data.toList:=by simp
   rw[U] at F;rw[Nat.zero_add] at A;generalize Lib.decodeL s.data.toList=rd at *;generalize jfo s.data.toList=bb at *;clear U T H;by_cases C:rd.1=65533
   ·have c:((rd.1:Int)==65533)=true:=by rw[C];rfl
    by_cases Y:s.size<3
    ·have X:decide ((s.size:Int)<3)=true:=by rw[decide_eq_true_iff];omega
     have E:Hid (R=0):=by rw[Hid,G.out,F.out,C,decide_eq_true Y];rfl
     clear F G N M C;go_wp2_with fail;go_ret;exact⟨by rw[E.out];rfl,B⟩
    ·have X:decide ((s.size:Int)<3)=false:=by rw[decide_eq_false_iff_not];omega
     have m:3<=s.size:=by omega
     by_cases J:(s.extract 0 3).data.toList=[239,191,189]
     ·have f:((s.extract 0 3).toList==[239,191,189])=true:=by rw[Lib.toList_data,J];rfl
      have g:(s.extract 0 3).toList=[239,191,189]:=by rw[Lib.toList_data,J]
      have E:Hid (bb=false):=by rw[Hid,F.out,C,decide_eq_false Y,J];rfl
      clear F G N M C J;go_wp2_with fail;go_roundw
      case rel=>exact⟨_,A,B,.inr ⟨rfl,E.out⟩⟩
      case measure=>rw[jax A,D];omega
     ·have f:((s.extract 0 3).toList==[239,191,189])=false:=by rw[Lib.toList_data,beq_eq_false_iff_ne];exact J
      have g:¬ (s.extract 0 3).toList=[239,191,189]:=by rw[Lib.toList_data];exact J
      have E:Hid (R=0):=by
       have:bb=true:=by rw[F.out,C,decide_eq_false Y,bne_iff_ne.2 J];rfl
       rw[Hid,G.out,this];rfl
      clear F G N M C J;go_wp2_with fail;go_ret;exact⟨by rw[E.out];rfl,B⟩
   ·have c:((rd.1:Int)==65533)=false:=by rw[beq_eq_false_iff_ne];omega
    have E:Hid (bb=false):=by rw[Hid,F.out,beq_eq_false_iff_ne.2 C];rfl
    clear F G N M C;go_wp2_with fail;go_roundw
    case rel=>exact⟨_,A,B,.inr ⟨rfl,E.out⟩⟩
    case measure=>rw[jax A,D];omega
  ·obtain⟨r,n,V⟩:=M.out i
   rw[j] at n;have h:R=(Lib.decodeL s.data.toList).2:=by rw[G.out,i];rfl
   have Q:(Lib.decodeL s.data.toList).2<t.size:=by omega
   obtain⟨l,L,A,B,-,-⟩:=jdG (P:=Tryz.prog) H S (Nat.le_refl _) Q
   have k:(s.data.toList.getD 0 0).toNat=(s[0]'O).toNat:=by
    have:=jgI s 0 O;rw[List.drop_zero] at this;rw[this];rfl
   rw[k] at V;have q:=UInt8.toNat_lt (s[0]'O);generalize (Utf8.decode t (Lib.decodeL s.data.toList).2)=dd at L A;generalize (Lib.decodeL s.data.toList).2=d at *;have E:=Lib.hid h;have c:decide ((0:Int)<(d:Int))=true:=by rw[decide_eq_true_iff];omega
   have f:decide ((s.size:Int)<(d:Int))=false:=by rw[decide_eq_false_iff_not];omega
   clear M G N k T h;by_cases C:d=1
   ·have X:((d:Int)==1)=true:=by rw[C];rfl
    have g:¬ 128<=(s[0]'O).toNat:=fun e=>V ⟨C,e⟩
    have o:decide ((128:Int)<=((s[0]'O).toNat:Int))=false:=by rw[decide_eq_false_iff_not];omega
    clear V C;go_wp2_with fail;go_ret;exact⟨by rw[E.out];rfl,B⟩
   ·have X:((d:Int)==1)=false:=by rw[beq_eq_false_iff_ne];omega
    clear V C;go_wp2_with fail;go_ret;exact⟨by rw[E.out];rfl,B⟩
theorem jc3 (n:Int) (w:World):Calls Tryz.prog 155 #[.int .i64 n] w fun e w'=>e=.returned (.bool (jbP n))/\w'=w:=by
 have B:Hid (jbP n=(decide (3<=n)&&decide (n<=8))):=rfl;generalize jbP n=b at B ⊢;by_cases C:3<=n
 ·by_cases D:n<=8
  ·have A:Hid (b=true):=by rw[Hid,B.out,decide_eq_true C,decide_eq_true D];rfl
   go_enter Tryz.func155,Tryz.ntmps155;go_wp2_with fail;go_ret;exact⟨by rw[A.out];rfl,rfl⟩
  ·have A:Hid (b=false):=by rw[Hid,B.out,decide_eq_false D,Bool.and_false]
   go_enter Tryz.func155,Tryz.ntmps155;go_wp2_with fail;go_ret;exact⟨by rw[A.out];rfl,rfl⟩
 ·have A:Hid (b=false):=by rw[Hid,B.out,decide_eq_false C,Bool.false_and]
  go_enter Tryz.func155,Tryz.ntmps155;go_wp2_with fail;go_ret;exact⟨by rw[A.out];rfl,rfl⟩
theorem jnB (b:Int) (s:ByteArray):jcC b s=jcB b (jeM s):=by
 have h:s.data.toList=(jeM s).map (·.2):=by
  apply List.ext_getElem?;intro i;by_cases A:i<s.size
  ·simp[jeM,A]
  ·simp[jeM,A]
 unfold jcC jcB;rw[h,List.all_map];rfl
theorem jiy (b:Nat) (a:3<=b) (c:b<=8) (s:ByteArray) (q:Int) (Q:q=2^b) (w:World) :
  CR 119 #[.agg #[.int .i64 b,.string s]] w (.bool ((s.size:Int)==q&&jcC b s)):=by
 obtain⟨L,Z,H,G,f⟩:=jaf w #[.int .i64 b,.string s] 34;have E:Hid (∀ w,Calls Tryz.prog 155 #[.int .i64 b] w fun e w'=>e=.returned (.bool true)/\w'=w):=fun w=>(jc3 b w).mono fun e w' ⟨O,M⟩=>⟨by rw[O];simp[jbP];omega,M⟩
 have I:0<=q/\q<=256:=by
  rcases (by omega:b=3\/b=4\/b=5\/b=6\/b=7\/b=8) with rfl | rfl | rfl | rfl | rfl | rfl<;>(rw[Q];decide)
 obtain⟨I,d⟩:=I;have j:IntKind.i64.wrap (2^b)=q:=by rw[<- Q];exact IntWalk.i64_in _ (by omega)
 have J:w.heap.size<L.heap.size:=by omega
 have C:=Lib.hid G;have V:Hid (jcC b s=jcB b (jeM s)):=jnB b s;have U:=Lib.hid (jkF s);obtain⟨Y,c1⟩:=cl2 H;clear H G Q;by_cases D:(s.size:Int)=q
 case neg =>
  have g:((s.size:Int) != q)=true:=by rw[bne_iff_ne];exact D
  have B:Hid (((s.size:Int)==q&&jcC b s)=false):=by rw[Hid,beq_eq_false_iff_ne.2 D];rfl
  generalize ((s.size:Int)==q&&jcC b s)=bR at B ⊢;clear D;go_enter Tryz.func119,Tryz.ntmps119;go_wp2_with fail;go_quiet ((go_at_call 155;exact Calls.quiet_of_same (E.out _)));go_wp2_with fail;go_ret;exact⟨by rw[B.out];rfl,bDr C.out _⟩
 have g:((s.size:Int) != q)=false:=by rw[bne_eq_false_iff_eq];exact D
 have R:s.size<=256:=by omega
 have N:Hid (((s.size:Int)==q&&jcC b s)=jcB b (jeM s)):=by rw[Hid,beq_iff_eq.2 D,Bool.true_and,V.out]
 generalize ((s.size:Int)==q&&jcC b s)=bR at N ⊢;clear D;go_enter Tryz.func119,Tryz.ntmps119;go_wp2_with fail;go_quiet ((go_at_call 155;exact Calls.quiet_of_same (E.out _)));have P:Bw L (L.drewN nq):=bDr (Below.refl _ _) _;go_wp2_with fail;go_loopw [3] (fun i wr=>∃ (k:Nat),i=.int .i64 k/\k<=s.size/\Bw L wr/\Hid (jcB b ((jeM s).take k)=true)) (fun i _=>s.size-(intOf i).toNat)
 case atStart=>exact⟨0,rfl,Nat.zero_le _,P,rfl⟩
 case round =>
  obtain⟨k,rfl,h,F,S⟩:=hrel;have m:wr.cell? ⟨w.heap.size,0,none⟩=some (.int .i64 b):=(F.cell (p:=⟨w.heap.size,0,none⟩) J).trans Y;have n:wr.cell? ⟨w.heap.size,1,none⟩=some (.string s):=(F.cell (p:=⟨w.heap.size,1,none⟩) J).trans c1;by_cases A:k<s.size
  ·have X:=Lib.hid (jnp s k A)
   have l:=UInt8.toNat_lt (s[k]'A)
   have T:Hid (jcB b ((jeM s).take (k+1)) = !decide (65-(b:Int)<((s[k]'A).toNat:Int))):=by
    rw[Hid,jai X.out,jcu,S.out,jgJ,Bool.true_and]
   by_cases ht:65-(b:Int)<((s[k]'A).toNat:Int)
   ·have B:Hid (bR=false):=by
     have O:jcB b ((jeM s).take (k+1))=false:=by rw[T.out,decide_eq_true ht];rfl
     rw[Hid,N.out]
     cases M:jcB b (jeM s) with
     | false=>rfl
     | true =>
      rw[<- List.take_append_drop (k+1) (jeM s),jcu,O] at M
      cases M
    go_wp2_with fail;go_quiet (fail);go_wp2_with fail;go_ret;exact⟨by rw[B.out];rfl,C.out.trans ((bDr F _).mono (by omega))⟩
   ·have B:Hid (jcB b ((jeM s).take (k+1))=true):=by rw[Hid,T.out,decide_eq_false ht];rfl
    go_wp2_with fail;go_quiet (fail);go_wp2_with fail;go_roundw
    case rel=>exact⟨k+1,by go_num,by omega,bDr F _,B.out⟩
    case measure=>simp[intOf];omega
  ·obtain rfl:k=s.size:=by omega
   have B:Hid (bR=true):=by rw[Hid,N.out,<- S.out,List.take_of_length_le (by rw[U.out];exact Nat.le_refl _)]
   go_wp2_with fail;go_ret;exact⟨by rw[B.out];rfl,C.out.trans (F.mono (by omega))⟩
theorem jeR (b:Int) (s:ByteArray) (w:World) :
  CR 119 #[.agg #[.int .i64 b,.string s]] w (.bool (jaT b s)):=by
 cases C:jbP b with
 | true =>
  have hr:3<=b/\b<=8:=by simpa [jbP] using C
  obtain⟨n,rfl⟩:∃ n:Nat,b=n:=⟨b.toNat,by omega⟩;have h:=jiy n (by omega) (by omega) s _ rfl w;have e:jaT n s=((s.size:Int)==2^n&&jcC n s):=by unfold jaT;rw[C,Bool.true_and,Int.toNat_natCast]
  rw[e];exact h
 | false =>
  obtain⟨L,I,B,A,J⟩:=jaf w #[.int .i64 b,.string s] 34;have E:Hid (∀ w,Calls Tryz.prog 155 #[.int .i64 b] w fun e w'=>e=.returned (.bool false)/\w'=w):=fun w=>(jc3 b w).mono fun e w' ⟨G,H⟩=>⟨by rw[G,C],H⟩
  have F:Hid (jaT b s=false):=by unfold jaT;rw[Hid,C];rfl
  have D:=Lib.hid A;obtain⟨M,c1⟩:=cl2 B;clear B A C;generalize jaT b s=bR at F ⊢;go_enter Tryz.func119,Tryz.ntmps119;go_wp2_with fail;go_quiet ((go_at_call 155;exact Calls.quiet_of_same (E.out _)));go_wp2_with fail;go_ret;exact⟨by rw[F.out];rfl,bDr D.out _⟩
def jmG (r c:Int):Bool:=(decide (1<=r)&&decide (r<=4))&&(((c==4||c==8)||c==16)||c==32)
theorem jpl (r c:Int) (E:I64 c):jmG r c=jbn r c:=by
 unfold jmG jbn;by_cases h:4<=c/\c<=32
 ·obtain⟨C,D⟩:=h
  obtain⟨n,rfl⟩:∃ n:Nat,c=n:=⟨c.toNat,by omega⟩;have key:∀ n∈List.range 33,4<=n->((((n:Int)==4||(n:Int)==8)||(n:Int)==16)||(n:Int)==32)=(bits .and .i64 (n:Int) ((n:Int)-1)==0):=by decide +kernel
  rw[key n (List.mem_range.2 (by omega)) (by omega),decide_eq_true C,decide_eq_true D,Bool.and_true,Bool.and_true]
 ·have A:(((c==4||c==8)||c==16)||c==32)=false:=by simp;omega
  have B:(decide (4<=c)&&decide (c<=32))=false:=by simp;omega
  rw[A,Bool.and_false,Bool.and_assoc (decide (1<=r)&&decide (r<=4)),B,Bool.and_false,Bool.false_and]
theorem jg9 (r c:Int) (w:World):Calls Tryz.prog 131 #[.int .i64 r,.int .i64 c] w fun e w'=>e=.returned (.bool (jmG r c))/\w'=w:=by
 by_cases I:1<=r
 case neg =>
  have A:Hid (jmG r c=false):=by rw[Hid,jmG,decide_eq_false I];rfl
  generalize jmG r c=b at A ⊢;go_enter Tryz.func131,Tryz.ntmps131;go_wp2_with fail;go_ret;exact⟨by rw[A.out];rfl,rfl⟩
 by_cases J:r<=4
 case neg =>
  have A:Hid (jmG r c=false):=by rw[Hid,jmG,decide_eq_false J,Bool.and_false];rfl
  generalize jmG r c=b at A ⊢;go_enter Tryz.func131,Tryz.ntmps131;go_wp2_with fail;go_ret;exact⟨by rw[A.out];rfl,rfl⟩
 have A:Hid (jmG r c=(((c==4||c==8)||c==16)||c==32)):=by rw[Hid,jmG,decide_eq_true I,decide_eq_true J];rfl
 generalize jmG r c=b at A ⊢;by_cases E:c=4
 ·have C:Hid (b=true):=by rw[Hid,A.out,E];rfl
  clear A;subst E;go_enter Tryz.func131,Tryz.ntmps131;go_wp2_with fail;go_ret;exact⟨by rw[C.out];rfl,rfl⟩
 by_cases F:c=8
 ·have C:Hid (b=true):=by rw[Hid,A.out,F];rfl
  clear A E;subst F;go_enter Tryz.func131,Tryz.ntmps131;go_wp2_with fail;go_ret;exact⟨by rw[C.out];rfl,rfl⟩
 by_cases B:c=16
 ·have C:Hid (b=true):=by rw[Hid,A.out,B];rfl
  clear A E F;subst B;go_enter Tryz.func131,Tryz.ntmps131;go_wp2_with fail;go_ret;exact⟨by rw[C.out];rfl,rfl⟩
 have L:(c==4)=false:=beq_eq_false_iff_ne.2 E;have M:(c==8)=false:=beq_eq_false_iff_ne.2 F;have G:(c==16)=false:=beq_eq_false_iff_ne.2 B;by_cases D:c=32
 ·have C:Hid (b=true):=by rw[Hid,A.out,D];rfl
  clear A E F B L M G;subst D;go_enter Tryz.func131,Tryz.ntmps131;go_wp2_with fail;go_ret;exact⟨by rw[C.out];rfl,rfl⟩
 ·have H:(c==32)=false:=beq_eq_false_iff_ne.2 D
  have C:Hid (b=false):=by rw[Hid,A.out,L,M,G,H];rfl
  clear A E F B D;go_enter Tryz.func131,Tryz.ntmps131;go_wp2_with fail;go_ret;exact⟨by rw[C.out];rfl,rfl⟩
theorem jbW (r c:Int) (a:Option Addr) (len cap:Nat) (l:List Int) (w:World) (N:I64 c) (B:len=l.length) :
  CR 120 #[.agg #[.int .i64 r,.int .i64 c,.slice a len cap]] w (.bool (jaN r c l)):=by
 obtain⟨T,M,G,F,O⟩:=jaf w #[.int .i64 r,.int .i64 c,.slice a len cap] 36;have A:Hid (∀ w,Calls Tryz.prog 131 #[.int .i64 r,.int .i64 c] w fun e w'=>e=.returned (.bool (jmG r c))/\w'=w):=fun w=>jg9 r c w
 have D:=Lib.hid F;have E:Hid (jaN r c l=(jmG r c&&((len:Int)==r*c))):=by rw[Hid,jaN,jpl r c N,B]
 obtain⟨U,V,X⟩:=cl3 G;clear G F B;generalize jaN r c l=bR at E ⊢
 cases C:jmG r c with
 | false =>
  rw[C] at A;have I:Hid (bR=false):=by rw[Hid,E.out,C];rfl
  clear C E;go_enter Tryz.func120,Tryz.ntmps120;go_wp2_with (go_at_call 131;refine (A.out _).mono ?_;rintro e S ⟨rfl,rfl⟩);go_ret;exact⟨by rw[I.out];rfl,D.out⟩
 | true =>
  rw[C] at A
  have L:1<=r/\r<=4/\4<=c/\c<=32:=by
   simp only[jmG,Bool.and_eq_true,Bool.or_eq_true,decide_eq_true_eq,beq_iff_eq] at C;omega
  obtain⟨Z,R,c4,J⟩:=L
  have H:0<=r*c/\r*c<=128:=by
   refine⟨Int.mul_nonneg (by omega) (by omega),?_⟩
   calc r*c<=4*c:=Int.mul_le_mul_of_nonneg_right R (by omega)
    _<=128:=by omega
  obtain⟨P,Q⟩:=H;have I:Hid (bR=((len:Int)==r*c)):=by rw[Hid,E.out,C];rfl
  generalize hrc:r*c=rc at I P Q;have Y:IntKind.i64.wrap (r*c)=rc:=by rw[hrc];exact IntWalk.i64_in _ (by omega)
  clear C E;go_enter Tryz.func120,Tryz.ntmps120;go_wp2_with (go_at_call 131;refine (A.out _).mono ?_;rintro e S ⟨rfl,rfl⟩);go_ret;exact⟨by rw[I.out];rfl,D.out⟩
theorem jje (N c1:Int) (I:Option Addr) (A C:Nat) (L:List Int) (O c2:Int) (J:Option Addr) (B D:Nat) (M:List Int) (w:World) (R:SlE jaG 1 w.heap.size w I A L) (S:SlE jaG 1 w.heap.size w J B M) (V:A<=maxLen) :
  CR 38 #[.agg #[.int .i64 N,.int .i64 c1,.slice I A C],.agg #[.int .i64 O,.int .i64 c2,.slice J B D]] w (.bool ((N==O&&c1==c2)&&L==M)):=by
 obtain⟨T,U,G,H,F,X⟩:=jaI w #[.int .i64 N,.int .i64 c1,.slice I A C] 36 #[.int .i64 O,.int .i64 c2,.slice J B D] 36;have Q:=Lib.hid (jd8 I A C L J B D M T (R.go F) (S.go F) V);have E:=Lib.hid F;obtain⟨Y,Z,a⟩:=cl3 G;obtain⟨b,c,d⟩:=cl3 H;clear G H F R S;generalize (L==M)=bl at Q ⊢
 cases hr:(N==O) with
 | false =>
  go_enter Tryz.func38,Tryz.ntmps38;go_wp2_with fail;go_ret;exact⟨rfl,E.out⟩
 | true =>
  cases f:(c1==c2) with
  | false =>
   go_enter Tryz.func38,Tryz.ntmps38;go_wp2_with fail;go_ret;exact⟨rfl,E.out⟩
  | true =>
   go_enter Tryz.func38,Tryz.ntmps38;go_wp2_with (go_at_call 37;refine Q.out.mono ?_;rintro e g ⟨rfl,P⟩);go_ret;exact⟨rfl,E.out.trans (P.mono E.out.size)⟩
end
end Go.Proofs.YtafhpamnegmilaaGreatDoor

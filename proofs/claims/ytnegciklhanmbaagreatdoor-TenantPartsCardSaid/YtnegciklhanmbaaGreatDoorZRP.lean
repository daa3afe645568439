/- Words of my own, of no program: slices in memory, boxes, a range over a function in a plain walk. Rows of laws: what a call that answers true and changes nothing leaves; arguments opened to the walks' words. Of no program. Slices by their elements: whatever address an empty one has. Of no program. What rows have in common: the program's closed facts, sketches and numbers opened, errors.errorType. Printed by gen_rz.py. Package ladder: what sketches cost, in plain data. Laws of layer 10: items; New, whatever the kind. What rows have in common: items opened. Printed by gen_rz.py. What rows have in common: a key opened, beside series and items. Plain: items that come in two parts, or at once. The law LadderRules. Printed by gen_law10.py. aviaryref04.Same; series.Same of tables of the same series. The references of layers 6 to 8: Right, Numbers, Same. The reference of layer 8: Right, Same. The reference of layer 9: Same. The reference of layer 10: Same, at any sketches. -/
import Derived.Test.YtnegciklhanmbaaGreatDoorZUD
set_option maxHeartbeats 4000000
set_option maxRecDepth 100000
namespace Go.Proofs.YtnegciklhanmbaaGreatDoor
open Go Go.RowKit
section
open Go.Shelf
theorem tk {P:Program} {md:Region.Mode} {B:Array Oper} {Q:Exit->Act->World->Prop} (i:Nat) {D:Oper} {v:Value} {C:Nat} {A:Array Bool} {a:Act} {w:World} (G:B[i]? = some D)
  (J:∀ w,(execOp a.eval D).run P w=.ok (.value v) w) (h:wpAny P md B Q C (A.setIfInBounds i true) (a.put D.dst v) w)
  (I:Region.wanted D (yielded B a.tmps)=true:=by rfl) (H:Region.noSelect B=true:=by kernel_rfl) (F:Region.free md B A i=true:=by kernel_rfl)
  (hr:(Region.ready md B A).contains i=true:=by kernel_rfl) (E:∀ c a w,Q (.panic c) (a.put D.dst v) w->Q (.panic c) a w:=by exact fun _ _ _ h=>h):wpAny P md B Q (C+1) A a w :=
 wpAny_take G H F hr E (Or.inl ⟨I,J⟩) h
end
section
open Go.ChangeShapes Go.WideShapes Go.Deep
section
variable {H:Type} {enc:TypeId × Value->H} {P:Program}
variable {w:World} {base:Nat} {spare:Nat->Bool} {held:Bool}
theorem jgO {e:TypeId} {B:Array Field} {C:Nat} {E:List Value} {x:DataW H × List MemPlace} (J:P.underlying e=some (.struct B)) (D:oneCellFields P B=true) (I:P.cellsOf e=B.size)
  (h:DataW.trod enc P w base spare held C e E=some x):E.length=B.size/\∃ n,∀ (j:Nat) (f:Field),B[j]? = some f->∃ v y,E[j]? = some v/\DataW.trod enc P w base spare held n f.type [v]=some y:=by
 obtain⟨xs,n,_,_,A,Q,L⟩:=DataW.trod_struct J h;rw[I] at A;refine⟨A,n,fun j f F=>?_⟩;obtain⟨O,N⟩:=hone_of D j f F;have M:j<B.size:=(Array.getElem?_eq_some_iff.1 F).1;have G:=L j f F;rw[O,N,List.drop_eq_getElem_cons (by omega),List.getElem?_eq_getElem (by omega)] at G;exact⟨_,_,List.getElem?_eq_getElem (by omega),G⟩
end
end
section
open Go.ChangeShapes Go.WideShapes Go.Deep
section
variable {H:Type} {enc:TypeId × Value->H} {P:Program} {w:World} {base:Nat} {held:Bool}
theorem jm5 {α:Type} {t e:TypeId} {k:Nat} {encA:α->List Value} (hk:0<k) (ht:P.underlying t=some (.slice e)) (q:P.cellsOf e=k)
  (V:∀ n o x,DataW.trod enc P w base (fun _=>true) held n e o=some x->∃ y,o=encA y) {M:Nat} {a:Option Addr} {len cap:Nat} {x:DataW H × List MemPlace}
  (h:DataW.trod enc P w base (fun _=>true) held M t [.slice a len cap]=some x) :
  ∃ l:List α,SlC encA k w.heap.size w a len cap l:=by
 rcases open_slice ht h with⟨p,_⟩ | ⟨A,v,g,m,n,D,Pl,Q,-,r,f,u,-,R⟩
 ·simp only[List.cons.injEq,and_true,Value.slice.injEq] at p
  obtain⟨rfl,rfl,rfl⟩:=p;exact⟨[],SlC.nil⟩
 ·simp only[List.cons.injEq,and_true,Value.slice.injEq] at Q
  obtain⟨rfl,rfl,rfl⟩:=Q;rw[if_pos rfl] at u;subst u
  have B:∀ i,i<m->∃ y,A.spot=none/\A.block<w.heap.size/\∀ j,j<k->w.cell? ⟨A.block,A.off+i*k+j,none⟩=(encA y)[j]? := fun i b=>by
   obtain⟨aa,E,F⟩:=R i b;obtain⟨y,rfl⟩:=V _ _ _ F;rw[q] at E;obtain⟨_,s,U⟩:=World.cells?_some E
   have I:A.spot=none/\A.block<w.heap.size:=by
    obtain⟨ab,N,ac⟩:=R 0 (by omega);rw[q,Nat.zero_mul] at N;obtain⟨_,c,O⟩:=World.cells?_some N;have J:=O 0 hk;have ea:(A.add 0).add 0=A:=by simp[Addr.add]
    rw[ea,List.getElem?_eq_getElem (by omega)] at J;refine⟨?_,World.block_lt_of_cell? w _ J⟩;unfold World.cell? at J
    cases hs:A.spot with
    | none=>rfl
    | some z =>
     rw[hs] at J;split at J<;>simp at J
   refine⟨y,I.1,I.2,fun j hj=>?_⟩;have:=U j hj;rw[jg0 I.1,jg0 rfl] at this;exact this
  have X:∃ l:List α,l.length=len/\∀ i y,l[i]? = some y->A.spot=none/\A.block<w.heap.size/\∀ j,j<k->w.cell? ⟨A.block,A.off+i*k+j,none⟩=(encA y)[j]? := by
   have C:∀ i,i<len->∃ y,A.spot=none/\A.block<w.heap.size/\∀ j,j<k->w.cell? ⟨A.block,A.off+i*k+j,none⟩=(encA y)[j]? := fun i R=>B i (by omega)
   clear R r h B
   induction len with
   | zero=>exact⟨[],rfl,fun i y h=>by simp at h⟩
   | succ n ih =>
    obtain⟨l,E,F⟩:=ih (fun i R=>C i (by omega));obtain⟨y,T⟩:=C n (by omega);refine⟨l++[y],by simp[E],fun i z L=>?_⟩;by_cases Z:i<l.length
    ·rw[List.getElem?_append_left Z] at L
     exact F i z L
    ·have Y:=(List.getElem?_eq_some_iff.1 L).1
     have:i=n:=by simp at Y;omega
     subst this;rw[List.getElem?_append_right (by omega),E] at L;simp at L;subst L;exact T
  obtain⟨l,d,G⟩:=X;refine⟨l,⟨d.symm,fun j y T=>?_⟩,r,f,fun h=>by (cases h),fun y T S=>?_⟩
  ·obtain⟨E,F,h3⟩:=G j y T
   exact⟨A.block,A.off,by congr 1;cases A;simp_all,F,h3⟩
  ·cases T
   obtain⟨_,E,F,_⟩:=B 0 S;exact⟨E,F⟩
end
end
section
open Go.ChangeShapes Go.WideShapes Go.ChangeAt Go.Lib Go.Deep Go.Shelf
section
variable {H:Type} {enc:TypeId × Value->H} {w:World} {base:Nat} {held:Bool}
theorem juR {P:Program} {α:Type} {t e:TypeId} {k:Nat} {encA:α->List Value} {Q:α->Prop} (N:0<k) (ht:P.underlying t=some (.slice e)) (M:P.cellsOf e=k)
  (E:∀ n C x,DataW.trod enc P w base (fun _=>true) held n e C=some x->∃ y,C=encA y/\Q y) {A:Nat} {v:Value} {x:DataW H × List MemPlace}
  (h:DataW.trod enc P w base (fun _=>true) held A t [v]=some x):∃ a len cap l,v=.slice a len cap/\SlC encA k w.heap.size w a len cap l/\∀ y∈l,Q y:=by
 obtain⟨a,len,cap,rfl⟩:∃ a len cap,v=.slice a len cap:=by
  rcases open_slice ht h with⟨G,_⟩ | ⟨U,I,F,m,n,D,T,B,-⟩
  ·simp only[List.cons.injEq,and_true] at G;exact⟨_,_,_,G⟩
  ·simp only[List.cons.injEq,and_true] at B;exact⟨_,_,_,B⟩
 obtain⟨l,O⟩:=jm5 (encA:=fun y : { y // Q y }=>encA y.1) N ht M (fun n C x R=>by obtain⟨y,J,L⟩:=E n C x R;exact⟨⟨y,L⟩,J⟩) h;refine⟨a,len,cap,l.map (·.1),rfl,O.map,fun y S=>?_⟩;obtain⟨z,_,rfl⟩:=List.mem_map.1 S;exact z.2
end
end
section
open Go.Shelf
def jvb:Bd->Nat
 | .num l=>8*l.length
 | .reg _ r=>r.length
 | .cnt _ l=>8*l.length
 | .bkt _ l=>16*l.length
theorem jqy {B:Bd} {k L:Nat} (h:B.Ok k L):jbY (jcy k L B)=(jvb B:Int)+16:=by
 unfold jbY;rw[jh0 h,if_pos rfl]
 cases B with
 | num l =>
  obtain⟨rfl,rfl,-⟩:=h;show 8*(l.length:Int)+16=((8*l.length:Nat):Int)+16;omega
 | reg b r =>
  obtain⟨rfl,C,-⟩:=h;have A:(((L:Nat):Int)==0)=false:=by simp;omega
  show (if ((1:Nat):Int)==1 then if (L:Int)==0 then _ else ((jat r).size:Int) else _)+16=(r.length:Int)+16;rw[A,jbC];rfl
 | cnt c l =>
  obtain⟨rfl,-⟩:=h;show 8*(l.length:Int)+16=((8*l.length:Nat):Int)+16;omega
 | bkt f l =>
  obtain⟨rfl,-⟩:=h;show 16*(l.length:Int)+16=((16*l.length:Nat):Int)+16;omega
theorem jl3:Tryz.prog.underlying 58=some (.slice 66):=by kernel_rfl
theorem jjg (a:Option Addr) (len cap m:Nat) (w:World) (h:m<=cap):(Instr.slice 58 (.slice a len cap) none (some (.int .i64 (m:Int))) none).run Tryz.prog w=.ok (.slice a m cap) w:=by
 have B:=jf9 a cap 2;unfold jcH at B;have C:(sizeOf 66).run Tryz.prog w=.ok 2 w:=by kernel_rfl
 have A:Tryz.prog.elem 58=66:=by kernel_rfl
 rw[run_slice_h (t:=58) (a:=a) (len:=len) (cap:=cap) (w:=w) (ht:=by rw[A];exact jl3) (kh:=.i64) (h:=(m:Int)) (by omega) (by omega),A,C];simp only[Result.andThen,sliced,Int.toNat_natCast,Nat.sub_zero,B]
end
section
open Go.ChangeShapes Go.WideShapes Go.ChangeAt Go.Lib Go.Deep Go.Shelf
section
variable {H:Type} {enc:TypeId × Value->H} {w:World} {base:Nat} {held:Bool}
theorem jq4 (n:Nat) (A:List Value) (x:DataW H × List MemPlace) (h:DataW.trod enc Tryz.prog w base (fun _=>true) held n 66 A=some x):∃ y:Nat × Int,A=jil y/\Item.ok y:=by
 obtain⟨L,m,F⟩:=jgO Tryz.underlying66 (by kernel_rfl) (by kernel_rfl) h;obtain⟨v0,P,D,I⟩:=F 0 _ rfl;obtain⟨v1,Q,E,J⟩:=F 1 _ rfl;obtain⟨B,C,-,w0⟩:=DataW.trod_int jji I;obtain⟨G,c1,-,N⟩:=DataW.trod_int jji J
 match A,L with
 | [a,b],_ =>
  simp only[List.getElem?_cons_zero,List.getElem?_cons_succ,Option.some.injEq,List.cons.injEq,and_true] at D E C c1;obtain⟨M,O⟩:=jjk w0;refine⟨(B.toNat,G),?_,?_,jjk N⟩
  ·rw[D,E,C,c1]
   show _=[Value.int .u64 ((B.toNat:Nat):Int),.int .u64 G];rw[Int.toNat_of_nonneg M]
  ·show B.toNat<2^64
   omega
theorem jpe {r:Reach} {D:Nat} {v:Value} {d:DataW H} {p:List MemPlace} (F:Value.okWide Tryz.prog w r D 58 v) (h:DataW.Trod enc Tryz.prog w base (fun _=>true) held 58 v d p) :
  ∃ a len cap l,v=.slice a len cap/\SlC jil 2 w.heap.size w a len cap l/\∀ i∈l,Item.ok i:=by
 obtain⟨a,len,cap,rfl⟩:=okWide_slice Tryz.underlying58 F;obtain⟨B,E⟩:=h;obtain⟨G,C,A,l,e,S,U⟩:=juR (k:=2) (encA:=jil) (by omega) Tryz.underlying58 (by kernel_rfl) jq4 E;injection e with e1 e2 e3
 subst e1 e2 e3;exact⟨a,len,cap,l,rfl,S,U⟩
end
end
section
open Go.ChangeShapes Go.WideShapes Go.ChangeAt Go.Lib Go.Deep Go.Shelf
section
variable {H:Type} {enc:TypeId × Value->H} {w:World} {base:Nat} {held:Bool}
theorem juf (n:Nat) (C:List Value) (x:DataW H × List MemPlace) (h:DataW.trod enc Tryz.prog w base (fun _=>true) held n 57 C=some x):∃ A B:Int,C=[.int .u64 A,.int .u64 B]/\U64 A/\U64 B:=by
 obtain⟨L,m,G⟩:=jgO Tryz.underlying57 (by kernel_rfl) (by kernel_rfl) h;obtain⟨v0,P,E,I⟩:=G 0 _ rfl;obtain⟨v1,Q,F,J⟩:=G 1 _ rfl;obtain⟨M,D,-,w0⟩:=DataW.trod_int jji I;obtain⟨N,c1,-,O⟩:=DataW.trod_int jji J
 match C,L with
 | [a,b],_ =>
  simp only[List.getElem?_cons_zero,List.getElem?_cons_succ,Option.some.injEq,List.cons.injEq,and_true] at E F D c1;exact⟨M,N,by rw[E,F,D,c1],jjk w0,jjk O⟩
theorem juw {r:Reach} {F:Nat} {v:Value} {d:DataW H} {p:List MemPlace} (L:Value.okWide Tryz.prog w r F 57 v) (h:DataW.Trod enc Tryz.prog w base (fun _=>true) held 57 v d p) :
  ∃ A B:Int,v=.agg #[.int .u64 A,.int .u64 B]/\U64 A/\U64 B:=by
 obtain⟨D,rfl,-⟩:=okWide_struct Tryz.underlying57 L;obtain⟨E,J⟩:=h;obtain⟨A,B,G,I⟩:=juf _ _ _ J;refine⟨A,B,?_,I⟩;have C:D.toList=[.int .u64 A,.int .u64 B]:=G;rw[<- Array.toArray_toList (xs:=D),C]
end
end
section
open Go.Shelf
theorem jlq:∀ (E:List Lab) (b:ByteArray),je9 b E=true->∀ x∈E,(jc6 x).data.toList.length<=140
 | [],_,_,x,A=>by cases A
 | y::ys,b,h,x,A=>by
  simp only[je9,Bool.and_eq_true] at h;rcases List.mem_cons.1 A with rfl | A
  ·obtain⟨⟨⟨C,-⟩,B⟩,-⟩:=h
   simp only[jdu,jcb,Bool.and_eq_true,decide_eq_true_eq] at C B;have D:=B.1.2;unfold jfX at D;rw[if_pos B.1.1] at D;have F:=jd5 (rl x.value 0)
   have e:(jc6 x).size=x.name.size+1+(ja2 (rl x.value 0)).length:=by
    simp[jc6,ByteArray.size_append];rfl
   have G:=C.1.2;rw[<- Lib.size_eq,e];omega
  ·exact jlq ys _ h.2 x A
theorem jsx {l:List Lab} (h:jai l=true):(jiz l).size<=1000:=by
 unfold jiz;rw[if_pos h];simp only[jai,Bool.and_eq_true,decide_eq_true_eq] at h;rw[jjS,Lib.size_eq]
 have B:=jjO [44] 140 ((l.map jc6).map (·.data.toList)) (fun x A=>by
  simp only[List.mem_map] at A;obtain⟨_,⟨u,C,rfl⟩,rfl⟩:=A;exact jlq l _ h.2 u C)
 simp only[List.length_map,List.length_singleton] at B;have:l.length*(140+1)<=6*(140+1):=Nat.mul_le_mul_right _ h.1.2;simp only[];omega
theorem juu {l:List Lab} {k L:Nat} {B:Bd} {tm:Int} (G:jai l=true) (A:B.Ok k L) (hb:jc0 B<=300):jbh [⟨l,jcy k L B,tm⟩]<=1000000:=by
 have E:=jsx G
 have C:jvb B<=4800:=by
  cases B with
  | num l=>obtain⟨-,-,-,h,-⟩:=A;show 8*l.length<=_;omega
  | reg b r =>
   obtain⟨-,E,-,D,F,-⟩:=A;have:2^b<=2^8:=Nat.pow_le_pow_right (by omega) (by omega);show r.length<=_;omega
  | cnt c l =>
   obtain⟨-,C,D,F,-⟩:=A;have:=jdR D C;show 8*l.length<=_;omega
  | bkt f l=>show 16*l.length<=_;have:l.length<=300:=hb;omega
 show jaO _+0<=_;unfold jaO;dsimp only;rw[jqy A];omega
theorem ji1 {s:ByteArray} {l:List Lab} (h:jbP s=some l):jai l=true:=by
 unfold jbP at h;split at h
 ·split at h
  ·cases h;assumption
  ·cases h
 ·cases h
theorem jt0 (x:Ser):jam [x] x.l=0/\jax [x] x.l=true:=by
 have h:jam [x] x.l=0:=by simp[jam,jiU]
 refine⟨h,?_⟩;unfold jax;rw[h];simp
def jfu (l:List Lab) (kind:Int) (A:List (Nat × Int)):Ser:=jed [] l kind.toNat 7 A
theorem jkm {T:List Ser} {s:ByteArray} {kind:Int} {A:List (Nat × Int)} (C:A.length<=50) (h:jbP s=none\/jcm kind=false):jdj T 7 1000000 s kind A=.error (if (jbP s).isNone then 40 else 101):=by
 unfold jdj;rw[if_neg (by omega)]
 cases B:jbP s with
 | none=>rfl
 | some l =>
  rw[B] at h;rcases h with h | h
  ·cases h
  ·simp only[jdL,h];rfl
theorem jrD {kind:Int} (D:jcm kind=true) {A:List (Nat × Int)} (C:jef A) (E:A.length<=50):(A.foldl jba (0,jdA kind.toNat)).2.Ok kind.toNat (A.foldl jba (0,jdA kind.toNat)).1/\jc0 (A.foldl jba (0,jdA kind.toNat)).2<=50:=by
 obtain⟨k,rfl,B⟩:=jgh D;rw[Int.toNat_natCast];refine⟨jme A C (jjs k B),?_⟩;refine Nat.le_trans (jjt A _) ?_;have:jc0 (jdA k)=0:=by rcases B with rfl | rfl | rfl<;>rfl
 show jc0 (jdA k)+_<=_;omega
theorem jmO (l:List Lab) (kind:Int) (A:List (Nat × Int)):jfu l kind A=⟨l,jcy kind.toNat (A.foldl jba (0,jdA kind.toNat)).1 (A.foldl jba (0,jdA kind.toNat)).2,7⟩:=rfl
theorem jhR {s:ByteArray} {l:List Lab} {kind:Int} (C:jbP s=some l) (E:jcm kind=true) {A:List (Nat × Int)} (D:jef A) (F:A.length<=50):jaI (jfu l kind A)=true/\jbh [jfu l kind A]<=1000000:=by
 obtain⟨B,G⟩:=jrD E D F;rw[jmO];refine⟨?_,juu (ji1 C) B (by omega)⟩;show (jai l&&jfv (jcy _ _ _))=true;rw[ji1 C,jh0 B];rfl
theorem jjf {s:ByteArray} {l:List Lab} {kind:Int} (C:jbP s=some l) (B:jcm kind=true) {A:List (Nat × Int)} (F:jef A) (G:A.length<=50):jdj [] 7 1000000 s kind A=.ok ([jfu l kind A],[]):=by
 obtain⟨D,E⟩:=jhR C B F G;unfold jdj;rw[if_neg (by omega),C];show jdL [] 7 1000000 kind A l=_;unfold jdL;rw[if_pos B,show jdC [] l kind=false from rfl,if_neg (by decide)];rw[show jed [] l kind.toNat 7 A=jfu l kind A from rfl];rw[show jf3 [] (jfu l kind A)=[jfu l kind A] from rfl,jeR E,if_pos (by unfold jce;rw[D];rfl)]
theorem jss {s:ByteArray} {l:List Lab} {kind:Int} (I:jbP s=some l) (E:jcm kind=true) {A B:List (Nat × Int)} (N:jef (A++B)) (O:(A++B).length<=50):jdj [jfu l kind A] 7 1000000 s kind B=.ok ([jfu l kind (A++B)],[]):=by
 obtain⟨P,Q⟩:=jhR I E N O;have C:jef A:=fun x M=>N x (List.mem_append.2 (.inl M))
 rw[List.length_append] at O;obtain⟨R,-⟩:=jhR I E C (by omega);obtain⟨S,-⟩:=jrD E C (by omega);have U:(jfu l kind A).l=l:=rfl;obtain⟨H,G⟩:=jt0 (jfu l kind A);rw[U] at H G;have D:jmE [jfu l kind A] l=some (jfu l kind A):=by unfold jmE;rw[G,H];rfl
 have L:jbd [jfu l kind A] l kind.toNat=A.foldl jba (0,jdA kind.toNat):=by
  unfold jbd;rw[D];exact jlS S
 have M:jed [jfu l kind A] l kind.toNat 7 B=jfu l kind (A++B):=by
  unfold jed;rw[L,jmO,List.foldl_append]
 have T:jdC [jfu l kind A] l kind=false:=by
  unfold jdC;rw[D];obtain⟨k,rfl,-⟩:=jgh E;show ((jcy _ _ _).kind != _)=false;rw[(jaL _ _ _).1];simp
 have F:jf3 [jfu l kind A] (jfu l kind (A++B))=[jfu l kind (A++B)]:=by
  unfold jf3;rw[show (jfu l kind (A++B)).l=l from rfl,H,G];rfl
 have J:jce [jfu l kind A] (jfu l kind (A++B))=true:=by
  unfold jce;rw[P,show (jfu l kind (A++B)).l=l from rfl,G];have:jaj [jfu l kind A]=true:=(jaS _).2 ⟨by simp,fun y V=>by rw[List.mem_singleton.1 V];exact R,List.pairwise_singleton ..⟩;rw[this];rfl
 unfold jdj;rw[if_neg (by omega),I];show jdL [jfu l kind A] 7 1000000 kind B l=_;unfold jdL;rw[if_pos E,T,M,F,jeR Q,if_neg (by decide),if_pos J]
theorem juv {l:List Lab} {kind:Int} (C:jcm kind=true) {A:List (Nat × Int)} (B:jef A) (D:A.length<=50):jlM [jfu l kind A] 50:=fun x E=>by
 obtain⟨-,h⟩:=jrD C B D;rw[List.mem_singleton.1 E,jmO,jqg];omega
end
section
open Go.Shelf
theorem joX (a:Option Addr) (len cap m:Nat) (w:World) (h:m<=len):(Instr.slice 58 (.slice a len cap) (some (.int .i64 (m:Int))) none none).run Tryz.prog w=.ok (.slice (jcH a cap m 2) (len-m) (cap-m)) w:=by
 have B:(sizeOf 66).run Tryz.prog w=.ok 2 w:=by kernel_rfl
 have A:Tryz.prog.elem 58=66:=by kernel_rfl
 rw[run_slice_l (t:=58) (a:=a) (len:=len) (cap:=cap) (w:=w) (ht:=by rw[A];exact jl3) (kl:=.i64) (l:=(m:Int)) (by omega) (by omega),A,B];simp only[Result.andThen,sliced,Int.toNat_natCast,jcH]
attribute [-go_sem] run_slice_any run_slice_lh run_slice_h run_slice_l
end
section
open Go.Shelf
theorem jiq (a:Option Addr) (A H:Nat) (Q:List Lab) (b:Option Addr) (C I:Nat) (R:List Lab) (w:World) (L:SlE Lab.enc 2 w.heap.size w a A Q) (M:SlE Lab.enc 2 w.heap.size w b C R) (p:A<=maxLen) :
  CR 60 #[.slice a A H,.slice b C I] w (.bool (Q==R)):=by
 have J:=L.1;have S:=M.1;unfold maxLen at p;by_cases V:A=C
 ·subst V
  have r:((A:Int) != (A:Int))=false:=by simp
  have l:=Lib.hid J;have m:=Lib.hid S;clear J S;go_enter Tryz.func60,Tryz.ntmps60;go_wp2_with fail;go_loopw [5] (fun i wr=>∃ (k:Nat),i=.int .i64 k/\k<=A/\Bw w wr/\Hid (Q.take k=R.take k)) (fun i _=>A-(intOf i).toNat)
  case atStart=>exact⟨0,rfl,Nat.zero_le _,Below.refl _ _,rfl⟩
  case round =>
   obtain⟨k,rfl,s,N,X⟩:=hrel;by_cases O:k<A
   ·obtain⟨x,c,h,P,T,n,E⟩:=(L.below N).at O
    obtain⟨y,d,j,g,U,o,F⟩:=(M.below N).at O;subst T;subst U;have p0:wr.cell? ⟨c,h+k*2,none⟩=some (.string x.name):=E 0 (by omega);have v:wr.cell? ⟨c,h+k*2+1,none⟩=some (.string x.value):=E 1 (by omega);have z:wr.cell? ⟨d,j+k*2,none⟩=some (.string y.name):=F 0 (by omega);have q1:wr.cell? ⟨d,j+k*2+1,none⟩=some (.string y.value):=F 1 (by omega);have u:=jqC;have i0:(0:Int)<=(k:Int):=by omega
    have t:(k:Int)<(A:Int):=by omega
    have Y:=Lib.hid P;have Z:=Lib.hid g;clear E F P g L M;by_cases B:x=y
    ·have q:∀ w,(binOp .neq 93 (.agg #[.string x.name,.string x.value]) (.agg #[.string y.name,.string y.value])).run Tryz.prog w=.ok (.bool false) w:=fun w=>by rw[jj3,jds,jds,B];simp
     have D:Hid (x=y):=B;clear B;go_wp2_with fail;go_quiet (fail);go_wp2_with fail;go_roundw
     case rel=>exact⟨k+1,by go_num,by omega,bDr N _,by rw[Hid,jaf Y.out,jaf Z.out,X.out,D.out]⟩
     case measure=>simp[intOf];omega
    ·have q:∀ w,(binOp .neq 93 (.agg #[.string x.name,.string x.value]) (.agg #[.string y.name,.string y.value])).run Tryz.prog w=.ok (.bool true) w:=fun w=>by rw[jj3,jds,jds];cases x;cases y;simp only[Lab.mk.injEq] at B;rw[<- Bool.decide_and,decide_eq_false B];rfl
     have D:Hid (¬ x=y):=B;clear B;go_wp2_with fail;go_quiet (fail);go_wp2_with fail;go_ret
     have G:(Q==R)=false:=by
      rw[beq_eq_false_iff_ne];intro e;have P:=Y.out;rw[e,Z.out] at P;exact D.out (Option.some.inj P).symm
     exact⟨by rw[G];rfl,bDr N _⟩
   ·obtain rfl:k=A:=by omega
    clear L M;go_wp2_with fail;go_ret;have f:=X.out;rw[List.take_of_length_le (by rw[<- l.out];omega),List.take_of_length_le (by rw[<- m.out];omega)] at f;exact⟨by rw[f];simp,N⟩
 ·have r:((A:Int) != (C:Int))=true:=by rw[bne_iff_ne];omega
  have G:Hid ((Q==R)=false):=by
   rw[Hid,beq_eq_false_iff_ne];intro e;rw[e,<- S] at J;exact V J
  clear L M J S V;go_enter Tryz.func60,Tryz.ntmps60;go_wp2_with fail;go_ret;exact⟨by rw[G.out];rfl,Below.refl _ _⟩
theorem jm4 (x:Sk):jbc x x=true:=by simp[jbc]
theorem jdJ (Z:Option Addr) (A F:Nat) (N:List Int) (a:Option Addr) (B G:Nat) (O:List Int) (w:World) (Q:SlE jaF 1 w.heap.size w Z A N) (R:SlE jaF 1 w.heap.size w a B O) (n:A<=maxLen) :
  CR 97 #[.slice Z A F,.slice a B G] w (.bool (N==O)):=by
 have P:=Q.1;have S:=R.1;unfold maxLen at n;by_cases m:A=B
 ·subst m
  have s:((A:Int) != (A:Int))=false:=by simp
  have d:=Lib.hid P;have f:=Lib.hid S;clear P S;go_enter Tryz.func97,Tryz.ntmps97;go_wp2_with fail;go_loopw [5] (fun i wr=>∃ (k:Nat),i=.int .i64 k/\k<=A/\Bw w wr/\Hid (N.take k=O.take k)) (fun i _=>A-(intOf i).toNat)
  case atStart=>exact⟨0,rfl,Nat.zero_le _,Below.refl _ _,rfl⟩
  case round =>
   obtain⟨k,rfl,t,H,V⟩:=hrel;by_cases L:k<A
   ·obtain⟨x,g,p,M,T,j,I⟩:=(Q.below H).at L
    obtain⟨y,h,q,c,U,l,J⟩:=(R.below H).at L;subst T;subst U;have p0:wr.cell? ⟨g,p+k*1+0,none⟩=some (.int .u64 x):=I 0 (by omega);have r:wr.cell? ⟨h,q+k*1+0,none⟩=some (.int .u64 y):=J 0 (by omega);simp only[Nat.mul_one,Nat.add_zero] at p0 r;have i0:(0:Int)<=(k:Int):=by omega
    have u:(k:Int)<(A:Int):=by omega
    have X:=Lib.hid M;have Y:=Lib.hid c;clear I J M c Q R;by_cases C:x=y
    ·have o:(x != y)=false:=by simp[C]
     have D:Hid (x=y):=C;clear C;go_wp2_with fail;go_quiet (fail);go_wp2_with fail;go_roundw
     case rel=>exact⟨k+1,by go_num,by omega,bDr H _,by rw[Hid,jaf X.out,jaf Y.out,V.out,D.out]⟩
     case measure=>simp[intOf];omega
    ·have o:(x != y)=true:=by simp[C]
     have D:Hid (¬ x=y):=C;clear C;go_wp2_with fail;go_quiet (fail);go_wp2_with fail;go_ret
     have E:(N==O)=false:=by
      rw[beq_eq_false_iff_ne];intro e;have M:=X.out;rw[e,Y.out] at M;exact D.out (Option.some.inj M).symm
     exact⟨by rw[E];rfl,bDr H _⟩
   ·obtain rfl:k=A:=by omega
    clear Q R;go_wp2_with fail;go_ret;have b:=V.out;rw[List.take_of_length_le (by rw[<- d.out];omega),List.take_of_length_le (by rw[<- f.out];omega)] at b;exact⟨by rw[b];simp,H⟩
 ·have s:((A:Int) != (B:Int))=true:=by rw[bne_iff_ne];omega
  have E:Hid ((N==O)=false):=by
   rw[Hid,beq_eq_false_iff_ne];intro e;rw[e] at P;omega
  clear P S;go_enter Tryz.func97,Tryz.ntmps97;go_wp2_with fail;go_ret;exact⟨by rw[E.out];rfl,Below.refl _ _⟩
theorem jir (N c1:Int) (I:Option Addr) (A C:Nat) (L:List Int) (O c2:Int) (J:Option Addr) (B D:Nat) (M:List Int) (w:World) (R:SlE jaF 1 w.heap.size w I A L) (S:SlE jaF 1 w.heap.size w J B M) (V:A<=maxLen) :
  CR 98 #[.agg #[.int .i64 N,.int .i64 c1,.slice I A C],.agg #[.int .i64 O,.int .i64 c2,.slice J B D]] w (.bool ((N==O&&c1==c2)&&L==M)):=by
 obtain⟨T,U,G,H,F,X⟩:=jas w #[.int .i64 N,.int .i64 c1,.slice I A C] 39 #[.int .i64 O,.int .i64 c2,.slice J B D] 39;have Q:=Lib.hid (jdJ I A C L J B D M T (R.go F) (S.go F) V);have E:=Lib.hid F;obtain⟨Y,Z,a⟩:=cl3 G;obtain⟨b,c,d⟩:=cl3 H;clear G H F R S;generalize (L==M)=bl at Q ⊢
 cases hr:(N==O) with
 | false =>
  go_enter Tryz.func98,Tryz.ntmps98;go_wp2_with fail;go_ret;exact⟨rfl,E.out⟩
 | true =>
  cases f:(c1==c2) with
  | false =>
   go_enter Tryz.func98,Tryz.ntmps98;go_wp2_with fail;go_ret;exact⟨rfl,E.out⟩
  | true =>
   go_enter Tryz.func98,Tryz.ntmps98;go_wp2_with (go_at_call 97;refine Q.out.mono ?_;rintro e g ⟨rfl,P⟩);go_ret;exact⟨rfl,E.out.trans (P.mono E.out.size)⟩
theorem jis (Q:Int) (Y:Option Addr) (A E:Nat) (O:List (Int × Int)) (R:Int) (Z:Option Addr) (C F:Nat) (P:List (Int × Int)) (w:World) (g:SlE jb4 2 w.heap.size w Y A O) (j:SlE jb4 2 w.heap.size w Z C P) (hm:A<=maxLen) :
  CR 99 #[.agg #[.int .i64 Q,.slice Y A E],.agg #[.int .i64 R,.slice Z C F]] w (.bool (Q==R&&O==P)):=by
 have S:=g.1;have a:=j.1;unfold maxLen at hm;obtain⟨c,aa,T,U,G,ad⟩:=jas w #[.int .i64 Q,.slice Y A E] 42 #[.int .i64 R,.slice Z C F] 42;have H1:=Lib.hid (g.go G);have H2:=Lib.hid (j.go G);have B:=Lib.hid G;have l:w.heap.size<c.heap.size:=by omega
 have m:w.heap.size+1<c.heap.size:=by omega
 obtain⟨d0,d1⟩:=cl2 T;obtain⟨g0,g1⟩:=cl2 U;clear T U G g j
 cases hr:(Q==R) with
 | false =>
  have t0:(Q != R)=true:=by rw[bne,hr];rfl
  clear hr S a;go_enter Tryz.func99,Tryz.ntmps99;go_wp2_with fail;go_ret;exact⟨rfl,B.out⟩
 | true =>
  have t0:(Q != R)=false:=by rw[bne,hr];rfl
  rw[Bool.true_and];clear hr;by_cases hl:A=C
  ·subst hl
   have t1:((A:Int) != (A:Int))=false:=by simp
   have E1:=Lib.hid S;have E2:=Lib.hid a;clear S a;go_enter Tryz.func99,Tryz.ntmps99;go_wp2_with fail;go_loopw [5] (fun i wr=>∃ (k:Nat),i=.int .i64 k/\k<=A/\Bw c wr/\Hid (O.take k=P.take k)) (fun i _=>A-(intOf i).toNat)
   case atStart=>exact⟨0,rfl,Nat.zero_le _,Below.refl _ _,rfl⟩
   case round =>
    obtain⟨k,rfl,hk,I,s⟩:=hrel;have r0:wr.cell? ⟨w.heap.size,1,none⟩=some (.slice Y A E):=(I.cell (p:=⟨w.heap.size,1,none⟩) l).trans d1;have r1:wr.cell? ⟨w.heap.size+1,1,none⟩=some (.slice Z A F):=(I.cell (p:=⟨w.heap.size+1,1,none⟩) m).trans g1;by_cases V:k<A
    ·obtain⟨x,v,o1,X,d,ab,J⟩:=(H1.out.below I).at V
     obtain⟨y,z,o2,hy,f,ac,L⟩:=(H2.out.below I).at V;subst d;subst f;have p0:wr.cell? ⟨v,o1+k*2,none⟩=some (.int .i64 x.1):=J 0 (by omega);have p1:wr.cell? ⟨v,o1+k*2+1,none⟩=some (.int .u64 x.2):=J 1 (by omega);have q0:wr.cell? ⟨z,o2+k*2,none⟩=some (.int .i64 y.1):=L 0 (by omega);have q1:wr.cell? ⟨z,o2+k*2+1,none⟩=some (.int .u64 y.2):=L 1 (by omega);have i0:(0:Int)<=(k:Int):=by omega
     have i1:(k:Int)<(A:Int):=by omega
     have t:=Lib.hid X;have u:=Lib.hid hy;obtain⟨n,o⟩:=x;obtain⟨q,r⟩:=y;dsimp only at p0 p1 q0 q1;clear J L X hy
     have H:¬ (n=q/\o=r)->(O==P)=false:=fun h=>by
      rw[beq_eq_false_iff_ne];intro e;have X:=t.out;rw[e,u.out] at X;have h3:=Option.some.inj X;injection h3 with h4 h5
      exact h ⟨h4.symm,h5.symm⟩
     have D:=Lib.hid H;clear H;by_cases M:n=q
     ·by_cases N:o=r
      ·subst M;subst N
       clear D;go_wp2_with fail;go_quiet (fail);go_wp2_with fail;go_roundw
       case rel=>exact⟨k+1,by go_num,by omega,bDr I _,by rw[Hid,jaf t.out,jaf u.out,s.out]⟩
       case measure=>simp[intOf];omega
      ·have b:Hid ((O==P)=false):=D.out (fun h=>N h.2)
       have n2:(o==r)=false:=beq_eq_false_iff_ne.2 N;clear D;go_wp2_with fail;go_quiet (fail);go_wp2_with fail;go_ret;exact⟨by rw[b.out];rfl,B.out.trans ((bDr I _).mono B.out.size)⟩
     ·have b:Hid ((O==P)=false):=D.out (fun h=>M h.1)
      have n1:(n==q)=false:=beq_eq_false_iff_ne.2 M;clear D;go_wp2_with fail;go_quiet (fail);go_wp2_with fail;go_ret;exact⟨by rw[b.out];rfl,B.out.trans ((bDr I _).mono B.out.size)⟩
    ·obtain rfl:k=A:=by omega
     go_wp2_with fail;go_ret;have h9:=s.out;rw[List.take_of_length_le (by rw[<- E1.out];omega),List.take_of_length_le (by rw[<- E2.out];omega)] at h9;exact⟨by rw[h9];simp,B.out.trans (I.mono B.out.size)⟩
  ·have t1:((A:Int) != (C:Int))=true:=by rw[bne_iff_ne];omega
   have H:Hid ((O==P)=false):=by
    rw[Hid,beq_eq_false_iff_ne];intro e;rw[e] at S;omega
   clear S a;go_enter Tryz.func99,Tryz.ntmps99;go_wp2_with fail;go_ret;exact⟨by rw[H.out];rfl,B.out⟩
theorem jit (x y:Sk) (s t:SS) (w:World) (k:s.At w.heap.size w x) (l:t.At w.heap.size w y) :
  CR 61 #[.agg (skv x s),.agg (skv y t)] w (.bool (jbc x y)):=by
 obtain⟨m,f,A,B,N,aa⟩:=jas w (skv x s) 44 (skv y t) 44;have J:=Lib.hid N;have Y:=Lib.hid A;have Z:=Lib.hid B;obtain⟨n,c1,c2,c3,c4,c5,o,p,q,r⟩:=jbg A;obtain⟨u,v,z,d3,d4,d5,d6,d7,d8,d9⟩:=jbg B;have V:=jqF x.hb y.hb x.hr y.hr;have n2:=jve;have S:=k.go N;have a:=l.go N;clear k l A B N;have b:=Lib.hid (jdJ s.ea s.el s.ec x.e t.ea t.el t.ec y.e m S.e.1 a.e.1 (Nat.le_trans S.e.2.1 S.e.2.2.1));have G:=Lib.hid (And.intro S a);clear S a
 cases i:(x.kind==y.kind) with
 | false =>
  have E:Hid (jbc x y=false):=by simp[Hid,jbc,i]
  clear V;go_enter Tryz.func61,Tryz.ntmps61;go_wp2_with fail;go_ret;exact⟨by rw[E.out];rfl,J.out⟩
 | true =>
 cases j:(x.level==y.level) with
 | false =>
  have E:Hid (jbc x y=false):=by simp[Hid,jbc,j]
  clear V;go_enter Tryz.func61,Tryz.ntmps61;go_wp2_with fail;go_ret;exact⟨by rw[E.out];rfl,J.out⟩
 | true =>
 have E:Hid (jbc x y=((x.hb==y.hb&&x.hr.toList==y.hr.toList)&&x.e==y.e&&(x.cr==y.cr&&x.cc==y.cc&&x.cl==y.cl)&&(x.gf==y.gf&&x.gl==y.gl))):=by simp only[Hid,jbc,i,j,Bool.true_and]
 generalize hh:(x.hb==y.hb&&x.hr.toList==y.hr.toList)=bh at E V;generalize he:(x.e==y.e)=be at E b;clear hh he;go_enter Tryz.func61,Tryz.ntmps61;go_wp2_with fail;refine b.out.mono ?_;rintro e w1 ⟨rfl,C⟩;have H:=known C (Nat.le_refl _) Y.out;have I:=known C (Nat.le_refl _) Z.out;obtain⟨p0,p1,p2,p3,p4,p5,p6,p7,p8,p9⟩:=jbg H;obtain⟨q0,q1,q2,q3,q4,q5,q6,q7,q8,q9⟩:=jbg I;have F:=G.out.1.go C;have P:=G.out.2.go C;have U:=Lib.hid (jir x.cr x.cc s.ca s.cl s.cc x.cl y.cr y.cc t.ca t.cl t.cc y.cl w1 F.c.1 P.c.1 (Nat.le_trans F.c.2.1 F.c.2.2.1));have X:=Lib.hid (And.intro F P);have Q:=Lib.hid H;have R:=Lib.hid I;have L:=Lib.hid (J.out.trans (C.mono J.out.size));clear f b n c1 c2 c3 c4 c5 o p q r u v z d3 d4 d5 d6 d7 d8 d9 F P G H I C
 cases be with
 | false =>
  clear U V;go_wp2_with fail;go_ret;exact⟨by rw[E.out];simp,L.out⟩
 | true =>
 cases bh with
 | false =>
  clear U;go_wp2_with fail;go_ret;exact⟨by rw[E.out];simp,L.out⟩
 | true =>
 generalize hc:(x.cr==y.cr&&x.cc==y.cc&&x.cl==y.cl)=bc at E U;clear hc;go_wp2_with fail;refine U.out.mono ?_;rintro e w2 ⟨rfl,D⟩;have A:=known D (Nat.le_refl _) Q.out;have B:=known D (Nat.le_refl _) R.out;obtain⟨r0,r1,r2,r3,r4,r5,r6,r7,r8,r9⟩:=jbg A;obtain⟨u0,u1,u2,u3,u4,u5,u6,u7,u8,u9⟩:=jbg B;have M:=X.out.1.go D;have T:=X.out.2.go D;have d:=Lib.hid (jis x.gf s.ga s.gl s.gc x.gl y.gf t.ga t.gl t.gc y.gl w2 M.g.1 T.g.1 (Nat.le_trans M.g.2.1 M.g.2.2.1));have O:=Lib.hid (L.out.trans (D.mono L.out.size));clear U p0 p1 p2 p3 p4 p5 p6 p7 p8 p9 q0 q1 q2 q3 q4 q5 q6 q7 q8 q9 M T X A B D
 cases bc with
 | false =>
  clear d;go_wp2_with fail;go_ret;exact⟨by rw[E.out];simp,O.out⟩
 | true =>
 go_wp2_with fail;refine d.out.mono ?_;rintro e w3 ⟨rfl,h⟩;clear d;go_wp2_with fail;go_ret;exact⟨by rw[E.out];simp,O.out.trans (h.mono O.out.size)⟩
end
end Go.Proofs.YtnegciklhanmbaaGreatDoor

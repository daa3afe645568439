/- Requests, replies and their bytes as plain data: written, read. No program in sight. errors.Is over sentinels: lines of the kit's worked proof (Sentry) turned to this program. (Printed by gen_w1.py.) Package field: errno, behind, octets, number, Get. Frames and messages as plain data. No program in sight. -/
import Derived.Test.YtlmlcadcdhhlcaaGreatDoorZY7
set_option maxHeartbeats 2000000
set_option maxRecDepth 100000
namespace Go.Proofs.YtlmlcadcdhhlcaaGreatDoor
open Go Go.RowKit
section
structure Rq where
 op:Int
 now:Int
 labels:ByteArray
 scope:ByteArray
 kind:Int
 items:List (Nat × Int)
 h:Int
 tnt:Int
 id:Int
 tens:List Int
def jcp (s:ByteArray):List UInt8:=jac [(s.size:Int)]++s.data.toList
def jcd (i:Nat × Int):List UInt8:=jac [(i.1:Int),i.2]
def Rq.B (r:Rq):List UInt8:=jac [r.op]++(jac [r.now]++(jcp r.labels++(jcp r.scope++(jac [r.kind]++(jac [(r.items.length:Int)]++(r.items.flatMap jcd++(jac [r.h]++(jac [r.tnt]++(jac [r.id]++(jac [(r.tens.length:Int)]++jac r.tens))))))))))
def Rq.ok (r:Rq):Bool:=decide (0<=r.op)&&decide (r.op<=255)&&decide (0<=r.kind)&&decide (r.kind<=255)&&decide (r.items.length<=50)&&decide (r.tens.length<=8)&&decide (r.labels.size<=400)&&decide (r.scope.size<=400)
structure Rq.Wf (r:Rq):Prop where
 now:U64 r.now
 items:∀ i∈r.items,U64 (i.1:Int)/\U64 i.2
 h:U64 r.h
 tnt:U64 r.tnt
 id:U64 r.id
 tens:jin r.tens
abbrev Rd:=Option (List UInt8)
def jaA:Rd->Int × Rd
 | none=>(0,none)
 | some l=>match jbA l with
  | .got n r=>(n,some r)
  | .more=>(0,none)
  | .bad=>(0,none)
def jan (m:Int) (s:Rd):Int × Rd:=if m<(jaA s).1 then (0,none) else jaA s
def jaW:Rd->ByteArray × Rd
 | none=>(⟨#[]⟩,none)
 | some l=>match jbA l with
  | .got n r=>if 400<n\/(r.length:Int)<n then (⟨#[]⟩,none) else (⟨(r.take n.toNat).toArray⟩,some (r.drop n.toNat))
  | .more=>(⟨#[]⟩,none)
  | .bad=>(⟨#[]⟩,none)
def jba {α:Type} (f:α->α):Nat->α->α
 | 0,x=>x
 | k+1,x=>f (jba f k x)
def jar {α:Type} (f:Rd->α × Rd) (x:List α × Rd):List α × Rd:=(x.1++[(f x.2).1],(f x.2).2)
def jcf (s:Rd):(Nat × Int) × Rd:=(((jaA s).1.toNat,(jaA (jaA s).2).1),(jaA (jaA s).2).2)
def jh8 (l:List UInt8):Rq × Rd :=
 let a:=jan 255 (some l);let b:=jaA a.2;let c:=jaW b.2;let d:=jaW c.2;let e:=jan 255 d.2;let f:=jan 50 e.2;let g:=jba (jar jcf) f.1.toNat ([],f.2);let h:=jaA g.2;let i:=jaA h.2;let j:=jaA i.2;let k:=jan 8 j.2;let m:=jba (jar jaA) k.1.toNat ([],k.2)
 (⟨a.1,b.1,c.1,d.1,e.1,g.1,h.1,i.1,j.1,m.1⟩,m.2)
def jbj (l:List UInt8):Option Rq:=if (jh8 l).2=some [] then some (jh8 l).1 else none
structure Reads {α:Type} (f:Rd->α × Rd) (B:α->List UInt8) (P:α->Prop):Prop where
 put:∀ x r,P x->f (some (B x++r))=(x,some r)
 inv:∀ s x r,f s=(x,some r)->s=some (B x++r)/\P x
theorem reads_num:Reads jaA (fun n=>jac [n]) U64:=⟨fun x r h=>by
  show (match jbA (jac [x]++r) with | .got n r=>(n,some r) | .more=>(0,none) | .bad=>(0,none))=_;rw[jdm x h r],fun s x r h=>by
  cases s with
  | none=>cases h
  | some l =>
   unfold jaA at h;dsimp only at h
   cases A:jbA l with
   | got n q =>
    rw[A] at h
    cases h
    exact⟨by rw[jeX A],(jaS A).1⟩
   | more=>rw[A] at h;cases h
   | bad=>rw[A] at h;cases h⟩
theorem jap (m:Int):Reads (jan m) (fun n=>jac [n]) (fun n=>U64 n/\n<=m):=⟨fun x r h=>by
  unfold jan;rw[reads_num.put x r h.1,if_neg (by have:=h.2;show ¬ m<x;omega)],fun s x r h=>by
  unfold jan at h;split at h
  ·cases h
  ·rename_i A
   obtain⟨B,C⟩:=reads_num.inv s x r h;rw[h] at A;exact⟨B,C,by have:¬ m<x:=A;omega⟩⟩
theorem reads_text:Reads jaW jcp (fun s=>s.size<=400):=⟨fun x r h=>by
  have D:x.data.toList.length=x.size:=by rw[Array.length_toList];rfl
  unfold jcp;rw[List.append_assoc];unfold jaW;dsimp only;rw[jdm _ (by unfold U64;omega)];dsimp only;rw[if_neg (by rw[List.length_append,D];omega),Int.toNat_natCast,List.take_append_of_le_length (by omega),List.drop_append_of_le_length (by omega),List.take_of_length_le (by omega),List.drop_of_length_le (by omega)];simp,fun s x r h=>by
  cases s with
  | none=>cases h
  | some l =>
   unfold jaW at h;dsimp only at h
   cases A:jbA l with
   | got n q =>
    rw[A] at h;dsimp only at h;split at h
    ·cases h
    ·rename_i E
     have B:=(jaS A).1;unfold U64 at B
     cases h
     have C:(ByteArray.mk (q.take n.toNat).toArray).size=n.toNat:=by
      show (q.take n.toNat).toArray.size=_;rw[List.size_toArray,List.length_take];omega
     refine⟨?_,by rw[C];omega⟩;unfold jcp;rw[C,Int.toNat_of_nonneg B.1,jeX A,List.append_assoc];simp
   | more=>rw[A] at h;cases h
   | bad=>rw[A] at h;cases h⟩
theorem reads_item:Reads jcf jcd (fun i=>U64 (i.1:Int)/\U64 i.2):=⟨fun x r h=>by
  unfold jcf jcd;rw[show jac [(x.1:Int),x.2]=jac [(x.1:Int)]++jac [x.2] from jav [_] [_],List.append_assoc,reads_num.put _ _ h.1];dsimp only;rw[reads_num.put _ _ h.2];rfl,fun s x r h=>by
  unfold jcf at h;obtain⟨n,t,A⟩:∃ n t,jaA s=(n,t):=⟨_,_,rfl⟩;obtain⟨m,u,B⟩:∃ m u,jaA t=(m,u):=⟨_,_,rfl⟩;rw[A] at h;dsimp only at h;rw[B] at h
  cases h
  obtain⟨F,G⟩:=reads_num.inv _ _ _ B;rw[F] at A;obtain⟨E,D⟩:=reads_num.inv _ _ _ A;have C:((n.toNat:Nat):Int)=n:=Int.toNat_of_nonneg D.1;refine⟨?_,by rw[C];exact D,G⟩;rw[E];unfold jcd;dsimp only;rw[C,show jac [n,m]=jac [n]++jac [m] from jav [n] [m],List.append_assoc]⟩
section
variable {α:Type} {f:Rd->α × Rd} {B:α->List UInt8} {P:α->Prop}
theorem Reads.iter_put (h:Reads f B P) (l:List α) (r:List UInt8) (C:∀ x∈l,P x):∀ k,k<=l.length->jba (jar f) k ([],some (l.flatMap B++r))=(l.take k,some ((l.drop k).flatMap B++r))
 | 0,_=>rfl
 | k+1,hk=>by
  show jar f (jba (jar f) k _)=_;rw[h.iter_put l r C k (by omega)];obtain⟨x,A⟩:∃ x,l[k]? = some x:=⟨_,List.getElem?_eq_getElem (by omega)⟩
  have D:l.drop k=x::l.drop (k+1):=by
   rw[List.drop_eq_getElem_cons (by omega)];congr 1;exact (List.getElem?_eq_some_iff.1 A).2
  unfold jar;dsimp only;rw[D,List.flatMap_cons,List.append_assoc,h.put x _ (C x (List.mem_of_getElem? A)),List.take_add_one,A];rfl
theorem Reads.iter_all (h:Reads f B P) (l:List α) (r:List UInt8) (A:∀ x∈l,P x):jba (jar f) l.length ([],some (l.flatMap B++r))=(l,some r):=by
 rw[h.iter_put l r A _ (Nat.le_refl _),List.take_length,List.drop_length];rfl
theorem Reads.iter_inv (h:Reads f B P):∀ (k:Nat) (s:Rd) (l:List α) (r:List UInt8),jba (jar f) k ([],s)=(l,some r)->s=some (l.flatMap B++r)/\l.length=k/\∀ x∈l,P x
 | 0,s,l,r,e=>by cases e;exact⟨rfl,rfl,(fun x D=>by cases D)⟩
 | k+1,s,l,r,e=>by
  obtain⟨E,t,F⟩:∃ E t,jba (jar f) k ([],s)=(E,t):=⟨_,_,rfl⟩;have e:jar f (jba (jar f) k ([],s))=(l,some r):=e;rw[F] at e;unfold jar at e;dsimp only at e;obtain⟨x,u,D⟩:∃ x u,f t=(x,u):=⟨_,_,rfl⟩;rw[D] at e
  cases e
  obtain⟨G,J⟩:=h.inv _ _ _ D;subst G;obtain⟨H,A,I⟩:=h.iter_inv k s E _ F;refine⟨by rw[H,List.flatMap_append,List.append_assoc];simp,by rw[List.length_append,A];rfl,fun y C=>?_⟩;rcases List.mem_append.1 C with C | C
  ·exact I y C
  ·rw[List.mem_singleton.1 C];exact J
end
theorem jbC (l:List Int):jac l=l.flatMap fun n=>jac [n]:=by
 induction l with
 | nil=>rfl
 | cons x l ih=>rw[List.flatMap_cons,<- ih];exact jav [x] l
theorem Rq.okD {r:Rq} (h:r.ok=true):(0<=r.op/\r.op<=255)/\(0<=r.kind/\r.kind<=255)/\r.items.length<=50/\r.tens.length<=8/\r.labels.size<=400/\r.scope.size<=400:=by
 simp only[Rq.ok,Bool.and_eq_true,decide_eq_true_eq] at h;obtain⟨⟨⟨⟨⟨⟨⟨A,B⟩,C⟩,D⟩,E⟩,F⟩,G⟩,H⟩:=h;exact⟨⟨A,B⟩,⟨C,D⟩,E,F,G,H⟩
theorem jhl (r:Rq) (h:r.ok=true) (A:r.Wf):jh8 r.B=(r,some []):=by
 obtain⟨C,D,G,H,E,F⟩:=Rq.okD h;unfold jh8 Rq.B;rw[(jap 255).put _ _ ⟨by unfold U64;omega,C.2⟩];dsimp only;rw[reads_num.put _ _ A.now];dsimp only;rw[reads_text.put _ _ E];dsimp only;rw[reads_text.put _ _ F];dsimp only;rw[(jap 255).put _ _ ⟨by unfold U64;omega,D.2⟩];dsimp only;rw[(jap 50).put _ _ ⟨by unfold U64;omega,by omega⟩];dsimp only;rw[Int.toNat_natCast,reads_item.iter_all _ _ A.items];dsimp only;rw[reads_num.put _ _ A.h];dsimp only;rw[reads_num.put _ _ A.tnt];dsimp only;rw[reads_num.put _ _ A.id];dsimp only;rw[(jap 8).put _ _ ⟨by unfold U64;omega,by omega⟩];dsimp only;have e:=reads_num.iter_all r.tens [] A.tens;rw[List.append_nil] at e;rw[Int.toNat_natCast,jbC,e]
theorem jdW {r:Rq} (h:r.ok=true) (A:r.Wf):jbj r.B=some r:=by
 unfold jbj;rw[jhl r h A,if_pos rfl]
theorem jdV {l:List UInt8} {q:Rq} (h:jbj l=some q):q.ok=true/\q.Wf/\q.B=l:=by
 unfold jbj at h;split at h
 case isFalse=>cases h
 rename_i A
 injection h with h
 subst h;unfold jh8 at A ⊢;obtain⟨a,sa,ha⟩:∃ a s,jan 255 (some l)=(a,s):=⟨_,_,rfl⟩;rw[ha] at A ⊢;dsimp only at A ⊢;obtain⟨b,sb,J⟩:∃ a s,jaA sa=(a,s):=⟨_,_,rfl⟩;rw[J] at A ⊢;dsimp only at A ⊢;obtain⟨c,sc,L⟩:∃ a s,jaW sb=(a,s):=⟨_,_,rfl⟩;rw[L] at A ⊢;dsimp only at A ⊢;obtain⟨d,sd,M⟩:∃ a s,jaW sc=(a,s):=⟨_,_,rfl⟩;rw[M] at A ⊢;dsimp only at A ⊢;obtain⟨e,se,C⟩:∃ a s,jan 255 sd=(a,s):=⟨_,_,rfl⟩;rw[C] at A ⊢;dsimp only at A ⊢;obtain⟨f,sf,N⟩:∃ a s,jan 50 se=(a,s):=⟨_,_,rfl⟩;rw[N] at A ⊢;dsimp only at A ⊢;obtain⟨g,sg,O⟩:∃ a s,jba (jar jcf) f.toNat ([],sf)=(a,s):=⟨_,_,rfl⟩;rw[O] at A ⊢;dsimp only at A ⊢;obtain⟨i,si,P⟩:∃ a s,jaA sg=(a,s):=⟨_,_,rfl⟩;rw[P] at A ⊢;dsimp only at A ⊢;obtain⟨j,sj,Q⟩:∃ a s,jaA si=(a,s):=⟨_,_,rfl⟩;rw[Q] at A ⊢;dsimp only at A ⊢;obtain⟨k,sk,R⟩:∃ a s,jaA sj=(a,s):=⟨_,_,rfl⟩;rw[R] at A ⊢;dsimp only at A ⊢;obtain⟨m,sm,S⟩:∃ a s,jan 8 sk=(a,s):=⟨_,_,rfl⟩;rw[S] at A ⊢;dsimp only at A ⊢;obtain⟨n,sn,T⟩:∃ a s,jba (jar jaA) m.toNat ([],sm)=(a,s):=⟨_,_,rfl⟩;rw[T] at A ⊢;dsimp only at A ⊢;subst A;obtain⟨G,n1,n2⟩:=reads_num.iter_inv _ _ _ _ T;subst G;obtain⟨F,m1,m2⟩:=(jap 8).inv _ _ _ S;subst F;obtain⟨E,k1⟩:=reads_num.inv _ _ _ R;subst E;obtain⟨x,j1⟩:=reads_num.inv _ _ _ Q;subst x;obtain⟨w,i1⟩:=reads_num.inv _ _ _ P;subst w;obtain⟨v,z,g2⟩:=reads_item.iter_inv _ _ _ _ O;subst v;obtain⟨u,y,f2⟩:=(jap 50).inv _ _ _ N;subst u;obtain⟨t,w1,w2⟩:=(jap 255).inv _ _ _ C;subst t;obtain⟨r,Z⟩:=reads_text.inv _ _ _ M;subst r;obtain⟨p,Y⟩:=reads_text.inv _ _ _ L;subst p
 obtain⟨o,X⟩:=reads_num.inv _ _ _ J;subst o;obtain⟨D,U,V⟩:=(jap 255).inv _ _ _ ha;injection D with D
 have I:(n.length:Int)=m:=by rw[n1];exact Int.toNat_of_nonneg m1.1
 have H:(g.length:Int)=f:=by rw[z];exact Int.toNat_of_nonneg y.1
 refine⟨?_,⟨X,g2,i1,j1,k1,n2⟩,?_⟩
 ·have h1:=U.1
  have h2:=w1.1;simp only[Rq.ok,Bool.and_eq_true,decide_eq_true_eq];exact⟨⟨⟨⟨⟨⟨⟨h1,V⟩,h2⟩,w2⟩,by omega⟩,by omega⟩,Y⟩,Z⟩
 ·unfold Rq.B
  dsimp only;rw[D,I,H,jbC n,List.append_nil]
structure Ry where
 e:Int
 n:Int
 nots:List Int
 ents:List Ent
def jgX (x:Ent):List UInt8:=jac [x.seq]++(jac [x.tm]++(jcp x.text++jac [x.sum]))
def Ry.B (y:Ry):List UInt8:=jac [y.e]++(jac [y.n]++(jac [(y.nots.length:Int)]++(jac y.nots++(jac [(y.ents.length:Int)]++y.ents.flatMap jgX))))
def jaK (n:Int):Bool:=decide (0<=n)&&decide (n<=4611686018427387904)
def Ry.ok (y:Ry):Bool:=jaK y.e&&decide (y.nots.length<=100)&&decide (y.ents.length<=100)&&y.nots.all jaK&&y.ents.all fun x=>decide (x.text.size<=400)
structure Ry.Wf (y:Ry):Prop where
 n:U64 y.n
 ents:∀ x∈y.ents,U64 x.seq/\U64 x.tm/\U64 x.sum
def jfy (s:Rd):Ent × Rd :=
 let a:=jaA s;let b:=jaA a.2;let c:=jaW b.2;let d:=jaA c.2
 (⟨a.1,b.1,c.1,d.1⟩,d.2)
def jh9 (l:List UInt8):Ry × Rd :=
 let a:=jan 4611686018427387904 (some l);let b:=jaA a.2;let c:=jan 100 b.2;let d:=jba (jar (jan 4611686018427387904)) c.1.toNat ([],c.2);let e:=jan 100 d.2;let f:=jba (jar jfy) e.1.toNat ([],e.2)
 (⟨a.1,b.1,d.1,f.1⟩,f.2)
def jbJ (l:List UInt8):Option Ry:=if (jh9 l).2=some [] then some (jh9 l).1 else none
theorem reads_ent:Reads jfy jgX (fun x=>(U64 x.seq/\U64 x.tm/\U64 x.sum)/\x.text.size<=400):=⟨fun x r h=>by
  unfold jfy jgX;rw[List.append_assoc,List.append_assoc,List.append_assoc,reads_num.put _ _ h.1.1];dsimp only;rw[reads_num.put _ _ h.1.2.1];dsimp only;rw[reads_text.put _ _ h.2];dsimp only;rw[reads_num.put _ _ h.1.2.2],fun s x r h=>by
  unfold jfy at h;obtain⟨a,H,ha⟩:∃ a t,jaA s=(a,t):=⟨_,_,rfl⟩;rw[ha] at h;dsimp only at h;obtain⟨b,I,A⟩:∃ a t,jaA H=(a,t):=⟨_,_,rfl⟩;rw[A] at h;dsimp only at h;obtain⟨c,J,B⟩:∃ a t,jaW I=(a,t):=⟨_,_,rfl⟩;rw[B] at h;dsimp only at h;obtain⟨d,P,C⟩:∃ a t,jaA J=(a,t):=⟨_,_,rfl⟩;rw[C] at h;dsimp only at h
  cases h
  obtain⟨G,O⟩:=reads_num.inv _ _ _ C;subst G;obtain⟨F,N⟩:=reads_text.inv _ _ _ B;subst F;obtain⟨E,M⟩:=reads_num.inv _ _ _ A;subst E;obtain⟨D,L⟩:=reads_num.inv _ _ _ ha;subst D;refine⟨?_,⟨L,M,O⟩,N⟩;unfold jgX;simp only[List.append_assoc]⟩
theorem jcV {n:Int} (h:jaK n=true):U64 n/\n<=4611686018427387904:=by
 simp only[jaK,Bool.and_eq_true,decide_eq_true_eq] at h;exact⟨⟨h.1,by omega⟩,h.2⟩
theorem jgb {y:Ry} (h:y.ok=true) (C:y.Wf):jbJ y.B=some y:=by
 simp only[Ry.ok,Bool.and_eq_true,decide_eq_true_eq,List.all_eq_true] at h;obtain⟨⟨⟨⟨D,G⟩,H⟩,E⟩,F⟩:=h
 have e:jh9 y.B=(y,some []):=by
  unfold jh9 Ry.B;rw[(jap _).put _ _ (jcV D)];dsimp only;rw[reads_num.put _ _ C.n];dsimp only;rw[(jap 100).put _ _ ⟨by unfold U64;omega,by omega⟩];dsimp only;rw[Int.toNat_natCast,jbC,(jap _).iter_all _ _ (fun x A=>jcV (E x A))];dsimp only;rw[(jap 100).put _ _ ⟨by unfold U64;omega,by omega⟩];dsimp only;have e:=reads_ent.iter_all y.ents [] (fun x A=>⟨C.ents x A,F x A⟩);rw[List.append_nil] at e;rw[Int.toNat_natCast,e]
 unfold jbJ;rw[e,if_pos rfl]
theorem jdX {l:List UInt8} {y:Ry} (h:jbJ l=some y):y.ok=true/\y.Wf/\y.B=l:=by
 unfold jbJ at h;split at h
 case isFalse=>cases h
 rename_i A
 injection h with h
 subst h;unfold jh9 at A ⊢;obtain⟨a,j,ha⟩:∃ a s,jan 4611686018427387904 (some l)=(a,s):=⟨_,_,rfl⟩;rw[ha] at A ⊢;dsimp only at A ⊢;obtain⟨b,k,J⟩:∃ a s,jaA j=(a,s):=⟨_,_,rfl⟩;rw[J] at A ⊢;dsimp only at A ⊢;obtain⟨c,m,L⟩:∃ a s,jan 100 k=(a,s):=⟨_,_,rfl⟩;rw[L] at A ⊢;dsimp only at A ⊢;obtain⟨d,o,M⟩:∃ a s,jba (jar (jan 4611686018427387904)) c.toNat ([],m)=(a,s):=⟨_,_,rfl⟩;rw[M] at A ⊢;dsimp only at A ⊢;obtain⟨e,p,D⟩:∃ a s,jan 100 o=(a,s):=⟨_,_,rfl⟩;rw[D] at A ⊢;dsimp only at A ⊢;obtain⟨f,t,N⟩:∃ a s,jba (jar jfy) e.toNat ([],p)=(a,s):=⟨_,_,rfl⟩;rw[N] at A ⊢;dsimp only at A ⊢;subst A;obtain⟨Z,g,I⟩:=reads_ent.iter_inv _ _ _ _ N;subst Z;obtain⟨Y,q,u⟩:=(jap 100).inv _ _ _ D;subst Y;obtain⟨X,T,H⟩:=(jap _).iter_inv _ _ _ _ M;subst X;obtain⟨V,S,r⟩:=(jap 100).inv _ _ _ L;subst V;obtain⟨U,R⟩:=reads_num.inv _ _ _ J;subst U;obtain⟨E,P,Q⟩:=(jap _).inv _ _ _ ha;injection E with E
 have F:(d.length:Int)=c:=by rw[T];exact Int.toNat_of_nonneg S.1
 have G:(f.length:Int)=e:=by rw[g];exact Int.toNat_of_nonneg q.1
 have O:∀ n:Int,U64 n->n<=4611686018427387904->jaK n=true:=fun n h i=>by
  simp only[jaK,Bool.and_eq_true,decide_eq_true_eq];exact⟨h.1,i⟩
 refine⟨?_,⟨R,fun x C=>(I x C).1⟩,?_⟩
 ·simp only[Ry.ok,Bool.and_eq_true,decide_eq_true_eq,List.all_eq_true]
  exact⟨⟨⟨⟨O _ P Q,by omega⟩,by omega⟩,fun x C=>O _ (H x C).1 (H x C).2⟩,fun x C=>(I x C).2⟩
 ·unfold Ry.B
  dsimp only;rw[E,F,G,jbC d,List.append_nil]
end
section
open Go.Extern.Stop Go.Stop Go.Extern
theorem je0 (v:Value) (w:World):(Extern.ReflectliteType.typeOf #[.iface 528 v]).run Tryz.prog w=.ok (.iface 277 (.agg #[.pointer (some ⟨6,528,none⟩)])) w:=by kernel_rfl
def jiR : Array Value -> Sem Value := Extern.ReflectliteType.method fun t => do Extern.Rtype.noPackHeld "Comparable" t; pure (.bool (<- typeInfo t).comparable)
theorem jck (w:World):(jiR #[.agg #[.pointer (some ⟨6,528,none⟩)]]).run Tryz.prog w=.ok (.bool true) w:=by kernel_rfl
theorem ja6 (v : Value) (w : World) : (Go.method 738 277 v "Comparable").run Tryz.prog w = .ok (340, v) w := by kernel_rfl
theorem jhC:(Tryz.prog.info? 528).map (·.comparable)=some true:=by kernel_rfl
theorem jhD:(Tryz.prog.info? 626).map (·.size)=some 1:=by kernel_rfl
theorem jiX (v:Value) (A:TypeId) (w:World):(Instr.typeAssert (.iface 528 v) A 376 true).run Tryz.prog w=.ok (.tuple #[.nilIface,.bool false]) w:=run_typeAssert_lacksB Tryz.underlying376 (by kernel_rfl) (by kernel_rfl) v A w
theorem jgk (v:Value) (A:TypeId) (w:World):(Instr.typeAssert (.iface 528 v) A 285 true).run Tryz.prog w=.ok (.tuple #[.nilIface,.bool false]) w:=run_typeAssert_lacksB Tryz.underlying285 (by kernel_rfl) (by kernel_rfl) v A w
theorem jfq (v:Value) (A:TypeId) (w:World):(Instr.typeAssert (.iface 528 v) A 287 true).run Tryz.prog w=.ok (.tuple #[.nilIface,.bool false]) w:=run_typeAssert_lacksB Tryz.underlying287 (by kernel_rfl) (by kernel_rfl) v A w
theorem jhV (a:Addr) (w:World) :
  Calls Tryz.prog 121 #[.iface 528 (.pointer (some a)),.iface 528 (.pointer (some a))] w fun e G=>e=.returned (.bool true)/\G=w:=by
 obtain⟨i,D,A⟩:=Option.map_eq_some_iff.1 jhC;obtain⟨j,E,F⟩:=Option.map_eq_some_iff.1 jhD;have I:=@run_callFunc_extern Tryz.prog 128 _ Extern.ReflectliteType.typeOf Tryz.func128 (by kernel_rfl) (by kernel_rfl) (by kernel_rfl) (by kernel_rfl);have B:=@run_callFunc_extern Tryz.prog 340 _ jiR Tryz.func340 (by kernel_rfl) (by kernel_rfl) (by kernel_rfl) (by kernel_rfl);have L:=je0;have H:=jck;have J:=ja6;have C:=run_eql_iface_ptr_same (P:=Tryz.prog) w a Tryz.underlying88 Tryz.underlying528 D A E;go_enter Tryz.func121,Tryz.ntmps121;go_wp2;refine wp_loop_rounds 1 ?_;rw[rounds_succ];go_wp2;go_ret;exact⟨rfl,rfl⟩
theorem jg4 (a b:Addr) (D E:Array Value) (ta L:TypeId) (w:World) (C:a≠b) (ha:w.heap[a.block]? = some (.cells D ta (0,0))) (G:w.heap[b.block]? = some (.cells E L (0,0))) :
  Calls Tryz.prog 121 #[.iface 528 (.pointer (some a)),.iface 528 (.pointer (some b))] w fun e M=>e=.returned (.bool false)/\M=w:=by
 obtain⟨i,I,A⟩:=Option.map_eq_some_iff.1 jhC;obtain⟨j,J,B⟩:=Option.map_eq_some_iff.1 jhD;have O:=@run_callFunc_extern Tryz.prog 128 _ Extern.ReflectliteType.typeOf Tryz.func128 (by kernel_rfl) (by kernel_rfl) (by kernel_rfl) (by kernel_rfl);have F:=@run_callFunc_extern Tryz.prog 340 _ jiR Tryz.func340 (by kernel_rfl) (by kernel_rfl) (by kernel_rfl) (by kernel_rfl);have S:=je0;have N:=jck;have Q:=ja6;have R:=jiX;have T:=jgk;have U:=jfq;have H:=run_eql_iface_ptr_other (P:=Tryz.prog) w Tryz.underlying88 Tryz.underlying528 I A J (by rw[B];decide) C ha G;go_enter Tryz.func121,Tryz.ntmps121;go_wp2;refine wp_loop_rounds 1 ?_;rw[rounds_succ];go_wp2;go_ret;exact⟨rfl,rfl⟩
end
section
open Go.Shelf
attribute [local go_sem] Oper.semAt_some
abbrev jcb (a:Addr):Value:=.iface 528 (.pointer (some a))
structure GF (fm ff:Addr) (w:World):Prop where
 efm:w.cell? ⟨1,0,none⟩=some (jcb fm)
 eff:w.cell? ⟨2,0,none⟩=some (jcb ff)
 nf:ff≠fm
 hfm:∃ c t,w.heap[fm.block]? = some (.cells c t (0,0))
 hff:∃ c t,w.heap[ff.block]? = some (.cells c t (0,0))
 lt:6<=w.heap.size
theorem GF.below {C B:Addr} {w D:World} (h:GF C B w) (A:Bw w D):GF C B D:=by
 have I:=h.lt;obtain⟨E,J,G⟩:=h.hfm;obtain⟨F,L,H⟩:=h.hff
 exact⟨(A.cell (p:=⟨1,0,none⟩) (by show 1<_;omega)).trans h.efm,(A.cell (p:=⟨2,0,none⟩) (by show 2<_;omega)).trans h.eff,h.nf,
  ⟨E,J,known A (Nat.le_refl _) G⟩,⟨F,L,known A (Nat.le_refl _) H⟩,Nat.le_trans I A.size⟩
theorem jc6 (A C:Addr) (w:World) (B:GF A C w) :
  CR 97 #[jcb A] w (.int .i64 20):=by
 have E:=B.efm;have D:=jhV A w;clear B;go_enter Tryz.func97,Tryz.ntmps97;go_wp2_with (go_at_call 121;refine D.mono ?_;rintro e F ⟨rfl,rfl⟩);go_ret;exact⟨rfl,Below.refl _ _⟩
theorem jcN (C B:Addr) (w:World) (A:GF C B w) :
  CR 97 #[jcb B] w (.int .i64 21):=by
 have L:=A.efm;obtain⟨F,I,D⟩:=A.hfm;obtain⟨G,J,E⟩:=A.hff;have H:=jg4 B C G F J I w A.nf E D;clear A D E;go_enter Tryz.func97,Tryz.ntmps97;go_wp2_with (go_at_call 121;refine H.mono ?_;rintro e M ⟨rfl,rfl⟩);go_ret;exact⟨rfl,Below.refl _ _⟩
theorem je8 (f:Nat) (w:World) (H:f<256) :
  Calls Tryz.prog 119 #[.int .u8 f] w fun e G=>e=.returned (.int .i64 (jaj f))/\G=w:=by
 by_cases B:f<=240
 ·have A:jaj f=0:=by unfold jaj;rw[if_pos B]
  rw[A];go_enter Tryz.func119,Tryz.ntmps119;go_wp2_with fail;go_ret;exact⟨rfl,rfl⟩
 by_cases D:f<=248
 ·have A:jaj f=1:=by unfold jaj;rw[if_neg B,if_pos D]
  rw[A];go_enter Tryz.func119,Tryz.ntmps119;go_wp2_with fail;go_ret;exact⟨rfl,rfl⟩
 by_cases C:f=249
 ·subst C
  go_enter Tryz.func119,Tryz.ntmps119;go_wp2_with fail;go_ret;exact⟨rfl,rfl⟩
 ·have A:jaj f=f-247:=by unfold jaj;rw[if_neg B,if_neg D,if_neg C]
  have E:((f-247:Nat):Int)=(f:Int)-247:=by omega
  have F:((f:Int)==249)=false:=by simp;omega
  rw[A,E];clear A E C;go_enter Tryz.func119,Tryz.ntmps119;go_wp2_with fail;go_ret;exact⟨rfl,rfl⟩
theorem jfs (s:ByteArray) (w:World) :
  Calls Tryz.prog 120 #[.string s] w fun e A=>e=.returned (.func (.func 149) #[] #[.pointer (some ⟨w.heap.size,0,none⟩)])/\A=w.alloc (.cells #[.string s] 9):=by
 go_enter Tryz.func120,Tryz.ntmps120;go_wp2;go_ret;exact⟨rfl,rfl⟩
theorem jh1 (l B:Nat) (s:ByteArray) (L:s.size<4294967281) (J Q:List (Nat × UInt8)->World->Prop)
  (V:∀ A x W,J A W->A.length<(jdb s).length->YieldAt Fence.wide 7 Tryz.prog l #[.int .i64 x.1,.int .u8 x.2.toNat] W fun e C =>
   (e=.returned (.bool true)/\J (A++[x]) C/\KB B W C)\/(e=.returned (.bool false)/\Q (A++[x]) C))
  (W:World) (D:W.heap[B]? = some (.cells #[.string s] 9 (0,0))) (T:J [] W) :
  CallsIn Fence.wide 8 Tryz.prog 149 #[.func (.yield l) #[] #[],.pointer (some ⟨B,0,none⟩)] W fun e C=>(∃ v,e=.returned v) /\
   ((∃ S,S=jdb s/\J S C)\/(∃ A,A <+: jdb s/\Q A C)):=by
 have I:=je1 s;refine callsIn_of_wp Tryz.func149 rfl trivial ?_ rfl;simp only[Tryz.ntmps149,List.size_toArray,List.length_cons,List.length_nil,Nat.reduceAdd,Nat.reduceSub,Array.replicate_succ,Array.replicate_zero,List.push_toArray,List.append_toArray,List.nil_append,List.cons_append];have O:=Lib.hid I;have Z:W.cell? ⟨B,0,none⟩=some (.string s):=cCc D 0;clear I;gi_wp2;gi_loopw [3,6] (fun _ i wr=>∃ k:Nat,k<=s.size/\i=.int .i64 k/\J ((jdb s).take k) wr/\KB B W wr) (fun _ i _=>s.size-(intOf i).toNat)
 case atStart=>exact⟨0,Nat.zero_le _,rfl,T,KB.refl _ _⟩
 case round =>
  obtain⟨k,b,rfl,E,H⟩:=hrel;by_cases G:k<s.size
  ·have R:=jeL s k G
   obtain⟨a,tmps,assign,body,c,U⟩:=V _ (k,s[k]'G) _ E (by rw[List.length_take,O.out];omega);have P:=Lib.hid R;have Y:wr.cell? ⟨B,0,none⟩=some (.string s):=cCc (H _ D) 0;clear R;gi_wp2;refine U.mono ?_;rintro e X (⟨rfl,M,N⟩ | ⟨rfl,F⟩)
   ·gi_wp2
    go_roundw
    case rel=>exact⟨k+1,by omega,by simp,by rw[jaq P.out];exact M,H.trans N⟩
    case measure=>simp[intOf];omega
   ·gi_wp2
    refine bodyPost_ret (results_none rfl _ _ _) rfl ?_;exact⟨⟨_,rfl⟩,.inr ⟨_,by have h:=List.take_prefix (k+1) (jdb s);rwa [jaq P.out] at h,F⟩⟩
  ·obtain rfl:k=s.size:=by omega
   gi_wp2
   go_end0;exact⟨⟨_,rfl⟩,.inl ⟨_,List.take_of_length_le (by rw[O.out];omega),E⟩⟩
theorem jft (B:Nat) (s:ByteArray) (A:s.size<4294967281) (w:World) (H:w.heap[B]? = some (.cells #[.string s] 9 (0,0))) :
  SeqStopsK Fence.wide 8 Tryz.prog 149 #[.pointer (some ⟨B,0,none⟩)] (fun x:Nat × UInt8=>#[.int .i64 x.1,.int .u8 x.2.toNat]) (KB B) (fun I=>I=jdb s) (fun C=>C <+: jdb s) (jdb s).length w:=fun l J D W F _ _ G E =>
 jh1 l B s A J D G W (known F (Nat.le_refl _) H) E
end
def jaM (p:Nat × Nat) (x:UInt8):Nat × Nat:=((p.1+x.toNat) % 65521,(p.2+(p.1+x.toNat) % 65521) % 65521)
def jbc (l:List UInt8):Nat × Nat:=l.foldl jaM (1,0)
def jaL (l:List UInt8):Nat:=(jbc l).2*65536+(jbc l).1
def jcc (n:Nat):List UInt8:=[UInt8.ofNat (n / 16777216 % 256),UInt8.ofNat (n / 65536 % 256),UInt8.ofNat (n / 256 % 256),UInt8.ofNat (n % 256)]
def jdl (n:Nat) (b:UInt8):Nat:=(n*256+b.toNat) % 4294967296
def jbX (l:List UInt8):Nat:=l.foldl jdl 0
theorem jeD (l:List UInt8) (x:UInt8):jbc (l++[x])=jaM (jbc l) x:=by unfold jbc;rw[List.foldl_append];rfl
theorem jff (l:List UInt8) (x:UInt8):jbX (l++[x])=jdl (jbX l) x:=by unfold jbX;rw[List.foldl_append];rfl
theorem jiQ (l:List UInt8):∀ p:Nat × Nat,p.1<65521->p.2<65521->(l.foldl jaM p).1<65521/\(l.foldl jaM p).2<65521:=by
 induction l with
 | nil=>intro p A B;exact⟨A,B⟩
 | cons x l ih=>intro p A B;exact ih (jaM p x) (Nat.mod_lt _ (by decide)) (Nat.mod_lt _ (by decide))
theorem jcK (l:List UInt8):(jbc l).1<65521/\(jbc l).2<65521:=jiQ l _ (by decide) (by decide)
theorem jdP (l:List UInt8):jaL l<4294967296:=by
 have:=jcK l;unfold jaL;omega
theorem jgO (n:Nat):(UInt8.ofNat (n % 256)).toNat=n % 256:=by simp
theorem jhO (n:Nat) (h:n<4294967296):jbX (jcc n)=n:=by
 unfold jbX jcc jdl;simp only[List.foldl_cons,List.foldl_nil,jgO];omega
inductive FrR where
 | got (body rest:List UInt8)
 | err (no:Int)
def rdF:List UInt8->FrR
 | []=>.err 20
 | m::t=>if m≠167 then .err 30 else match jbA t with
  | .more=>.err 20
  | .bad=>.err 30
  | .got n r=>if n=0\/2000<n then .err 30 else if (r.length:Int)<n+4 then .err 20 else
    if jaL (r.take n.toNat)≠jbX ((r.drop n.toNat).take 4) then .err 31 else .got (r.take n.toNat) (r.drop (n.toNat+4))
def mkF (l:List UInt8):List UInt8:=167::(jac [(l.length:Int)]++(l++jcc (jaL l)))
theorem jdU (n:Nat):(jcc n).length=4:=rfl
theorem jhF {l:List UInt8} (D:l≠[]) (F:l.length<=2000) (r:List UInt8):rdF (mkF l++r)=.got l r:=by
 have E:0<l.length:=List.length_pos_iff.2 D;unfold mkF;rw[List.cons_append,List.append_assoc,List.append_assoc];unfold rdF;dsimp only;rw[if_neg (by decide),jdm _ (by unfold U64;omega)];dsimp only;have A:(l++(jcc (jaL l)++r)).length=l.length+4+r.length:=by rw[List.length_append,List.length_append,jdU];omega
 rw[if_neg (by omega),if_neg (by rw[A];omega),Int.toNat_natCast,List.take_left,List.drop_left];have B:(jcc (jaL l)++r).take 4=jcc (jaL l):=List.take_left (l₁:=jcc (jaL l))
 have C:(l++(jcc (jaL l)++r)).drop (l.length+4)=r:=by
  rw[<- List.append_assoc];have:l.length+4=(l++jcc (jaL l)).length:=by rw[List.length_append,jdU]
  rw[this,List.drop_left]
 rw[B,C,jhO _ (jdP l),if_neg (by simp)]
def jcY (q:Rq):List UInt8:=2::q.B
inductive Msg where
 | hello (now:Int) (tok:ByteArray)
 | ask (q:Rq)
 | noise
def jcQ (l:List UInt8):(Int × ByteArray) × Rd :=
 let a:=jaA (some l);let b:=jaW a.2
 ((a.1,b.1),b.2)
def jfo:List UInt8->Msg
 | []=>.noise
 | m::t=>if m=1 then (if (jcQ t).2=some [] then .hello (jcQ t).1.1 (jcQ t).1.2 else .noise) else if m=2 then (match jbj t with
  | some q=>.ask q
  | none=>.noise) else .noise
theorem jgj {q:Rq} (h:q.ok=true) (A:q.Wf):jfo (jcY q)=.ask q:=by
 unfold jcY jfo;dsimp only;rw[if_neg (by decide),if_pos rfl,jdW h A]
theorem jae (n:Int):1<=(jac [n]).length/\(jac [n]).length<=9:=by have:=jao [n];simpa using this
theorem jb0 (s:ByteArray):(jcp s).length<=s.size+9:=by
 unfold jcp;have:=(jae (s.size:Int)).2;have h:s.data.toList.length=s.size:=by rw[Array.length_toList];rfl
 rw[List.length_append,h];omega
end Go.Proofs.YtlmlcadcdhhlcaaGreatDoor

/- The references of layers 2 and 4 in plain data: texts compared byte by byte, runes one by one, names, values. No program in sight. The reference of layer 2: Least. The reference of layer 4: isName, Size. The references of layers 6 to 8: Right, Numbers, Same. The references of layers 7 and 8: Right, Same. The reference of layer 8: Right, Same. -/
import Derived.Lib.MapLaws
import Derived.Lib.ValidLaws
import Derived.Shelf.Strings.MapAny
import Derived.Test.YtafhpamnegmilaaGreatDoorYP1
set_option maxHeartbeats 1000000
set_option maxRecDepth 100000
namespace Go.Proofs.YtafhpamnegmilaaGreatDoor
open Go Go.RowKit
def jdi:List UInt8->List UInt8->Int
 | [],[]=>0
 | [],_::_ => -1
 | _::_,[]=>1
 | a::x,b::y=>if a<b then -1 else if b<a then 1 else jdi x y
theorem jgn:∀ x y:List UInt8,decide (jdi x y<0)=Op.bytesLess x y
 | [],[]=>rfl
 | [],_::_=>rfl
 | _::_,[]=>rfl
 | a::x,b::y=>by
  have D:=jgn x y;simp only[jdi,Op.bytesLess];by_cases A:a<b
  ·simp[A]
  ·by_cases B:b<a
   ·have C:(a==b)=false:=by rw[beq_eq_false_iff_ne];rintro rfl;exact UInt8.lt_irrefl _ B
    simp[A,B,C]
   ·have C:a=b:=UInt8.le_antisymm (UInt8.not_lt.1 B) (UInt8.not_lt.1 A)
    subst C;simp only[A,if_false,decide_false,beq_self_eq_true,Bool.true_and,Bool.false_or];exact D
theorem jgH:∀ x y:List UInt8,jdi x y=0↔x=y
 | [],[]=>⟨fun _=>rfl,fun _=>rfl⟩
 | [],_::_=>⟨fun h=>by simp[jdi] at h,fun h=>by cases h⟩
 | _::_,[]=>⟨fun h=>by simp[jdi] at h,fun h=>by cases h⟩
 | a::x,b::y=>by
  have D:=jgH x y;simp only[jdi];by_cases B:a<b
  ·rw[if_pos B]
   exact⟨fun h=>by omega,fun h=>by injection h with A;subst A;exact absurd B (UInt8.lt_irrefl _)⟩
  ·rw[if_neg B]
   by_cases A:b<a
   ·rw[if_pos A]
    exact⟨fun h=>by omega,fun h=>by injection h with C;subst C;exact absurd A (UInt8.lt_irrefl _)⟩
   ·rw[if_neg A,D]
    have C:a=b:=UInt8.le_antisymm (UInt8.not_lt.1 A) (UInt8.not_lt.1 B);subst C;exact⟨fun h=>by rw[h],fun h=>by injection h⟩
def jfo (l:List UInt8):Bool:=(Lib.decodeL l).1==65533&&(Lib.decodeL l).2==1
theorem jhA (l:List UInt8):jfo l=true↔(Lib.decodeL l).1=65533/\(Lib.decodeL l).2=1:=by unfold jfo;simp
theorem jh7 (l:List UInt8) (k:Nat):(k<l.length->(l++[120]).getD k 0=l.getD k 0)/\(¬ k<l.length->((l++[120]).getD k 0).toNat / 64≠2):=by
 constructor
 ·intro h
  rw[List.getD_eq_getElem?_getD,List.getD_eq_getElem?_getD,List.getElem?_append_left h]
 ·intro h
  rw[List.getD_eq_getElem?_getD,List.getElem?_append_right (by omega)];rcases Nat.eq_zero_or_pos (k-l.length) with A | A
  ·rw[A];decide
  ·rw[List.getElem?_eq_none (by simp;omega)];decide
theorem jqG (l:List UInt8) (A:l≠[]):Lib.decodeL (l++[120])=Lib.decodeL l:=by
 have I:0<l.length:=List.length_pos_iff.2 A;rw[Lib.decodeL_N,Lib.decodeL_N,List.length_append,List.length_singleton,(jh7 l 0).1 I];have F:=jh7 l 1;have G:=jh7 l 2;have H:=jh7 l 3;have z:∀ k,¬ k<l.length->(l.getD k 0).toNat / 64≠2:=fun k E=>by rw[List.getD_eq_getElem?_getD,List.getElem?_eq_none (by omega)];decide
 have key:∀ k,((l++[120]).getD k 0).toNat / 64=2->k<l.length:=fun k E=>by
  by_cases h:k<l.length
  ·exact h
  ·exact absurd E ((jh7 l k).2 h)
 have e:∀ k,(k<l.length+1/\((l++[120]).getD k 0).toNat / 64=2)=(k<l.length/\(l.getD k 0).toNat / 64=2):=fun k=>propext ⟨fun h=>⟨key k h.2,by rw[<- (jh7 l k).1 (key k h.2)];exact h.2⟩,fun h=>⟨by omega,by rw[(jh7 l k).1 h.1];exact h.2⟩⟩
 unfold Lib.decodeN;simp only[e 1,e 2,e 3];by_cases B:1<l.length
 ·rw[F.1 B]
  by_cases C:2<l.length
  ·rw[G.1 C]
   by_cases D:3<l.length
   ·rw[H.1 D]
   ·simp[D]
  ·simp[C]
 ·simp[B]
theorem jdY (l:List UInt8):((l.getD 0 0).toNat<128/\Lib.decodeL l=((l.getD 0 0).toNat,1))\/(128<=(l.getD 0 0).toNat/\128<=(Lib.decodeL l).1/\2<=(Lib.decodeL l).2/\∀ k,k<(Lib.decodeL l).2->128<=(l.getD k 0).toNat)\/(128<=(l.getD 0 0).toNat/\Lib.decodeL l=(65533,1)):=by
 rw[Lib.decodeL_N];have J:=(l.getD 0 0).toNat_lt;by_cases F:(l.getD 0 0).toNat<128
 ·left
  refine⟨F,?_⟩;unfold Lib.decodeN;rw[if_pos F]
 ·right
  rcases Lib.decodeN_shape l.length (l.getD 0 0).toNat (l.getD 1 0).toNat (l.getD 2 0).toNat (l.getD 3 0).toNat with⟨c,e⟩ | ⟨C,D,E,B,e⟩ | ⟨C,D,E,G,B,cs,e⟩ | ⟨C,D,E,G,H,B,I,e⟩ | e
  ·omega
  ·left
   rw[e];refine⟨by omega,B,Nat.le_refl _,fun k A=>?_⟩;dsimp only at A;rcases (by omega:k=0\/k=1) with rfl | rfl<;>omega
  ·left
   rw[e];refine⟨by omega,by dsimp only;omega,by omega,fun k A=>?_⟩;dsimp only at A;rcases (by omega:k=0\/k=1\/k=2) with rfl | rfl | rfl<;>omega
  ·left
   rw[e];refine⟨by omega,by dsimp only;omega,by omega,fun k A=>?_⟩;dsimp only at A;rcases (by omega:k=0\/k=1\/k=2\/k=3) with rfl | rfl | rfl | rfl<;>omega
  ·right
   exact⟨by omega,e⟩
theorem jq2 (l:List UInt8) (h:(Lib.decodeL l).1=65533):jfo l=true\/((Lib.decodeL l).2=3/\2<l.length/\(l.getD 0 0).toNat=239/\(l.getD 1 0).toNat=191/\(l.getD 2 0).toNat=189):=by
 rw[jhA];rw[Lib.decodeL_N] at h ⊢;have H:=(l.getD 0 0).toNat_lt;have I:=(l.getD 1 0).toNat_lt;have J:=(l.getD 2 0).toNat_lt;rcases Lib.decodeN_shape l.length (l.getD 0 0).toNat (l.getD 1 0).toNat (l.getD 2 0).toNat (l.getD 3 0).toNat with⟨c,e⟩ | ⟨B,A,C,D,e⟩ | ⟨B,A,C,E,D,cs,e⟩ | ⟨B,A,C,E,F,D,G,e⟩ | e
 ·rw[e] at h;dsimp only at h;omega
 ·rw[e] at h;dsimp only at h;omega
 ·right
  rw[e] at h ⊢;dsimp only at h ⊢;exact⟨rfl,A,by omega,by omega,by omega⟩
 ·rw[e] at h;dsimp only at h;omega
 ·left;rw[e];exact⟨rfl,rfl⟩
theorem jqU (l:List UInt8) (A:2<l.length) (B:(l.getD 0 0).toNat=239) (C:(l.getD 1 0).toNat=191) (D:(l.getD 2 0).toNat=189):Lib.decodeL l=(65533,3):=by
 rw[Lib.decodeL_N,B,C,D];unfold Lib.decodeN;have E:1<l.length:=by omega
 simp[A,E]
theorem jsV (s:ByteArray) (A:Nat) (h:A<s.size):jeZ s (A,((Utf8.decode s A).1:Int))=jfo (s.data.toList.drop A):=by
 unfold jeZ jfo;rw[Lib.decodeGo_extract s A h,Lib.decodeL_drop];dsimp only
 have C:(((Utf8.decode s A).1:Int)==65533)=((Utf8.decode s A).1==65533):=by
  by_cases B:(Utf8.decode s A).1=65533
  ·rw[B];rfl
  ·rw[beq_eq_false_iff_ne.2 B,beq_eq_false_iff_ne];omega
 have D:(((Utf8.decode s A).2:Int)==1)=((Utf8.decode s A).2==1):=by
  by_cases B:(Utf8.decode s A).2=1
  ·rw[B];rfl
  ·rw[beq_eq_false_iff_ne.2 B,beq_eq_false_iff_ne];omega
 rw[C,D]
def jgo (s:ByteArray) (pos:Nat):Bool:=(rl s pos).all fun p => !jeZ s p
theorem jiq (s:ByteArray) (A:Nat) (h:A<s.size):jgo s A=(!jfo (s.data.toList.drop A)&&jgo s (A+(Lib.decodeL (s.data.toList.drop A)).2)):=by
 unfold jgo;rw[jeX s A h,List.all_cons,jsV s A h,Lib.decodeL_drop]
theorem jpB (s:ByteArray) (A:Nat) (h:¬ A<s.size):jgo s A=true:=by
 unfold jgo;rw[jgr s A h];rfl
def jbH (b:UInt8):Bool:=decide (97<=b.toNat)&&decide (b.toNat<=122)
def jch (b:UInt8):Bool:=decide (32<=b.toNat)&&b.toNat != 127
theorem jqI (s:ByteArray) (A n:Nat) (h:A<s.size) (C:n≠0):∃ t,s.data.toList.drop A=(s.data.toList.drop A).getD 0 0::t/\t.drop (n-1)=s.data.toList.drop (A+n):=by
 have B:A<s.data.toList.length:=by rw[Array.length_toList];exact h
 rw[List.drop_eq_getElem_cons B];refine⟨_,rfl,?_⟩;rw[List.drop_drop];congr 1;omega
theorem jiQ (f:Int->Bool) (g:UInt8->Bool) (ha:∀ b:UInt8,b.toNat<128->f (b.toNat:Int)=g b) (c:Bool) (I:∀ r:Nat,128<=r->f (r:Int)=c) (J:∀ b:UInt8,128<=b.toNat->g b=c) (s:ByteArray) :
  ∀ (k A:Nat),s.size-A<=k->((rl s A).all fun p=>f p.2)=(s.data.toList.drop A).all g:=by
 intro k
 induction k with
 | zero =>
  intro A O;have B:¬ A<s.size:=by omega
  rw[jgr s A B,List.drop_eq_nil_of_le (by rw[Array.length_toList];exact Nat.not_lt.1 B)];rfl
 | succ k ih =>
  intro A O;by_cases B:A<s.size
  ·rw[jeX s A B,List.all_cons]
   have H:=Lib.decodeL_drop s A;have P:=jdJ s A B;rw[ih _ (by omega),<- H];rw[<- H] at P;dsimp only;obtain⟨t,e,G⟩:=jqI s A (Lib.decodeL (s.data.toList.drop A)).2 B (by omega);rw[<- G];have Q:(s.data.toList.drop A).length=s.size-A:=by rw[List.length_drop,Array.length_toList];rfl
   have key:∀ n,(∀ j,j<n->128<=((s.data.toList.drop A).getD j 0).toNat)->1<=n->(c&&(t.drop (n-1)).all g)=(g ((s.data.toList.drop A).getD 0 0)&&t.all g):=by
    intro n F M
    have E:∀ j,j<n-1->128<=(t.getD j 0).toNat:=by
     intro j L;have:=F (j+1) (by omega);rw[e,List.getD_cons_succ] at this;exact this
    rw[J _ (F 0 (by omega))];generalize n-1=m at E;clear e G F
    induction m generalizing t with
    | zero=>rfl
    | succ m ihm =>
     cases t with
     | nil=>rfl
     | cons y t' =>
      rw[List.drop_succ_cons,ihm t' (fun j L=>by have:=E (j+1) (by omega);rwa [List.getD_cons_succ] at this),List.all_cons,J y (E 0 (by omega)),<- Bool.and_assoc,Bool.and_self]
   rcases jdY (s.data.toList.drop A) with⟨D,C⟩ | ⟨D,C,R,N⟩ | ⟨D,C⟩
   ·rw[C]
    dsimp only;rw[ha _ D,e,List.all_cons,List.getD_cons_zero];rfl
   ·rw[I _ C]
    conv=>rhs;rw[e,List.all_cons]
    exact key _ N (by omega)
   ·rw[C]
    dsimp only
    conv=>rhs;rw[e,List.all_cons]
    rw[I 65533 (by omega)];exact key 1 (fun j L=>by have:j=0:=(by omega);rw[this];exact D) (Nat.le_refl 1)
  ·rw[jgr s A B,List.drop_eq_nil_of_le (by rw[Array.length_toList];exact Nat.not_lt.1 B)]
   rfl
theorem jpA (s:ByteArray):jbQ s=(s.size != 0&&decide (s.size<=12)&&s.data.toList.all jbH):=by
 unfold jbQ;rw[jiQ jbG jbH (fun b h=>by unfold jbG jbH;congr 1<;>exact decide_eq_decide.2 (by omega)) false (fun r h=>by unfold jbG;simp;omega) (fun b h=>by unfold jbH;simp;omega) s s.size 0 (by omega),List.drop_zero]
theorem jsw (s:ByteArray):((rl s 0).all fun p=>jbd p.2)=s.data.toList.all jch:=by
 rw[jiQ jbd jch (fun b h=>by unfold jbd jch;congr 1;exact decide_eq_decide.2 (by omega);rw[Bool.eq_iff_iff];simp;omega) true (fun r h=>by unfold jbd;simp;omega) (fun b h=>by unfold jch;simp;omega) s s.size 0 (by omega),List.drop_zero]
theorem jke (s:ByteArray) (A:Nat):(s.data.toList.drop A).length=s.size-A:=by rw[List.length_drop,Array.length_toList];rfl
def jxA (l:List UInt8):Bool:=(Lib.decodeL l).1==65533&&(decide (l.length<3)||l.take 3 != [239,191,189])
theorem jvZ (l:List UInt8):jxA l=jfo l:=by
 unfold jxA;by_cases h:(Lib.decodeL l).1=65533
 ·rcases jq2 l h with C | ⟨C,B,A,D,E⟩
  ·rw[C]
   obtain⟨-,B⟩:=(jhA l).1 C;rw[h];by_cases A:l.length<3
   ·simp[A]
   ·have:l.take 3≠[239,191,189]:=by
     intro e;rcases l with _ | ⟨a,_ | ⟨b,_ | ⟨c,t⟩⟩⟩
     ·exact A (by simp)
     ·exact A (by simp)
     ·exact A (by simp)
     ·simp only[List.take_succ_cons,List.take_zero,List.cons.injEq,and_true] at e
      obtain⟨rfl,rfl,rfl⟩:=e;have:=jqU (239::191::189::t) (by simp) rfl rfl rfl;rw[this] at B;exact absurd B (by decide)
    simp[this]
  ·have F:jfo l=false:=by unfold jfo;rw[C];simp
   have G:l.take 3=[239,191,189]:=by
    rcases l with _ | ⟨a,_ | ⟨b,_ | ⟨c,t⟩⟩⟩
    ·exact absurd B (by simp)
    ·exact absurd B (by simp)
    ·exact absurd B (by simp)
    ·simp only[List.getD_cons_zero,List.getD_cons_succ] at A D E
     simp only[List.take_succ_cons,List.take_zero,List.cons.injEq,and_true];exact⟨UInt8.toNat_inj.1 A,UInt8.toNat_inj.1 D,UInt8.toNat_inj.1 E⟩
   rw[F,h,G];have:¬ l.length<3:=by omega
   simp[this]
 ·unfold jfo
  rw[beq_eq_false_iff_ne.2 h];rfl
theorem jkU (l:List UInt8) (B:l≠[]) (h:jfo l=false):1<=(Lib.decodeL l).2/\(Lib.decodeL l).2<=l.length/\¬ ((Lib.decodeL l).2=1/\128<=(l.getD 0 0).toNat):=by
 have C:0<l.length:=List.length_pos_iff.2 B;refine⟨?_,?_,?_⟩
 ·rcases jdY l with⟨-,e⟩ | ⟨-,-,e,-⟩ | ⟨-,e⟩
  ·rw[e];exact Nat.le_refl _
  ·omega
  ·rw[e];exact Nat.le_refl _
 ·rcases jdY l with⟨-,e⟩ | ⟨-,-,e,D⟩ | ⟨-,e⟩
  ·rw[e];exact C
  ·apply Nat.le_of_not_lt
   intro A;have:=D l.length A;rw[List.getD_eq_getElem?_getD,List.getElem?_eq_none (Nat.le_refl _)] at this;exact absurd this (by decide)
  ·rw[e];exact C
 ·rintro⟨E,F⟩
  rcases jdY l with⟨G,-⟩ | ⟨-,-,e,-⟩ | ⟨-,e⟩
  ·omega
  ·omega
  ·unfold jfo at h
   rw[e] at h;exact absurd h (by decide)
theorem joo (x y:List UInt8):decide (0<=jdi x y)=(Op.bytesLess y x||y==x):=by
 have C:=jgn x y;by_cases h:jdi x y<0
 ·have A:Op.bytesLess x y=true:=by rw[<- C];simpa using h
  have E:Op.bytesLess y x=false:=by
   cases B:Op.bytesLess y x
   ·rfl
   ·have:=jto x y x A B
    rw[jln] at this;exact absurd this (by decide)
  have F:(y==x)=false:=by
   rw[beq_eq_false_iff_ne];rintro rfl;rw[jln] at A;exact absurd A (by decide)
  rw[E,F];simp;omega
 ·have A:Op.bytesLess x y=false:=by rw[<- C];simp;omega
  have D:decide (0<=jdi x y)=true:=by simp;omega
  rw[D]
  cases B:Op.bytesLess y x
  ·have:=juT x y A B
   rw[this];simp
  ·rfl
theorem jl4 (n:Nat):decide (1<=n)=(n != 0):=by cases n with | zero=>rfl | succ n=>simp
def jb8 (s:ByteArray):Bool:=s.data.toList.all jbH&&(decide (1<=s.size)&&decide (s.size<=12))
def jbx (s:ByteArray):Bool:=s.data.toList.all jch&&(jav s&&decide ((rl s 0).length<=24))
theorem jot (s:ByteArray):jb8 s=jbQ s:=by
 rw[jpA];unfold jb8;have:=jl4 s.size;rw[this,Bool.and_comm]
theorem jmC (s:ByteArray):jbx s=jbc s:=by
 unfold jbx jbc jcW;rw[jsw,Bool.and_comm]
 cases jav s
 ·rfl
 ·congr 2
  exact decide_eq_decide.2 (by rw[if_pos rfl];omega)
def jcA:Option ByteArray->List Lab->Bool
 | _,[]=>true
 | none,x::xs=>jb8 x.name&&jbx x.value&&jcA (some x.name) xs
 | some b,x::xs=>jb8 x.name&&jbx x.value && !decide (0<=jdi b.data.toList x.name.data.toList)&&jcA (some x.name) xs
theorem jnf (b:ByteArray) (A:List Lab):jcA (some b) A=jdF b A:=by
 induction A generalizing b with
 | nil=>rfl
 | cons x xs ih =>
  show (jb8 x.name&&jbx x.value && !decide (0<=jdi b.data.toList x.name.data.toList)&&jcA (some x.name) xs)=((jbQ x.name && !jfO x.name b&&jbc x.value)&&jdF x.name xs);rw[ih,jot,jmC,joo];unfold jfO;rw[Lib.toList_data,Lib.toList_data];congr 1
  cases jbQ x.name<;>cases jbc x.value<;>simp
theorem jne (A:List Lab):jcA none A=jdF (⟨#[]⟩:ByteArray) A:=by
 cases A with
 | nil=>rfl
 | cons x xs =>
  show (jb8 x.name&&jbx x.value&&jcA (some x.name) xs)=((jbQ x.name && !jfO x.name (⟨#[]⟩:ByteArray)&&jbc x.value)&&jdF x.name xs);rw[jnf,jot,jmC];congr 1
  cases h:jbQ x.name
  ·rfl
  ·have B:x.name.size≠0:=by
    unfold jbQ at h;intro e;rw[e] at h;exact absurd h (by simp)
   have C:jfO x.name (⟨#[]⟩:ByteArray)=false:=by
    unfold jfO;rw[Lib.toList_data,Lib.toList_data]
    have D:x.name.data.toList≠[]:=by
     intro e;apply B;show x.name.data.size=0;rw[<- Array.length_toList,e];rfl
    cases e:x.name.data.toList with
    | nil=>exact absurd e D
    | cons a t=>rfl
   rw[C];simp
def jlR (ls:List Lab):Bool:=jcA none ls&&(decide (1<=ls.length)&&decide (ls.length<=6))
theorem jlS (A:List Lab):jlR A=jal A:=by
 unfold jlR jal;rw[jne];have:=jl4 A.length;rw[this,Bool.and_comm]
def jem (x y:Lab):Int:=if jdi x.name.data.toList y.name.data.toList=0 then jdi x.value.data.toList y.value.data.toList else jdi x.name.data.toList y.name.data.toList
def jb2:List Lab->List Lab->Bool
 | x::xs,y::ys=>if jem x y=0 then jb2 xs ys else decide (jem x y<0)
 | xs,ys=>decide (xs.length<ys.length)
theorem jgm (a b:ByteArray):jdi a.data.toList b.data.toList=0↔a=b:=by
 have:=jgH a.data.toList b.data.toList;constructor
 ·intro h
  exact ByteArray.ext (Array.ext' (this.1 h))
 ·rintro rfl
  exact (jgH _ _).2 rfl
theorem jii:∀ xs B:List Lab,jb2 xs B=jau xs B
 | [],[]=>rfl
 | [],y::B=>by simp[jb2,jau]
 | x::xs,[]=>by simp[jb2,jau]
 | x::xs,y::B=>by
  have E:=jii xs B;unfold jb2 jau jem;by_cases A:x.name=y.name
  ·rw[if_pos ((jgm _ _).2 A)]
   by_cases C:x.value=y.value
   ·rw[if_pos ((jgm _ _).2 C),if_pos ⟨A,C⟩,E]
   ·rw[if_neg (fun e=>C ((jgm _ _).1 e)),if_neg (fun e=>C e.2),if_neg (fun e=>e A),jgn,Lib.toList_data,Lib.toList_data]
  ·have D:¬ jdi x.name.data.toList y.name.data.toList=0:=fun e=>A ((jgm _ _).1 e)
   rw[if_neg D,if_neg D,if_neg (fun e=>A e.1),if_pos A,jgn,Lib.toList_data,Lib.toList_data]
section
open Go.Shelf
theorem jgI (s:ByteArray) (k:Nat) (h:k<s.size):s.data.toList.drop k=s[k]'h::s.data.toList.drop (k+1):=by
 have A:k<s.data.toList.length:=by rw[Array.length_toList];exact h
 rw[List.drop_eq_getElem_cons A];rfl
theorem jeI (s:ByteArray) (k:Nat) (h:s.size<=k):s.data.toList.drop k=[]:=List.drop_eq_nil_of_le (by rw[Array.length_toList];exact h)
theorem jt4 (a b:ByteArray) (k:Nat) (ha:k<a.size) (A:k<b.size):jdi (a.data.toList.drop k) (b.data.toList.drop k)=if (a[k]'ha).toNat<(b[k]'A).toNat then -1 else if (b[k]'A).toNat<(a[k]'ha).toNat then 1 else jdi (a.data.toList.drop (k+1)) (b.data.toList.drop (k+1)):=by
 rw[jgI a k ha,jgI b k A,jdi];rfl
theorem jjF (a b:ByteArray) (k:Nat) (D:k<=a.size) (C:k<=b.size) (h:¬ (k<a.size/\k<b.size)):jdi (a.data.toList.drop k) (b.data.toList.drop k)=if a.size<b.size then -1 else if b.size<a.size then 1 else 0:=by
 by_cases ha:k<a.size
 ·have A:k=b.size:=by omega
  rw[jeI b k (by omega),jgI a k ha,jdi,if_neg (by omega),if_pos (by omega)]
 ·have B:k=a.size:=by omega
  rw[jeI a k (by omega)];by_cases A:k<b.size
  ·rw[jgI b k A,jdi,if_pos (by omega)]
  ·rw[jeI b k (by omega),jdi,if_neg (by omega),if_neg (by omega)]
theorem jdK {w W:World} (h:∃ m,W=w.drewN m) (n:Nat):∃ m,W.drewN n=w.drewN m:=by
 obtain⟨m,rfl⟩:=h;exact⟨m+n,World.drewN_drewN _ _ _⟩
theorem jcv (a b:ByteArray) (w:World) (ha:a.size<4294967281) :
  Calls Tryz.prog 70 #[.string a,.string b] w fun e w'=>e=.returned (.int .i64 (jdi a.data.toList b.data.toList))/\∃ m,w'=w.drewN m:=by
 have L:Hid (jdi a.data.toList b.data.toList=jdi (a.data.toList.drop 0) (b.data.toList.drop 0)):=rfl;generalize jdi a.data.toList b.data.toList=R at L ⊢;go_enter Tryz.func70,Tryz.ntmps70;go_wp2_with fail;go_loopw [5] (fun i wr=>∃ (k:Nat),i=.int .i64 k/\k<=a.size/\k<=b.size/\(∃ m,wr=w.drewN m)/\Hid (R=jdi (a.data.toList.drop k) (b.data.toList.drop k))) (fun i _=>a.size-(intOf i).toNat)
 case atStart=>exact⟨0,rfl,Nat.zero_le _,Nat.zero_le _,⟨0,(World.drewN_zero w).symm⟩,L⟩
 case round =>
  obtain⟨k,rfl,M,G,C,F⟩:=hrel;by_cases D:k<a.size
  ·by_cases A:k<b.size
   ·have I:=Lib.hid (jt4 a b k D A)
    have N:=UInt8.toNat_lt (a[k]'D);have O:=UInt8.toNat_lt (b[k]'A);by_cases E:(a[k]'D).toNat<(b[k]'A).toNat
    ·have B:Hid (R = -1):=by rw[Hid,F.out,I.out,if_pos E]
     go_wp2_with fail;go_quiet (fail);go_wp2_with fail;go_ret;exact⟨by rw[B.out];rfl,(by first | exact jdK C _ | exact jdK (jdK C _) _)⟩
    ·by_cases J:(b[k]'A).toNat<(a[k]'D).toNat
     ·have B:Hid (R=1):=by rw[Hid,F.out,I.out,if_neg E,if_pos J]
      go_wp2_with fail;go_quiet (fail);go_wp2_with fail;go_quiet (fail);go_wp2_with fail;go_ret;exact⟨by rw[B.out];rfl,(by first | exact jdK C _ | exact jdK (jdK C _) _)⟩
     ·have B:Hid (R=jdi (a.data.toList.drop (k+1)) (b.data.toList.drop (k+1))):=by rw[Hid,F.out,I.out,if_neg E,if_neg J]
      go_wp2_with fail;go_quiet (fail);go_wp2_with fail;go_quiet (fail);go_wp2_with fail;go_roundw
      case rel=>exact⟨k+1,by go_num,by omega,by omega,(by first | exact jdK C _ | exact jdK (jdK C _) _),B.out⟩
      case measure=>simp[intOf];omega
   ·have H:=Lib.hid (jjF a b k M G (by omega))
    have E:b.size<a.size:=by omega
    have B:Hid (R=1):=by rw[Hid,F.out,H.out,if_neg (by omega),if_pos E]
    go_wp2_with fail;go_ret;exact⟨by rw[B.out];rfl,C⟩
  ·have H:=Lib.hid (jjF a b k M G (by omega))
   by_cases E:a.size<b.size
   ·have B:Hid (R = -1):=by rw[Hid,F.out,H.out,if_pos E]
    go_wp2_with fail;go_ret;exact⟨by rw[B.out];rfl,C⟩
   ·have J:a.size=b.size:=by omega
    have B:Hid (R=0):=by rw[Hid,F.out,H.out,if_neg (by omega),if_neg (by omega)]
    go_wp2_with fail;go_ret;exact⟨by rw[B.out];rfl,C⟩
theorem juR (f:UInt8->Bool) (s:ByteArray) (k:Nat) (h:k<s.size):(s.data.toList.drop k).all f=(f (s[k]'h)&&(s.data.toList.drop (k+1)).all f):=by rw[jgI s k h,List.all_cons]
theorem jhm (s:ByteArray) (w:World) (P:s.size<4294967281) :
  CR 115 #[.string s] w (.bool (jb8 s)):=by
 have G:Hid (jb8 s=((s.data.toList.drop 0).all jbH&&(decide (1<=s.size)&&decide (s.size<=12)))):=rfl;generalize jb8 s=R at G ⊢;go_enter Tryz.func115,Tryz.ntmps115;go_wp2_with fail;go_loopw [3] (fun i wr=>∃ (k:Nat),i=.int .i64 k/\k<=s.size/\Bw w wr/\Hid (R=((s.data.toList.drop k).all jbH&&(decide (1<=s.size)&&decide (s.size<=12))))) (fun i _=>s.size-(intOf i).toNat)
 case atStart=>exact⟨0,rfl,Nat.zero_le _,Below.refl _ _,G⟩
 case round =>
  obtain⟨k,rfl,O,E,C⟩:=hrel;by_cases A:k<s.size
  ·have F:=Lib.hid (juR jbH s k A)
   have Q:=UInt8.toNat_lt (s[k]'A);by_cases M:(s[k]'A).toNat<97
   ·have B:Hid (R=false):=by rw[Hid,C.out,F.out,show jbH (s[k]'A)=false by unfold jbH;simp;omega];rfl
    go_wp2_with fail;go_ret;exact⟨by rw[B.out];first | rfl | (simp only[D];rfl),E⟩
   ·by_cases N:122<(s[k]'A).toNat
    ·have B:Hid (R=false):=by rw[Hid,C.out,F.out,show jbH (s[k]'A)=false by unfold jbH;simp;omega];rfl
     go_wp2_with fail;go_ret;exact⟨by rw[B.out];first | rfl | (simp only[D];rfl),E⟩
    ·have B:Hid (R=((s.data.toList.drop (k+1)).all jbH&&(decide (1<=s.size)&&decide (s.size<=12)))):=by rw[Hid,C.out,F.out,show jbH (s[k]'A)=true by unfold jbH;simp;omega];rfl
     go_wp2_with fail;go_roundw
     case rel=>exact⟨k+1,by go_num,by omega,E,B.out⟩
     case measure=>simp[intOf];omega
  ·have L:s.data.toList.drop k=[]:=jeI s k (by omega)
   have H:=Lib.hid L;by_cases I:1<=s.size
   ·by_cases J:s.size<=12
    ·have B:Hid (R=true):=by rw[Hid,C.out,H.out,decide_eq_true I,decide_eq_true J];rfl
     have D:decide ((s.size:Int)<=12)=true:=by rw[decide_eq_true_iff];omega
     go_wp2_with fail;go_ret;exact⟨by rw[B.out];first | rfl | (simp only[D];rfl),E⟩
    ·have B:Hid (R=false):=by rw[Hid,C.out,H.out,decide_eq_false J];simp
     have D:decide ((s.size:Int)<=12)=false:=by rw[decide_eq_false_iff_not];omega
     go_wp2_with fail;go_ret;exact⟨by rw[B.out];first | rfl | (simp only[D];rfl),E⟩
   ·have B:Hid (R=false):=by rw[Hid,C.out,decide_eq_false I];simp
    go_wp2_with fail;go_ret;exact⟨by rw[B.out];first | rfl | (simp only[D];rfl),E⟩
theorem jw7 (s:ByteArray):(s++(⟨#[120]⟩:ByteArray)).data.toList=s.data.toList++[120]:=by simp
theorem jw8 (s:ByteArray):(s++(⟨#[120]⟩:ByteArray)).size=s.size+1:=by rw[ByteArray.size_append];rfl
theorem juP (s:ByteArray) (h:0<s.size):Utf8.decode (s++(⟨#[120]⟩:ByteArray)) 0=Lib.decodeL s.data.toList:=by
 rw[<- Lib.decodeL_drop,List.drop_zero,jw7];exact jqG _ (by intro e;have:=congrArg List.length e;rw[Array.length_toList] at this;exact absurd this (by show ¬ s.size=0;omega))
def joM (l:List UInt8):Nat:=if jfo l then 0 else (Lib.decodeL l).2
theorem jjc (s:ByteArray) (w:World) (O:0<s.size) (p:s.size<4294967281) :
  CR 157 #[.string s] w (.int .i64 (joM s.data.toList)):=by
 have a:s.data.toList≠[]:=by intro e;have:=congrArg List.length e;rw[Array.length_toList] at this;exact absurd this (by show ¬ s.size=0;omega)
 have b:=jw8 s;have T:=juP s O;have N:=Lib.hid (jvZ s.data.toList);have M:=Lib.hid (jkU s.data.toList a);have j:s.data.toList.length=s.size:=by rw[Array.length_toList];rfl
 have G:Hid (joM s.data.toList=if jfo s.data.toList then 0 else (Lib.decodeL s.data.toList).2):=rfl;generalize joM s.data.toList=R at G ⊢;generalize ht:s++(⟨#[120]⟩:ByteArray)=t at b T;go_enter Tryz.func157,Tryz.ntmps157;go_wp2_with fail;go_loopw [3,4] (fun _ _ wr=>∃ I,wr.heap[w.heap.size]? = some (.stringIter t I)/\Bw w wr/\(I=0\/(I=(Lib.decodeL s.data.toList).2/\jfo s.data.toList=false))) (fun _ _ wr=>t.size-wr.iterPos w.heap.size)
 case atStart=>exact⟨0,World.iter_heap w t 0,(Below.refl _ _).alloc (Nat.le_refl _) _,.inl rfl⟩
 case round =>
  obtain⟨I,H,S,Q⟩:=hrel;have D:=jax H;rcases Q with rfl | ⟨rfl,i⟩
  ·have Q:0<t.size:=by omega
   obtain⟨l,L,A,B,-,-⟩:=jdG (P:=Tryz.prog) H S (Nat.le_refl _) Q;rw[T] at L A;have Z:=jdJ t 0 Q;rw[T] at Z;have F:Hid (jfo s.data.toList=((Lib.decodeL s.data.toList).1==65533&&(decide (s.data.toList.length<3)||s.data.toList.take 3 != [239,191,189]))):=N.out.symm;rw[j] at F;have U:s.data.toList.take 3=(s.extract 0 3).data.toList:=by simp
   rw[U] at F;rw[Nat.zero_add] at A;generalize Lib.decodeL s.data.toList=rd at *;generalize jfo s.data.toList=bb at *;clear U T H;by_cases C:rd.1=65533
   ·have c:((rd.1:Int)==65533)=true:=by rw[C];rfl
    by_cases Y:s.size<3
    ·have X:decide ((s.size:Int)<3)=true:=by rw[decide_eq_true_iff];omega
     have E:Hid (R=0):=by rw[Hid,G.out,F.out,C,decide_eq_true Y];rfl
     clear F G N M C;go_wp2_with fail;go_ret;exact⟨by rw[E.out];rfl,B⟩
    ·have X:decide ((s.size:Int)<3)=false:=by rw[decide_eq_false_iff_not];omega
     have m:3<=s.size:=by omega
     by_cases J:(s.extract 0 3).data.toList=[239,191,189]
     ·have f:((s.extract 0 3).toList==[239,191,189])=true:=by rw[Lib.toList_data,J];rfl
      have g:(s.extract 0 3).toList=[239,191,189]:=by rw[Lib.toList_data,J]
      have E:Hid (bb=false):=by rw[Hid,F.out,C,decide_eq_false Y,J];rfl
      clear F G N M C J;go_wp2_with fail;go_roundw
      case rel=>exact⟨_,A,B,.inr ⟨rfl,E.out⟩⟩
      case measure=>rw[jax A,D];omega
     ·have f:((s.extract 0 3).toList==[239,191,189])=false:=by rw[Lib.toList_data,beq_eq_false_iff_ne];exact J
      have g:¬ (s.extract 0 3).toList=[239,191,189]:=by rw[Lib.toList_data];exact J
      have E:Hid (R=0):=by
       have:bb=true:=by rw[F.out,C,decide_eq_false Y,bne_iff_ne.2 J];rfl
       rw[Hid,G.out,this];rfl
      clear F G N M C J;go_wp2_with fail;go_ret;exact⟨by rw[E.out];rfl,B⟩
   ·have c:((rd.1:Int)==65533)=false:=by rw[beq_eq_false_iff_ne];omega
    have E:Hid (bb=false):=by rw[Hid,F.out,beq_eq_false_iff_ne.2 C];rfl
    clear F G N M C;go_wp2_with fail;go_roundw
    case rel=>exact⟨_,A,B,.inr ⟨rfl,E.out⟩⟩
    case measure=>rw[jax A,D];omega
  ·obtain⟨r,n,V⟩:=M.out i
   rw[j] at n;have h:R=(Lib.decodeL s.data.toList).2:=by rw[G.out,i];rfl
   have Q:(Lib.decodeL s.data.toList).2<t.size:=by omega
   obtain⟨l,L,A,B,-,-⟩:=jdG (P:=Tryz.prog) H S (Nat.le_refl _) Q
   have k:(s.data.toList.getD 0 0).toNat=(s[0]'O).toNat:=by
    have:=jgI s 0 O;rw[List.drop_zero] at this;rw[this];rfl
   rw[k] at V;have q:=UInt8.toNat_lt (s[0]'O);generalize (Utf8.decode t (Lib.decodeL s.data.toList).2)=dd at L A;generalize (Lib.decodeL s.data.toList).2=d at *;have E:=Lib.hid h;have c:decide ((0:Int)<(d:Int))=true:=by rw[decide_eq_true_iff];omega
   have f:decide ((s.size:Int)<(d:Int))=false:=by rw[decide_eq_false_iff_not];omega
   clear M G N k T h;by_cases C:d=1
   ·have X:((d:Int)==1)=true:=by rw[C];rfl
    have g:¬ 128<=(s[0]'O).toNat:=fun e=>V ⟨C,e⟩
    have o:decide ((128:Int)<=((s[0]'O).toNat:Int))=false:=by rw[decide_eq_false_iff_not];omega
    clear V C;go_wp2_with fail;go_ret;exact⟨by rw[E.out];rfl,B⟩
   ·have X:((d:Int)==1)=false:=by rw[beq_eq_false_iff_ne];omega
    clear V C;go_wp2_with fail;go_ret;exact⟨by rw[E.out];rfl,B⟩
def upB:List Int->Bool
 | x::y::r=>decide (x<y)&&upB (y::r)
 | _=>true
theorem jsv:∀ l:List Int,upB l=true↔Up l
 | []=>by simp[upB,Up]
 | [x]=>by simp[upB,Up]
 | x::y::r=>by
  have D:=jsv (y::r);simp only[upB,Bool.and_eq_true,decide_eq_true_eq,D];constructor
  ·rintro⟨B,A⟩
   refine List.pairwise_cons.2 ⟨fun z C=>?_,A⟩;rcases List.mem_cons.1 C with rfl | C
   ·exact B
   ·have:=(List.pairwise_cons.1 A).1 z C;omega
  ·intro h
   obtain⟨B,A⟩:=List.pairwise_cons.1 h;exact⟨B y List.mem_cons_self,A⟩
theorem jm0 (l:List Int):jaH l=(decide (l.length<=64)&&upB l):=by
 rw[Bool.eq_iff_iff,Bool.and_eq_true,decide_eq_true_eq,jsv];exact⟨fun h=>⟨(jcE l h).2,(jcE l h).1⟩,fun h=>jcS l h.2 h.1⟩
theorem jw6 {l:List Int} {k:Nat} {x y:Int} (A:l[k]? = some x) (B:l[k+1]? = some y):upB (l.drop k)=(decide (x<y)&&upB (l.drop (k+1))):=by
 rw[jat A,jat B];rfl
theorem jwk {l:List Int} {k:Nat} (h:l.length<=k+1):upB (l.drop k)=true:=by
 have:(l.drop k).length<=1:=by rw[List.length_drop];omega
 match hl:l.drop k,this with
 | [],_=>rfl
 | [x],_=>rfl
theorem jdv (a:Option Addr) (len cap:Nat) (l:List Int) (w:World) (N:SlE jaG 1 w.heap.size w a len l) (m:len<=maxLen) (X:jc8 l) :
  CR 118 #[.agg #[.slice a len cap]] w (.bool (jaH l)):=by
 have B:=N.1;unfold maxLen at m;obtain⟨M,f,E,D,n⟩:=jaf w #[.slice a len cap] 32;have d:=Lib.hid E;have S:=Lib.hid (N.go D);have U:=Lib.hid X;have T:=Lib.hid B;have A:=Lib.hid D;have J:=Lib.hid (jm0 l);have R:w.heap.size<M.heap.size:=by omega
 clear N D B X;generalize jaH l=bR at J ⊢;have e:M.cell? ⟨w.heap.size,0,none⟩=some (.slice a len cap):=cCc E 0;clear E;go_enter Tryz.func118,Tryz.ntmps118;go_wp2_with fail;go_loopw [3] (fun i wr=>∃ (k:Nat),i=.int .i64 ((k:Int)+1)/\(k<=len)/\(k=0\/k<len)/\Bw M wr/\Hid (upB l=upB (l.drop k))) (fun i _=>len+1-(intOf i).toNat)
 case atStart=>exact⟨0,rfl,Nat.zero_le _,.inl rfl,Below.refl _ _,rfl⟩
 case round =>
  obtain⟨k,rfl,u,h,C,L⟩:=hrel;have o:=C.size;have z:wr.cell? ⟨w.heap.size,0,none⟩=some (.slice a len cap):=(C.cell (p:=⟨w.heap.size,0,none⟩) R).trans e;by_cases O:k+1<len
  ·obtain⟨x,b,off,P,rfl,g,Z⟩:=(S.out.below C).at (j:=k) (by omega)
   obtain⟨y,t,c,Q,G,Y,H⟩:=(S.out.below C).at (j:=k+1) O;injection G with G
   injection G with G e2
   subst G;subst e2;have q:wr.cell? ⟨b,off+k*1+0,none⟩=some (.int .u64 x):=Z 0 (by omega);have r:wr.cell? ⟨b,off+(k+1)*1+0,none⟩=some (.int .u64 y):=H 0 (by omega);simp only[Nat.mul_one,Nat.add_zero] at q r;have V:=Lib.hid (jw6 P Q);obtain⟨u1,u2⟩:=U.out x (List.mem_of_getElem? P);obtain⟨v1,v2⟩:=U.out y (List.mem_of_getElem? Q);have v:(k:Int)+1<(len:Int):=by omega
   clear Z H P Q;by_cases I:x<y
   ·have s:decide (y<=x)=false:=by simp;omega
    have F:Hid (upB l=upB (l.drop (k+1))):=by rw[Hid,L.out,V.out,decide_eq_true I];rfl
    go_wp2_with fail;go_quiet (fail);go_wp2_with fail;go_roundw
    case rel=>exact⟨k+1,by go_num,by omega,.inr (by omega),bDr C _,F.out⟩
    case measure=>simp[intOf];omega
   ·have s:decide (y<=x)=true:=by simp;omega
    have F:Hid (bR=false):=by rw[Hid,J.out,L.out,V.out,decide_eq_false I];simp
    go_wp2_with fail;go_quiet (fail);go_wp2_with fail;go_ret;exact⟨by rw[F.out];rfl,A.out.trans ((bDr C _).mono A.out.size)⟩
  ·have F:Hid (bR=decide ((len:Int)<=64)):=by
    rw[Hid,J.out,L.out,jwk (by rw[<- T.out];omega),Bool.and_true,<- T.out];exact decide_eq_decide.2 (by omega)
   go_wp2_with fail;go_ret;exact⟨by rw[F.out];rfl,A.out.trans (C.mono A.out.size)⟩
theorem jd8 (Z:Option Addr) (A F:Nat) (N:List Int) (a:Option Addr) (B G:Nat) (O:List Int) (w:World) (Q:SlE jaG 1 w.heap.size w Z A N) (R:SlE jaG 1 w.heap.size w a B O) (n:A<=maxLen) :
  CR 37 #[.slice Z A F,.slice a B G] w (.bool (N==O)):=by
 have P:=Q.1;have S:=R.1;unfold maxLen at n;by_cases m:A=B
 ·subst m
  have t:((A:Int) != (A:Int))=false:=by simp
  have d:=Lib.hid P;have f:=Lib.hid S;clear P S;go_enter Tryz.func37,Tryz.ntmps37;go_wp2_with fail;go_loopw [5] (fun i wr=>∃ (k:Nat),i=.int .i64 k/\k<=A/\Bw w wr/\Hid (N.take k=O.take k)) (fun i _=>A-(intOf i).toNat)
  case atStart=>exact⟨0,rfl,Nat.zero_le _,Below.refl _ _,rfl⟩
  case round =>
   obtain⟨k,rfl,u,H,V⟩:=hrel;by_cases L:k<A
   ·obtain⟨x,g,p,M,T,j,I⟩:=(Q.below H).at L
    obtain⟨y,h,q,c,U,l,J⟩:=(R.below H).at L;subst T;subst U;have r:wr.cell? ⟨g,p+k*1+0,none⟩=some (.int .u64 x):=I 0 (by omega);have s:wr.cell? ⟨h,q+k*1+0,none⟩=some (.int .u64 y):=J 0 (by omega);simp only[Nat.mul_one,Nat.add_zero] at r s;have i0:(0:Int)<=(k:Int):=by omega
    have v:(k:Int)<(A:Int):=by omega
    have X:=Lib.hid M;have Y:=Lib.hid c;clear I J M c Q R;by_cases C:x=y
    ·have o:(x != y)=false:=by simp[C]
     have D:Hid (x=y):=C;clear C;go_wp2_with fail;go_quiet (fail);go_wp2_with fail;go_roundw
     case rel=>exact⟨k+1,by go_num,by omega,bDr H _,by rw[Hid,jai X.out,jai Y.out,V.out,D.out]⟩
     case measure=>simp[intOf];omega
    ·have o:(x != y)=true:=by simp[C]
     have D:Hid (¬ x=y):=C;clear C;go_wp2_with fail;go_quiet (fail);go_wp2_with fail;go_ret
     have E:(N==O)=false:=by
      rw[beq_eq_false_iff_ne];intro e;have M:=X.out;rw[e,Y.out] at M;exact D.out (Option.some.inj M).symm
     exact⟨by rw[E];rfl,bDr H _⟩
   ·obtain rfl:k=A:=by omega
    clear Q R;go_wp2_with fail;go_ret;have b:=V.out;rw[List.take_of_length_le (by rw[<- d.out];omega),List.take_of_length_le (by rw[<- f.out];omega)] at b;exact⟨by rw[b];simp,H⟩
 ·have t:((A:Int) != (B:Int))=true:=by rw[bne_iff_ne];omega
  have E:Hid ((N==O)=false):=by
   rw[Hid,beq_eq_false_iff_ne];intro e;rw[e] at P;omega
  clear P S;go_enter Tryz.func37,Tryz.ntmps37;go_wp2_with fail;go_ret;exact⟨by rw[E.out];rfl,Below.refl _ _⟩
theorem jc3 (n:Int) (w:World):Calls Tryz.prog 155 #[.int .i64 n] w fun e w'=>e=.returned (.bool (jbP n))/\w'=w:=by
 have B:Hid (jbP n=(decide (3<=n)&&decide (n<=8))):=rfl;generalize jbP n=b at B ⊢;by_cases C:3<=n
 ·by_cases D:n<=8
  ·have A:Hid (b=true):=by rw[Hid,B.out,decide_eq_true C,decide_eq_true D];rfl
   go_enter Tryz.func155,Tryz.ntmps155;go_wp2_with fail;go_ret;exact⟨by rw[A.out];rfl,rfl⟩
  ·have A:Hid (b=false):=by rw[Hid,B.out,decide_eq_false D,Bool.and_false]
   go_enter Tryz.func155,Tryz.ntmps155;go_wp2_with fail;go_ret;exact⟨by rw[A.out];rfl,rfl⟩
 ·have A:Hid (b=false):=by rw[Hid,B.out,decide_eq_false C,Bool.false_and]
  go_enter Tryz.func155,Tryz.ntmps155;go_wp2_with fail;go_ret;exact⟨by rw[A.out];rfl,rfl⟩
theorem jnB (b:Int) (s:ByteArray):jcC b s=jcB b (jeM s):=by
 have h:s.data.toList=(jeM s).map (·.2):=by
  apply List.ext_getElem?;intro i;by_cases A:i<s.size
  ·simp[jeM,A]
  ·simp[jeM,A]
 unfold jcC jcB;rw[h,List.all_map];rfl
theorem jiy (b:Nat) (c:3<=b) (d:b<=8) (s:ByteArray) (q:Int) (Q:q=2^b) (w:World) :
  CR 119 #[.agg #[.int .i64 b,.string s]] w (.bool ((s.size:Int)==q&&jcC b s)):=by
 obtain⟨L,a,H,G,g⟩:=jaf w #[.int .i64 b,.string s] 34;have E:Hid (∀ w,Calls Tryz.prog 155 #[.int .i64 b] w fun e w'=>e=.returned (.bool true)/\w'=w):=fun w=>(jc3 b w).mono fun e w' ⟨O,M⟩=>⟨by rw[O];simp[jbP];omega,M⟩
 have I:0<=q/\q<=256:=by
  rcases (by omega:b=3\/b=4\/b=5\/b=6\/b=7\/b=8) with rfl | rfl | rfl | rfl | rfl | rfl<;>(rw[Q];decide)
 obtain⟨I,f⟩:=I;have l:IntKind.i64.wrap (2^b)=q:=by rw[<- Q];exact IntWalk.i64_in _ (by omega)
 have J:w.heap.size<L.heap.size:=by omega
 have C:=Lib.hid G;have V:Hid (jcC b s=jcB b (jeM s)):=jnB b s;have U:=Lib.hid (jkF s);obtain⟨Y,Z⟩:=cl2 H;clear H G Q;by_cases D:(s.size:Int)=q
 case neg =>
  have h:((s.size:Int) != q)=true:=by rw[bne_iff_ne];exact D
  have B:Hid (((s.size:Int)==q&&jcC b s)=false):=by rw[Hid,beq_eq_false_iff_ne.2 D];rfl
  generalize ((s.size:Int)==q&&jcC b s)=bR at B ⊢;clear D;go_enter Tryz.func119,Tryz.ntmps119;go_wp2_with fail;go_quiet ((go_at_call 155;exact Calls.quiet_of_same (E.out _)));go_wp2_with fail;go_ret;exact⟨by rw[B.out];rfl,bDr C.out _⟩
 have h:((s.size:Int) != q)=false:=by rw[bne_eq_false_iff_eq];exact D
 have R:s.size<=256:=by omega
 have N:Hid (((s.size:Int)==q&&jcC b s)=jcB b (jeM s)):=by rw[Hid,beq_iff_eq.2 D,Bool.true_and,V.out]
 generalize ((s.size:Int)==q&&jcC b s)=bR at N ⊢;clear D;go_enter Tryz.func119,Tryz.ntmps119;go_wp2_with fail;go_quiet ((go_at_call 155;exact Calls.quiet_of_same (E.out _)));have P:Bw L (L.drewN nq):=bDr (Below.refl _ _) _;go_wp2_with fail;go_loopw [3] (fun i wr=>∃ (k:Nat),i=.int .i64 k/\k<=s.size/\Bw L wr/\Hid (jcB b ((jeM s).take k)=true)) (fun i _=>s.size-(intOf i).toNat)
 case atStart=>exact⟨0,rfl,Nat.zero_le _,P,rfl⟩
 case round =>
  obtain⟨k,rfl,j,F,S⟩:=hrel;have n:wr.cell? ⟨w.heap.size,0,none⟩=some (.int .i64 b):=(F.cell (p:=⟨w.heap.size,0,none⟩) J).trans Y;have o:wr.cell? ⟨w.heap.size,1,none⟩=some (.string s):=(F.cell (p:=⟨w.heap.size,1,none⟩) J).trans Z;by_cases A:k<s.size
  ·have X:=Lib.hid (jnp s k A)
   have m:=UInt8.toNat_lt (s[k]'A)
   have T:Hid (jcB b ((jeM s).take (k+1)) = !decide (65-(b:Int)<((s[k]'A).toNat:Int))):=by
    rw[Hid,jai X.out,jcu,S.out,jgJ,Bool.true_and]
   by_cases ht:65-(b:Int)<((s[k]'A).toNat:Int)
   ·have B:Hid (bR=false):=by
     have O:jcB b ((jeM s).take (k+1))=false:=by rw[T.out,decide_eq_true ht];rfl
     rw[Hid,N.out]
     cases M:jcB b (jeM s) with
     | false=>rfl
     | true =>
      rw[<- List.take_append_drop (k+1) (jeM s),jcu,O] at M
      cases M
    go_wp2_with fail;go_quiet (fail);go_wp2_with fail;go_ret;exact⟨by rw[B.out];rfl,C.out.trans ((bDr F _).mono (by omega))⟩
   ·have B:Hid (jcB b ((jeM s).take (k+1))=true):=by rw[Hid,T.out,decide_eq_false ht];rfl
    go_wp2_with fail;go_quiet (fail);go_wp2_with fail;go_roundw
    case rel=>exact⟨k+1,by go_num,by omega,bDr F _,B.out⟩
    case measure=>simp[intOf];omega
  ·obtain rfl:k=s.size:=by omega
   have B:Hid (bR=true):=by rw[Hid,N.out,<- S.out,List.take_of_length_le (by rw[U.out];exact Nat.le_refl _)]
   go_wp2_with fail;go_ret;exact⟨by rw[B.out];rfl,C.out.trans (F.mono (by omega))⟩
theorem jeR (b:Int) (s:ByteArray) (w:World) :
  CR 119 #[.agg #[.int .i64 b,.string s]] w (.bool (jaT b s)):=by
 cases C:jbP b with
 | true =>
  have hr:3<=b/\b<=8:=by simpa [jbP] using C
  obtain⟨n,rfl⟩:∃ n:Nat,b=n:=⟨b.toNat,by omega⟩;have h:=jiy n (by omega) (by omega) s _ rfl w;have e:jaT n s=((s.size:Int)==2^n&&jcC n s):=by unfold jaT;rw[C,Bool.true_and,Int.toNat_natCast]
  rw[e];exact h
 | false =>
  obtain⟨L,I,B,A,J⟩:=jaf w #[.int .i64 b,.string s] 34;have E:Hid (∀ w,Calls Tryz.prog 155 #[.int .i64 b] w fun e w'=>e=.returned (.bool false)/\w'=w):=fun w=>(jc3 b w).mono fun e w' ⟨G,H⟩=>⟨by rw[G,C],H⟩
  have F:Hid (jaT b s=false):=by unfold jaT;rw[Hid,C];rfl
  have D:=Lib.hid A;obtain⟨M,N⟩:=cl2 B;clear B A C;generalize jaT b s=bR at F ⊢;go_enter Tryz.func119,Tryz.ntmps119;go_wp2_with fail;go_quiet ((go_at_call 155;exact Calls.quiet_of_same (E.out _)));go_wp2_with fail;go_ret;exact⟨by rw[F.out];rfl,bDr D.out _⟩
def jmG (r c:Int):Bool:=(decide (1<=r)&&decide (r<=4))&&(((c==4||c==8)||c==16)||c==32)
theorem jpl (r c:Int) (E:I64 c):jmG r c=jbn r c:=by
 unfold jmG jbn;by_cases h:4<=c/\c<=32
 ·obtain⟨C,D⟩:=h
  obtain⟨n,rfl⟩:∃ n:Nat,c=n:=⟨c.toNat,by omega⟩;have key:∀ n∈List.range 33,4<=n->((((n:Int)==4||(n:Int)==8)||(n:Int)==16)||(n:Int)==32)=(bits .and .i64 (n:Int) ((n:Int)-1)==0):=by decide +kernel
  rw[key n (List.mem_range.2 (by omega)) (by omega),decide_eq_true C,decide_eq_true D,Bool.and_true,Bool.and_true]
 ·have A:(((c==4||c==8)||c==16)||c==32)=false:=by simp;omega
  have B:(decide (4<=c)&&decide (c<=32))=false:=by simp;omega
  rw[A,Bool.and_false,Bool.and_assoc (decide (1<=r)&&decide (r<=4)),B,Bool.and_false,Bool.false_and]
theorem jg9 (r c:Int) (w:World):Calls Tryz.prog 131 #[.int .i64 r,.int .i64 c] w fun e w'=>e=.returned (.bool (jmG r c))/\w'=w:=by
 by_cases I:1<=r
 case neg =>
  have A:Hid (jmG r c=false):=by rw[Hid,jmG,decide_eq_false I];rfl
  generalize jmG r c=b at A ⊢;go_enter Tryz.func131,Tryz.ntmps131;go_wp2_with fail;go_ret;exact⟨by rw[A.out];rfl,rfl⟩
 by_cases J:r<=4
 case neg =>
  have A:Hid (jmG r c=false):=by rw[Hid,jmG,decide_eq_false J,Bool.and_false];rfl
  generalize jmG r c=b at A ⊢;go_enter Tryz.func131,Tryz.ntmps131;go_wp2_with fail;go_ret;exact⟨by rw[A.out];rfl,rfl⟩
 have A:Hid (jmG r c=(((c==4||c==8)||c==16)||c==32)):=by rw[Hid,jmG,decide_eq_true I,decide_eq_true J];rfl
 generalize jmG r c=b at A ⊢;by_cases E:c=4
 ·have C:Hid (b=true):=by rw[Hid,A.out,E];rfl
  clear A;subst E;go_enter Tryz.func131,Tryz.ntmps131;go_wp2_with fail;go_ret;exact⟨by rw[C.out];rfl,rfl⟩
 by_cases F:c=8
 ·have C:Hid (b=true):=by rw[Hid,A.out,F];rfl
  clear A E;subst F;go_enter Tryz.func131,Tryz.ntmps131;go_wp2_with fail;go_ret;exact⟨by rw[C.out];rfl,rfl⟩
 by_cases B:c=16
 ·have C:Hid (b=true):=by rw[Hid,A.out,B];rfl
  clear A E F;subst B;go_enter Tryz.func131,Tryz.ntmps131;go_wp2_with fail;go_ret;exact⟨by rw[C.out];rfl,rfl⟩
 have L:(c==4)=false:=beq_eq_false_iff_ne.2 E;have M:(c==8)=false:=beq_eq_false_iff_ne.2 F;have G:(c==16)=false:=beq_eq_false_iff_ne.2 B;by_cases D:c=32
 ·have C:Hid (b=true):=by rw[Hid,A.out,D];rfl
  clear A E F B L M G;subst D;go_enter Tryz.func131,Tryz.ntmps131;go_wp2_with fail;go_ret;exact⟨by rw[C.out];rfl,rfl⟩
 ·have H:(c==32)=false:=beq_eq_false_iff_ne.2 D
  have C:Hid (b=false):=by rw[Hid,A.out,L,M,G,H];rfl
  clear A E F B D;go_enter Tryz.func131,Tryz.ntmps131;go_wp2_with fail;go_ret;exact⟨by rw[C.out];rfl,rfl⟩
theorem jbW (r c:Int) (a:Option Addr) (len cap:Nat) (l:List Int) (w:World) (N:I64 c) (B:len=l.length) :
  CR 120 #[.agg #[.int .i64 r,.int .i64 c,.slice a len cap]] w (.bool (jaN r c l)):=by
 obtain⟨T,M,G,F,O⟩:=jaf w #[.int .i64 r,.int .i64 c,.slice a len cap] 36;have A:Hid (∀ w,Calls Tryz.prog 131 #[.int .i64 r,.int .i64 c] w fun e w'=>e=.returned (.bool (jmG r c))/\w'=w):=fun w=>jg9 r c w
 have D:=Lib.hid F;have E:Hid (jaN r c l=(jmG r c&&((len:Int)==r*c))):=by rw[Hid,jaN,jpl r c N,B]
 obtain⟨V,X,Y⟩:=cl3 G;clear G F B;generalize jaN r c l=bR at E ⊢
 cases C:jmG r c with
 | false =>
  rw[C] at A;have I:Hid (bR=false):=by rw[Hid,E.out,C];rfl
  clear C E;go_enter Tryz.func120,Tryz.ntmps120;go_wp2_with (go_at_call 131;refine (A.out _).mono ?_;rintro e S ⟨rfl,rfl⟩);go_ret;exact⟨by rw[I.out];rfl,D.out⟩
 | true =>
  rw[C] at A
  have L:1<=r/\r<=4/\4<=c/\c<=32:=by
   simp only[jmG,Bool.and_eq_true,Bool.or_eq_true,decide_eq_true_eq,beq_iff_eq] at C;omega
  obtain⟨b,R,U,J⟩:=L
  have H:0<=r*c/\r*c<=128:=by
   refine⟨Int.mul_nonneg (by omega) (by omega),?_⟩
   calc r*c<=4*c:=Int.mul_le_mul_of_nonneg_right R (by omega)
    _<=128:=by omega
  obtain⟨P,Q⟩:=H;have I:Hid (bR=((len:Int)==r*c)):=by rw[Hid,E.out,C];rfl
  generalize hrc:r*c=rc at I P Q;have Z:IntKind.i64.wrap (r*c)=rc:=by rw[hrc];exact IntWalk.i64_in _ (by omega)
  clear C E;go_enter Tryz.func120,Tryz.ntmps120;go_wp2_with (go_at_call 131;refine (A.out _).mono ?_;rintro e S ⟨rfl,rfl⟩);go_ret;exact⟨by rw[I.out];rfl,D.out⟩
theorem jje (P L:Int) (I:Option Addr) (A C:Nat) (N:List Int) (Q M:Int) (J:Option Addr) (B D:Nat) (O:List Int) (w:World) (T:SlE jaG 1 w.heap.size w I A N) (U:SlE jaG 1 w.heap.size w J B O) (Y:A<=maxLen) :
  CR 38 #[.agg #[.int .i64 P,.int .i64 L,.slice I A C],.agg #[.int .i64 Q,.int .i64 M,.slice J B D]] w (.bool ((P==Q&&L==M)&&N==O)):=by
 obtain⟨V,X,G,H,F,Z⟩:=jaI w #[.int .i64 P,.int .i64 L,.slice I A C] 36 #[.int .i64 Q,.int .i64 M,.slice J B D] 36;have S:=Lib.hid (jd8 I A C N J B D O V (T.go F) (U.go F) Y);have E:=Lib.hid F;obtain⟨a,b,c⟩:=cl3 G;obtain⟨d,f,g⟩:=cl3 H;clear G H F T U;generalize (N==O)=bl at S ⊢
 cases hr:(P==Q) with
 | false =>
  go_enter Tryz.func38,Tryz.ntmps38;go_wp2_with fail;go_ret;exact⟨rfl,E.out⟩
 | true =>
  cases h:(L==M) with
  | false =>
   go_enter Tryz.func38,Tryz.ntmps38;go_wp2_with fail;go_ret;exact⟨rfl,E.out⟩
  | true =>
   go_enter Tryz.func38,Tryz.ntmps38;go_wp2_with (go_at_call 37;refine S.out.mono ?_;rintro e i ⟨rfl,R⟩);go_ret;exact⟨rfl,E.out.trans (R.mono E.out.size)⟩
end
end Go.Proofs.YtafhpamnegmilaaGreatDoor

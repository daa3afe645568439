/- The references of layers 2 and 4 in plain data: texts compared byte by byte, runes one by one, names, values. No program in sight. The reference of layer 2: Least. The reference of layer 4: isName, Size. The references of layers 6 to 8: Right, Numbers, Same. The references of layers 7 and 8: Right, Same. The reference of layer 8: Right, Same. The reference of layer 8: Plus, New, Col, Add, Merge, Lower, Count, at counters that are right. -/
import Derived.Lib.MapLaws
import Derived.Lib.ValidLaws
import Derived.Shelf.Strings.MapAny
import Derived.RegionIn
import Derived.Test.YtieknocphiceoaaGreatDoorZV1
namespace Go.Proofs.YtieknocphiceoaaGreatDoor
open Go Go.RowKit
def jdg:List UInt8->List UInt8->Int
 | [],[]=>0
 | [],_::_ => -1
 | _::_,[]=>1
 | a::x,b::y=>if a<b then -1 else if b<a then 1 else jdg x y
theorem jeS:∀ x y:List UInt8,decide (jdg x y<0)=Op.bytesLess x y
 | [],[]=>rfl
 | [],_::_=>rfl
 | _::_,[]=>rfl
 | a::x,b::y=>by
  have ih:=jeS x y;simp only[jdg,Op.bytesLess];by_cases h1:a<b
  ·simp[h1]
  ·by_cases h2:b<a
   ·have h3:(a==b)=false:=by rw[beq_eq_false_iff_ne];rintro rfl;exact UInt8.lt_irrefl _ h2
    simp[h1,h2,h3]
   ·have h3:a=b:=UInt8.le_antisymm (UInt8.not_lt.1 h2) (UInt8.not_lt.1 h1)
    subst h3;simp only[h1,if_false,decide_false,beq_self_eq_true,Bool.true_and,Bool.false_or];exact ih
theorem jfc:∀ x y:List UInt8,jdg x y=0↔x=y
 | [],[]=>⟨fun _=>rfl,fun _=>rfl⟩
 | [],_::_=>⟨fun h=>by simp[jdg] at h,fun h=>by cases h⟩
 | _::_,[]=>⟨fun h=>by simp[jdg] at h,fun h=>by cases h⟩
 | a::x,b::y=>by
  have ih:=jfc x y;simp only[jdg];by_cases h1:a<b
  ·rw[if_pos h1]
   exact⟨fun h=>by omega,fun h=>by injection h with h2;subst h2;exact absurd h1 (UInt8.lt_irrefl _)⟩
  ·rw[if_neg h1]
   by_cases h2:b<a
   ·rw[if_pos h2]
    exact⟨fun h=>by omega,fun h=>by injection h with h3;subst h3;exact absurd h2 (UInt8.lt_irrefl _)⟩
   ·rw[if_neg h2,ih]
    have h3:a=b:=UInt8.le_antisymm (UInt8.not_lt.1 h2) (UInt8.not_lt.1 h1);subst h3;exact⟨fun h=>by rw[h],fun h=>by injection h⟩
def jhe (l:List UInt8):Bool:=(Lib.decodeL l).1==65533&&(Lib.decodeL l).2==1
theorem jhQ (l:List UInt8):jhe l=true↔(Lib.decodeL l).1=65533/\(Lib.decodeL l).2=1:=by unfold jhe;simp
theorem jf9 (l:List UInt8) (k:Nat):(k<l.length->(l++[120]).getD k 0=l.getD k 0)/\(¬ k<l.length->((l++[120]).getD k 0).toNat / 64≠2):=by
 constructor
 ·intro h
  rw[List.getD_eq_getElem?_getD,List.getD_eq_getElem?_getD,List.getElem?_append_left h]
 ·intro h
  rw[List.getD_eq_getElem?_getD,List.getElem?_append_right (by omega)];rcases Nat.eq_zero_or_pos (k-l.length) with h1 | h1
  ·rw[h1];decide
  ·rw[List.getElem?_eq_none (by simp;omega)];decide
theorem jmL (l:List UInt8) (hne:l≠[]):Lib.decodeL (l++[120])=Lib.decodeL l:=by
 have hl:0<l.length:=List.length_pos_iff.2 hne;rw[Lib.decodeL_N,Lib.decodeL_N,List.length_append,List.length_singleton,(jf9 l 0).1 hl];have a1:=jf9 l 1;have a2:=jf9 l 2;have a3:=jf9 l 3;have z:∀ k,¬ k<l.length->(l.getD k 0).toNat / 64≠2:=fun k hk=>by rw[List.getD_eq_getElem?_getD,List.getElem?_eq_none (by omega)];decide
 have key:∀ k,((l++[120]).getD k 0).toNat / 64=2->k<l.length:=fun k hk=>by
  by_cases h:k<l.length
  ·exact h
  ·exact absurd hk ((jf9 l k).2 h)
 have e:∀ k,(k<l.length+1/\((l++[120]).getD k 0).toNat / 64=2)=(k<l.length/\(l.getD k 0).toNat / 64=2):=fun k=>propext ⟨fun h=>⟨key k h.2,by rw[<- (jf9 l k).1 (key k h.2)];exact h.2⟩,fun h=>⟨by omega,by rw[(jf9 l k).1 h.1];exact h.2⟩⟩
 unfold Lib.decodeN;simp only[e 1,e 2,e 3];by_cases h1:1<l.length
 ·rw[a1.1 h1]
  by_cases h2:2<l.length
  ·rw[a2.1 h2]
   by_cases h3:3<l.length
   ·rw[a3.1 h3]
   ·simp[h3]
  ·simp[h2]
 ·simp[h1]
theorem jdh (l:List UInt8):((l.getD 0 0).toNat<128/\Lib.decodeL l=((l.getD 0 0).toNat,1))\/(128<=(l.getD 0 0).toNat/\128<=(Lib.decodeL l).1/\2<=(Lib.decodeL l).2/\∀ k,k<(Lib.decodeL l).2->128<=(l.getD k 0).toNat)\/(128<=(l.getD 0 0).toNat/\Lib.decodeL l=(65533,1)):=by
 rw[Lib.decodeL_N];have k0:=(l.getD 0 0).toNat_lt;by_cases h0:(l.getD 0 0).toNat<128
 ·left
  refine⟨h0,?_⟩;unfold Lib.decodeN;rw[if_pos h0]
 ·right
  rcases Lib.decodeN_shape l.length (l.getD 0 0).toNat (l.getD 1 0).toNat (l.getD 2 0).toNat (l.getD 3 0).toNat with⟨c,e⟩ | ⟨c1,c2,c3,cv,e⟩ | ⟨c1,c2,c3,c4,cv,cs,e⟩ | ⟨c1,c2,c3,c4,c5,cv,cw,e⟩ | e
  ·omega
  ·left
   rw[e];refine⟨by omega,cv,Nat.le_refl _,fun k hk=>?_⟩;dsimp only at hk;rcases (by omega:k=0\/k=1) with rfl | rfl<;>omega
  ·left
   rw[e];refine⟨by omega,by dsimp only;omega,by omega,fun k hk=>?_⟩;dsimp only at hk;rcases (by omega:k=0\/k=1\/k=2) with rfl | rfl | rfl<;>omega
  ·left
   rw[e];refine⟨by omega,by dsimp only;omega,by omega,fun k hk=>?_⟩;dsimp only at hk;rcases (by omega:k=0\/k=1\/k=2\/k=3) with rfl | rfl | rfl | rfl<;>omega
  ·right
   exact⟨by omega,e⟩
theorem jm4 (l:List UInt8) (h:(Lib.decodeL l).1=65533):jhe l=true\/((Lib.decodeL l).2=3/\2<l.length/\(l.getD 0 0).toNat=239/\(l.getD 1 0).toNat=191/\(l.getD 2 0).toNat=189):=by
 rw[jhQ];rw[Lib.decodeL_N] at h ⊢;have k0:=(l.getD 0 0).toNat_lt;have k1:=(l.getD 1 0).toNat_lt;have k2:=(l.getD 2 0).toNat_lt;rcases Lib.decodeN_shape l.length (l.getD 0 0).toNat (l.getD 1 0).toNat (l.getD 2 0).toNat (l.getD 3 0).toNat with⟨c,e⟩ | ⟨c1,c2,c3,cv,e⟩ | ⟨c1,c2,c3,c4,cv,cs,e⟩ | ⟨c1,c2,c3,c4,c5,cv,cw,e⟩ | e
 ·rw[e] at h;dsimp only at h;omega
 ·rw[e] at h;dsimp only at h;omega
 ·right
  rw[e] at h ⊢;dsimp only at h ⊢;exact⟨rfl,c2,by omega,by omega,by omega⟩
 ·rw[e] at h;dsimp only at h;omega
 ·left;rw[e];exact⟨rfl,rfl⟩
theorem jmX (l:List UInt8) (h0:2<l.length) (h1:(l.getD 0 0).toNat=239) (h2:(l.getD 1 0).toNat=191) (h3:(l.getD 2 0).toNat=189):Lib.decodeL l=(65533,3):=by
 rw[Lib.decodeL_N,h1,h2,h3];unfold Lib.decodeN;have h4:1<l.length:=by omega
 simp[h0,h4]
theorem joq (s:ByteArray) (pos:Nat) (h:pos<s.size):jd1 s (pos,((Utf8.decode s pos).1:Int))=jhe (s.data.toList.drop pos):=by
 unfold jd1 jhe;rw[Lib.decodeGo_extract s pos h,Lib.decodeL_drop];dsimp only
 have e1:(((Utf8.decode s pos).1:Int)==65533)=((Utf8.decode s pos).1==65533):=by
  by_cases h1:(Utf8.decode s pos).1=65533
  ·rw[h1];rfl
  ·rw[beq_eq_false_iff_ne.2 h1,beq_eq_false_iff_ne];omega
 have e2:(((Utf8.decode s pos).2:Int)==1)=((Utf8.decode s pos).2==1):=by
  by_cases h1:(Utf8.decode s pos).2=1
  ·rw[h1];rfl
  ·rw[beq_eq_false_iff_ne.2 h1,beq_eq_false_iff_ne];omega
 rw[e1,e2]
def jeU (s:ByteArray) (pos:Nat):Bool:=(rl s pos).all fun p => !jd1 s p
theorem jgn (s:ByteArray) (pos:Nat) (h:pos<s.size):jeU s pos=(!jhe (s.data.toList.drop pos)&&jeU s (pos+(Lib.decodeL (s.data.toList.drop pos)).2)):=by
 unfold jeU;rw[jd0 s pos h,List.all_cons,joq s pos h,Lib.decodeL_drop]
theorem jlS (s:ByteArray) (pos:Nat) (h:¬ pos<s.size):jeU s pos=true:=by
 unfold jeU;rw[jej s pos h];rfl
def jbt (b:UInt8):Bool:=decide (97<=b.toNat)&&decide (b.toNat<=122)
def jbS (b:UInt8):Bool:=decide (32<=b.toNat)&&b.toNat != 127
theorem jiU (s:ByteArray) (pos n:Nat) (h:pos<s.size) (hn:n≠0):∃ t,s.data.toList.drop pos=(s.data.toList.drop pos).getD 0 0::t/\t.drop (n-1)=s.data.toList.drop (pos+n):=by
 have h1:pos<s.data.toList.length:=by rw[Array.length_toList];exact h
 rw[List.drop_eq_getElem_cons h1];refine⟨_,rfl,?_⟩;rw[List.drop_drop];congr 1;omega
theorem jgJ (f:Int->Bool) (g:UInt8->Bool) (ha:∀ b:UInt8,b.toNat<128->f (b.toNat:Int)=g b) (c:Bool) (hf:∀ r:Nat,128<=r->f (r:Int)=c) (hg:∀ b:UInt8,128<=b.toNat->g b=c) (s:ByteArray) :
  ∀ (k pos:Nat),s.size-pos<=k->((rl s pos).all fun p=>f p.2)=(s.data.toList.drop pos).all g:=by
 intro k
 induction k with
 | zero =>
  intro pos hk;have h1:¬ pos<s.size:=by omega
  rw[jej s pos h1,List.drop_eq_nil_of_le (by rw[Array.length_toList];exact Nat.not_lt.1 h1)];rfl
 | succ k ih =>
  intro pos hk;by_cases h1:pos<s.size
  ·rw[jd0 s pos h1,List.all_cons]
   have hd:=Lib.decodeL_drop s pos;have hp:=jdM s pos h1;rw[ih _ (by omega),<- hd];rw[<- hd] at hp;dsimp only;obtain⟨t,e,e2⟩:=jiU s pos (Lib.decodeL (s.data.toList.drop pos)).2 h1 (by omega);rw[<- e2];have el:(s.data.toList.drop pos).length=s.size-pos:=by rw[List.length_drop,Array.length_toList];rfl
   have key:∀ n,(∀ j,j<n->128<=((s.data.toList.drop pos).getD j 0).toNat)->1<=n->(c&&(t.drop (n-1)).all g)=(g ((s.data.toList.drop pos).getD 0 0)&&t.all g):=by
    intro n hn h1n
    have hl:∀ j,j<n-1->128<=(t.getD j 0).toNat:=by
     intro j hj;have:=hn (j+1) (by omega);rw[e,List.getD_cons_succ] at this;exact this
    rw[hg _ (hn 0 (by omega))];generalize n-1=m at hl;clear e e2 hn
    induction m generalizing t with
    | zero=>rfl
    | succ m ihm =>
     cases t with
     | nil=>rfl
     | cons y t' =>
      rw[List.drop_succ_cons,ihm t' (fun j hj=>by have:=hl (j+1) (by omega);rwa [List.getD_cons_succ] at this),List.all_cons,hg y (hl 0 (by omega)),<- Bool.and_assoc,Bool.and_self]
   rcases jdh (s.data.toList.drop pos) with⟨h2,h3⟩ | ⟨h2,h3,h4,h5⟩ | ⟨h2,h3⟩
   ·rw[h3]
    dsimp only;rw[ha _ h2,e,List.all_cons,List.getD_cons_zero];rfl
   ·rw[hf _ h3]
    conv=>rhs;rw[e,List.all_cons]
    exact key _ h5 (by omega)
   ·rw[h3]
    dsimp only
    conv=>rhs;rw[e,List.all_cons]
    rw[hf 65533 (by omega)]
    exact key 1 (fun j hj => by have : j = 0 := by omega
                                rw [this]; exact h2) (Nat.le_refl 1)
  ·rw[jej s pos h1,List.drop_eq_nil_of_le (by rw[Array.length_toList];exact Nat.not_lt.1 h1)]
   rfl
theorem jlR (s:ByteArray):jbD s=(s.size != 0&&decide (s.size<=12)&&s.data.toList.all jbt):=by
 unfold jbD;rw[jgJ jbq jbt (fun b h=>by unfold jbq jbt;congr 1<;>exact decide_eq_decide.2 (by omega)) false (fun r h=>by unfold jbq;simp;omega) (fun b h=>by unfold jbt;simp;omega) s s.size 0 (by omega),List.drop_zero]
theorem jn9 (s:ByteArray):((rl s 0).all fun p=>ja6 p.2)=s.data.toList.all jbS:=by
 rw[jgJ ja6 jbS (fun b h=>by unfold ja6 jbS;congr 1;exact decide_eq_decide.2 (by omega);rw[Bool.eq_iff_iff];simp;omega) true (fun r h=>by unfold ja6;simp;omega) (fun b h=>by unfold jbS;simp;omega) s s.size 0 (by omega),List.drop_zero]
theorem jhY (s:ByteArray) (pos:Nat):(s.data.toList.drop pos).length=s.size-pos:=by rw[List.length_drop,Array.length_toList];rfl
def jsA (l:List UInt8):Bool:=(Lib.decodeL l).1==65533&&(decide (l.length<3)||l.take 3 != [239,191,189])
theorem jq1 (l:List UInt8):jsA l=jhe l:=by
 unfold jsA;by_cases h:(Lib.decodeL l).1=65533
 ·rcases jm4 l h with h1 | ⟨h1,h2,h3,h4,h5⟩
  ·rw[h1]
   obtain⟨-,h2⟩:=(jhQ l).1 h1;rw[h];by_cases h3:l.length<3
   ·simp[h3]
   ·have:l.take 3≠[239,191,189]:=by
     intro e;rcases l with _ | ⟨a,_ | ⟨b,_ | ⟨c,t⟩⟩⟩
     ·exact h3 (by simp)
     ·exact h3 (by simp)
     ·exact h3 (by simp)
     ·simp only[List.take_succ_cons,List.take_zero,List.cons.injEq,and_true] at e
      obtain⟨rfl,rfl,rfl⟩:=e;have:=jmX (239::191::189::t) (by simp) rfl rfl rfl;rw[this] at h2;exact absurd h2 (by decide)
    simp[this]
  ·have e1:jhe l=false:=by unfold jhe;rw[h1];simp
   have e2:l.take 3=[239,191,189]:=by
    rcases l with _ | ⟨a,_ | ⟨b,_ | ⟨c,t⟩⟩⟩
    ·exact absurd h2 (by simp)
    ·exact absurd h2 (by simp)
    ·exact absurd h2 (by simp)
    ·simp only[List.getD_cons_zero,List.getD_cons_succ] at h3 h4 h5
     simp only[List.take_succ_cons,List.take_zero,List.cons.injEq,and_true];exact⟨UInt8.toNat_inj.1 h3,UInt8.toNat_inj.1 h4,UInt8.toNat_inj.1 h5⟩
   rw[e1,h,e2];have:¬ l.length<3:=by omega
   simp[this]
 ·unfold jhe
  rw[beq_eq_false_iff_ne.2 h];rfl
theorem jkp (l:List UInt8) (hne:l≠[]) (h:jhe l=false):1<=(Lib.decodeL l).2/\(Lib.decodeL l).2<=l.length/\¬ ((Lib.decodeL l).2=1/\128<=(l.getD 0 0).toNat):=by
 have hl:0<l.length:=List.length_pos_iff.2 hne;refine⟨?_,?_,?_⟩
 ·rcases jdh l with⟨-,e⟩ | ⟨-,-,e,-⟩ | ⟨-,e⟩
  ·rw[e];exact Nat.le_refl _
  ·omega
  ·rw[e];exact Nat.le_refl _
 ·rcases jdh l with⟨-,e⟩ | ⟨-,-,e,h5⟩ | ⟨-,e⟩
  ·rw[e];exact hl
  ·apply Nat.le_of_not_lt
   intro hlt;have:=h5 l.length hlt;rw[List.getD_eq_getElem?_getD,List.getElem?_eq_none (Nat.le_refl _)] at this;exact absurd this (by decide)
  ·rw[e];exact hl
 ·rintro⟨e1,e2⟩
  rcases jdh l with⟨h1,-⟩ | ⟨-,-,e,-⟩ | ⟨-,e⟩
  ·omega
  ·omega
  ·unfold jhe at h
   rw[e] at h;exact absurd h (by decide)
theorem jpt (x y:List UInt8):decide (0<=jdg x y)=(Op.bytesLess y x||y==x):=by
 have h1:=jeS x y;by_cases h:jdg x y<0
 ·have h2:Op.bytesLess x y=true:=by rw[<- h1];simpa using h
  have h3:Op.bytesLess y x=false:=by
   cases h4:Op.bytesLess y x
   ·rfl
   ·have:=joR x y x h2 h4
    rw[jiO] at this;exact absurd this (by decide)
  have h5:(y==x)=false:=by
   rw[beq_eq_false_iff_ne];rintro rfl;rw[jiO] at h2;exact absurd h2 (by decide)
  rw[h3,h5];simp;omega
 ·have h2:Op.bytesLess x y=false:=by rw[<- h1];simp;omega
  have h0:decide (0<=jdg x y)=true:=by simp;omega
  rw[h0]
  cases h4:Op.bytesLess y x
  ·have:=jp5 x y h2 h4
   rw[this];simp
  ·rfl
theorem jjh (n:Nat):decide (1<=n)=(n != 0):=by cases n with | zero=>rfl | succ n=>simp
def jbN (s:ByteArray):Bool:=s.data.toList.all jbt&&(decide (1<=s.size)&&decide (s.size<=12))
def jbh (s:ByteArray):Bool:=s.data.toList.all jbS&&(jbc s&&decide ((rl s 0).length<=24))
theorem jk4 (s:ByteArray):jbN s=jbD s:=by
 rw[jlR];unfold jbN;have:=jjh s.size;rw[this,Bool.and_comm]
theorem jjJ (s:ByteArray):jbh s=jbs s:=by
 unfold jbh jbs jcT;rw[jn9,Bool.and_comm]
 cases jbc s
 ·rfl
 ·congr 2
  exact decide_eq_decide.2 (by rw[if_pos rfl];omega)
def jce:Option ByteArray->List Lab->Bool
 | _,[]=>true
 | none,x::xs=>jbN x.name&&jbh x.value&&jce (some x.name) xs
 | some b,x::xs=>jbN x.name&&jbh x.value && !decide (0<=jdg b.data.toList x.name.data.toList)&&jce (some x.name) xs
theorem jke (b:ByteArray) (ls:List Lab):jce (some b) ls=jdv b ls:=by
 induction ls generalizing b with
 | nil=>rfl
 | cons x xs ih =>
  show (jbN x.name&&jbh x.value && !decide (0<=jdg b.data.toList x.name.data.toList)&&jce (some x.name) xs)=((jbD x.name && !jiv x.name b&&jbs x.value)&&jdv x.name xs);rw[ih,jk4,jjJ,jpt];unfold jiv;rw[Lib.toList_data,Lib.toList_data];congr 1
  cases jbD x.name<;>cases jbs x.value<;>simp
theorem jkd (ls:List Lab):jce none ls=jdv (⟨#[]⟩:ByteArray) ls:=by
 cases ls with
 | nil=>rfl
 | cons x xs =>
  show (jbN x.name&&jbh x.value&&jce (some x.name) xs)=((jbD x.name && !jiv x.name (⟨#[]⟩:ByteArray)&&jbs x.value)&&jdv x.name xs);rw[jke,jk4,jjJ];congr 1
  cases h:jbD x.name
  ·rfl
  ·have h1:x.name.size≠0:=by
    unfold jbD at h;intro e;rw[e] at h;exact absurd h (by simp)
   have h2:jiv x.name (⟨#[]⟩:ByteArray)=false:=by
    unfold jiv;rw[Lib.toList_data,Lib.toList_data]
    have h3:x.name.data.toList≠[]:=by
     intro e;apply h1;show x.name.data.size=0;rw[<- Array.length_toList,e];rfl
    cases e:x.name.data.toList with
    | nil=>exact absurd e h3
    | cons a t=>rfl
   rw[h2];simp
def ji8 (ls:List Lab):Bool:=jce none ls&&(decide (1<=ls.length)&&decide (ls.length<=6))
theorem ji9 (ls:List Lab):ji8 ls=jar ls:=by
 unfold ji8 jar;rw[jkd];have:=jjh ls.length;rw[this,Bool.and_comm]
def jdx (x y:Lab):Int:=if jdg x.name.data.toList y.name.data.toList=0 then jdg x.value.data.toList y.value.data.toList else jdg x.name.data.toList y.name.data.toList
def jbI:List Lab->List Lab->Bool
 | x::xs,y::ys=>if jdx x y=0 then jbI xs ys else decide (jdx x y<0)
 | xs,ys=>decide (xs.length<ys.length)
theorem jeR (a b:ByteArray):jdg a.data.toList b.data.toList=0↔a=b:=by
 have:=jfc a.data.toList b.data.toList;constructor
 ·intro h
  exact ByteArray.ext (Array.ext' (this.1 h))
 ·rintro rfl
  exact (jfc _ _).2 rfl
theorem jgf:∀ xs ys:List Lab,jbI xs ys=jau xs ys
 | [],[]=>rfl
 | [],y::ys=>by simp[jbI,jau]
 | x::xs,[]=>by simp[jbI,jau]
 | x::xs,y::ys=>by
  have ih:=jgf xs ys;unfold jbI jau jdx;by_cases h1:x.name=y.name
  ·rw[if_pos ((jeR _ _).2 h1)]
   by_cases h2:x.value=y.value
   ·rw[if_pos ((jeR _ _).2 h2),if_pos ⟨h1,h2⟩,ih]
   ·rw[if_neg (fun e=>h2 ((jeR _ _).1 e)),if_neg (fun e=>h2 e.2),if_neg (fun e=>e h1),jeS,Lib.toList_data,Lib.toList_data]
  ·have h3:¬ jdg x.name.data.toList y.name.data.toList=0:=fun e=>h1 ((jeR _ _).1 e)
   rw[if_neg h3,if_neg h3,if_neg (fun e=>h1 e.1),if_pos h1,jeS,Lib.toList_data,Lib.toList_data]
def jaO (l:List UInt8):List UInt8:=l.flatMap fun b=>if b=44\/b=92 then [92,b] else [b]
theorem jjp (l:List UInt8) (h:∀ b∈l,128<=b.toNat):jaO l=l:=by
 induction l with
 | nil=>rfl
 | cons b t ih =>
  have hb:=h b (by simp);have:¬ (b=44\/b=92):=by rintro (rfl | rfl)<;>exact absurd hb (by decide)
  unfold jaO;rw[List.flatMap_cons,if_neg this];show [b]++jaO t=b::t;rw[ih (fun x hx=>h x (by simp[hx]))];rfl
theorem jjq (s:ByteArray):∀ (k pos:Nat),s.size-pos<=k->jeU s pos=true->jaH (rl s pos)=jaO (s.data.toList.drop pos):=by
 intro k
 induction k with
 | zero =>
  intro pos hk _;have h1:¬ pos<s.size:=by omega
  rw[jej s pos h1,List.drop_eq_nil_of_le (by rw[Array.length_toList];exact Nat.not_lt.1 h1)];rfl
 | succ k ih =>
  intro pos hk hok;by_cases h1:pos<s.size
  ·rw[jgn s pos h1,Bool.and_eq_true] at hok
   obtain⟨hb,hok⟩:=hok;have hb:jhe (s.data.toList.drop pos)=false:=by simpa using hb
   have hne:s.data.toList.drop pos≠[]:=by
    intro e;have:=jhY s pos;rw[e] at this;exact absurd this (by simp;omega)
   obtain⟨z1,z2,z3⟩:=jkp _ hne hb;have hd:=Lib.decodeL_drop s pos;have henc:=Lib.encode_decode;rw[jd0 s pos h1];rw[<- hd];unfold jaH;rw[List.flatMap_cons];have ih':=ih _ (by omega) hok;unfold jaH at ih';rw[ih']
   have split:jaO (s.data.toList.drop pos)=jaO ((s.data.toList.drop pos).take (Lib.decodeL (s.data.toList.drop pos)).2)++jaO ((s.data.toList.drop (pos+(Lib.decodeL (s.data.toList.drop pos)).2))):=by
    unfold jaO;rw[<- List.flatMap_append,<- List.drop_drop,List.take_append_drop]
   rw[split];congr 1;dsimp only;rw[henc _ hne (by rw[<- jhQ,hb];decide)];rcases jdh (s.data.toList.drop pos) with⟨h2,h3⟩ | ⟨h2,h3,h4,h5⟩ | ⟨h2,h3⟩
   ·rw[h3]
    obtain⟨t,e,-⟩:=jiU s pos 1 h1 (by decide);generalize (s.data.toList.drop pos).getD 0 0=b at h2 e ⊢;rw[e];show (if ((b.toNat:Int)==44||(b.toNat:Int)==92)=true then [92] else [])++[b]=jaO [b];unfold jaO;rw[List.flatMap_cons,List.flatMap_nil,List.append_nil];by_cases h6:b=44\/b=92
    ·rw[if_pos h6]
     rcases h6 with rfl | rfl<;>rfl
    ·rw[if_neg h6,if_neg]
     ·rfl
     ·intro h7
      apply h6;rcases Bool.or_eq_true _ _▸h7 with h8 | h8
      ·left
       have:=of_decide_eq_true (p:=(b.toNat:Int)=44) (by simpa using h8);exact UInt8.toNat_inj.1 (by show b.toNat=44;omega)
      ·right
       have:=of_decide_eq_true (p:=(b.toNat:Int)=92) (by simpa using h8);exact UInt8.toNat_inj.1 (by show b.toNat=92;omega)
   ·rw[jjp]
    ·rw[if_neg,List.nil_append]
     intro h7;rcases (by simpa using h7:((Lib.decodeL (s.data.toList.drop pos)).1:Int)=44\/((Lib.decodeL (s.data.toList.drop pos)).1:Int)=92) with h8 | h8<;>omega
    ·intro b hbm
     obtain⟨j,hj,rfl⟩:=List.mem_take_iff_getElem.1 hbm;have:=h5 j (by omega);rwa [List.getD_eq_getElem?_getD,List.getElem?_eq_getElem (by omega),Option.getD_some] at this
   ·unfold jhe at hb
    rw[h3] at hb;exact absurd hb (by decide)
  ·rw[jej s pos h1,List.drop_eq_nil_of_le (by rw[Array.length_toList];exact Nat.not_lt.1 h1)]
   rfl
end Go.Proofs.YtieknocphiceoaaGreatDoor
namespace Go.Proofs.YtieknocphiceoaaGreatDoor
open Go Go.RowKit Go.Shelf
theorem jer (s:ByteArray) (k:Nat) (h:k<s.size):s.data.toList.drop k=s[k]'h::s.data.toList.drop (k+1):=by
 have h1:k<s.data.toList.length:=by rw[Array.length_toList];exact h
 rw[List.drop_eq_getElem_cons h1];rfl
theorem jdS (s:ByteArray) (k:Nat) (h:s.size<=k):s.data.toList.drop k=[]:=List.drop_eq_nil_of_le (by rw[Array.length_toList];exact h)
theorem jps (a b:ByteArray) (k:Nat) (ha:k<a.size) (hb:k<b.size):jdg (a.data.toList.drop k) (b.data.toList.drop k)=if (a[k]'ha).toNat<(b[k]'hb).toNat then -1 else if (b[k]'hb).toNat<(a[k]'ha).toNat then 1 else jdg (a.data.toList.drop (k+1)) (b.data.toList.drop (k+1)):=by
 rw[jer a k ha,jer b k hb,jdg];rfl
theorem jhx (a b:ByteArray) (k:Nat) (hk:k<=a.size) (hk2:k<=b.size) (h:¬ (k<a.size/\k<b.size)):jdg (a.data.toList.drop k) (b.data.toList.drop k)=if a.size<b.size then -1 else if b.size<a.size then 1 else 0:=by
 by_cases ha:k<a.size
 ·have hb:k=b.size:=by omega
  rw[jdS b k (by omega),jer a k ha,jdg,if_neg (by omega),if_pos (by omega)]
 ·have ha2:k=a.size:=by omega
  rw[jdS a k (by omega)];by_cases hb:k<b.size
  ·rw[jer b k hb,jdg,if_pos (by omega)]
  ·rw[jdS b k (by omega),jdg,if_neg (by omega),if_neg (by omega)]
theorem jds {w W:World} (h:∃ m,W=w.drewN m) (n:Nat):∃ m,W.drewN n=w.drewN m:=by
 obtain⟨m,rfl⟩:=h;exact⟨m+n,World.drewN_drewN _ _ _⟩
set_option maxRecDepth 100000 in
set_option maxHeartbeats 1000000 in
theorem jcQ (a b:ByteArray) (w:World) (ha:a.size<4294967281) :
  Calls Tryz.prog 107 #[.string a,.string b] w fun e w'=>e=.returned (.int .i64 (jdg a.data.toList b.data.toList))/\∃ m,w'=w.drewN m:=by
 have HL:Hid (jdg a.data.toList b.data.toList=jdg (a.data.toList.drop 0) (b.data.toList.drop 0)):=rfl;generalize jdg a.data.toList b.data.toList=R at HL ⊢;go_enter Tryz.func107,Tryz.ntmps107;go_wp2_with fail;go_loopw [5] (fun i wr=>∃ (k:Nat),i=.int .i64 k/\k<=a.size/\k<=b.size/\(∃ m,wr=w.drewN m)/\Hid (R=jdg (a.data.toList.drop k) (b.data.toList.drop k))) (fun i _=>a.size-(intOf i).toNat)
 case atStart=>exact⟨0,rfl,Nat.zero_le _,Nat.zero_le _,⟨0,(World.drewN_zero w).symm⟩,HL⟩
 case round =>
  obtain⟨k,rfl,hk,hk2,hB,HS⟩:=hrel;by_cases hlt:k<a.size
  ·by_cases hlt2:k<b.size
   ·have HX:=Lib.hid (jps a b k hlt hlt2)
    have hx:=UInt8.toNat_lt (a[k]'hlt);have hy:=UInt8.toNat_lt (b[k]'hlt2);by_cases h1:(a[k]'hlt).toNat<(b[k]'hlt2).toNat
    ·have H9:Hid (R = -1):=by rw[Hid,HS.out,HX.out,if_pos h1]
     go_wp2_with fail;go_quiet (fail);go_wp2_with fail;go_ret;exact⟨by rw[H9.out];rfl,(by first | exact jds hB _ | exact jds (jds hB _) _)⟩
    ·by_cases h2:(b[k]'hlt2).toNat<(a[k]'hlt).toNat
     ·have H9:Hid (R=1):=by rw[Hid,HS.out,HX.out,if_neg h1,if_pos h2]
      go_wp2_with fail;go_quiet (fail);go_wp2_with fail;go_quiet (fail);go_wp2_with fail;go_ret;exact⟨by rw[H9.out];rfl,(by first | exact jds hB _ | exact jds (jds hB _) _)⟩
     ·have H9:Hid (R=jdg (a.data.toList.drop (k+1)) (b.data.toList.drop (k+1))):=by rw[Hid,HS.out,HX.out,if_neg h1,if_neg h2]
      go_wp2_with fail;go_quiet (fail);go_wp2_with fail;go_quiet (fail);go_wp2_with fail;go_roundw
      case rel=>exact⟨k+1,by go_num,by omega,by omega,(by first | exact jds hB _ | exact jds (jds hB _) _),H9.out⟩
      case measure=>simp[intOf];omega
   ·have HP:=Lib.hid (jhx a b k hk hk2 (by omega))
    have h1:b.size<a.size:=by omega
    have H9:Hid (R=1):=by rw[Hid,HS.out,HP.out,if_neg (by omega),if_pos h1]
    go_wp2_with fail;go_ret;exact⟨by rw[H9.out];rfl,hB⟩
  ·have HP:=Lib.hid (jhx a b k hk hk2 (by omega))
   by_cases h1:a.size<b.size
   ·have H9:Hid (R = -1):=by rw[Hid,HS.out,HP.out,if_pos h1]
    go_wp2_with fail;go_ret;exact⟨by rw[H9.out];rfl,hB⟩
   ·have h2:a.size=b.size:=by omega
    have H9:Hid (R=0):=by rw[Hid,HS.out,HP.out,if_neg (by omega),if_neg (by omega)]
    go_wp2_with fail;go_ret;exact⟨by rw[H9.out];rfl,hB⟩
theorem jp3 (f:UInt8->Bool) (s:ByteArray) (k:Nat) (h:k<s.size):(s.data.toList.drop k).all f=(f (s[k]'h)&&(s.data.toList.drop (k+1)).all f):=by rw[jer s k h,List.all_cons]
set_option maxRecDepth 100000 in
set_option maxHeartbeats 1000000 in
theorem jfE (s:ByteArray) (w:World) (hs:s.size<4294967281) :
  Calls Tryz.prog 138 #[.string s] w fun e w'=>e=.returned (.bool (jbN s))/\Below w.heap.size w w':=by
 have HL:Hid (jbN s=((s.data.toList.drop 0).all jbt&&(decide (1<=s.size)&&decide (s.size<=12)))):=rfl;generalize jbN s=R at HL ⊢;go_enter Tryz.func138,Tryz.ntmps138;go_wp2_with fail;go_loopw [3] (fun i wr=>∃ (k:Nat),i=.int .i64 k/\k<=s.size/\Below w.heap.size w wr/\Hid (R=((s.data.toList.drop k).all jbt&&(decide (1<=s.size)&&decide (s.size<=12))))) (fun i _=>s.size-(intOf i).toNat)
 case atStart=>exact⟨0,rfl,Nat.zero_le _,Below.refl _ _,HL⟩
 case round =>
  obtain⟨k,rfl,hk,hB,HS⟩:=hrel;by_cases hlt:k<s.size
  ·have HX:=Lib.hid (jp3 jbt s k hlt)
   have hx:=UInt8.toNat_lt (s[k]'hlt);by_cases h1:(s[k]'hlt).toNat<97
   ·have H9:Hid (R=false):=by rw[Hid,HS.out,HX.out,show jbt (s[k]'hlt)=false by unfold jbt;simp;omega];rfl
    go_wp2_with fail;go_ret;exact⟨by rw[H9.out];first | rfl | (simp only[h6];rfl),hB⟩
   ·by_cases h2:122<(s[k]'hlt).toNat
    ·have H9:Hid (R=false):=by rw[Hid,HS.out,HX.out,show jbt (s[k]'hlt)=false by unfold jbt;simp;omega];rfl
     go_wp2_with fail;go_ret;exact⟨by rw[H9.out];first | rfl | (simp only[h6];rfl),hB⟩
    ·have H9:Hid (R=((s.data.toList.drop (k+1)).all jbt&&(decide (1<=s.size)&&decide (s.size<=12)))):=by rw[Hid,HS.out,HX.out,show jbt (s[k]'hlt)=true by unfold jbt;simp;omega];rfl
     go_wp2_with fail;go_roundw
     case rel=>exact⟨k+1,by go_num,by omega,hB,H9.out⟩
     case measure=>simp[intOf];omega
  ·have h3:s.data.toList.drop k=[]:=jdS s k (by omega)
   have HP:=Lib.hid h3;by_cases h4:1<=s.size
   ·by_cases h5:s.size<=12
    ·have H9:Hid (R=true):=by rw[Hid,HS.out,HP.out,decide_eq_true h4,decide_eq_true h5];rfl
     have h6:decide ((s.size:Int)<=12)=true:=by rw[decide_eq_true_iff];omega
     go_wp2_with fail;go_ret;exact⟨by rw[H9.out];first | rfl | (simp only[h6];rfl),hB⟩
    ·have H9:Hid (R=false):=by rw[Hid,HS.out,HP.out,decide_eq_false h5];simp
     have h6:decide ((s.size:Int)<=12)=false:=by rw[decide_eq_false_iff_not];omega
     go_wp2_with fail;go_ret;exact⟨by rw[H9.out];first | rfl | (simp only[h6];rfl),hB⟩
   ·have H9:Hid (R=false):=by rw[Hid,HS.out,decide_eq_false h4];simp
    go_wp2_with fail;go_ret;exact⟨by rw[H9.out];first | rfl | (simp only[h6];rfl),hB⟩
theorem jsa (s:ByteArray):(s++(⟨#[120]⟩:ByteArray)).data.toList=s.data.toList++[120]:=by simp
theorem jsb (s:ByteArray):(s++(⟨#[120]⟩:ByteArray)).size=s.size+1:=by rw[ByteArray.size_append];rfl
theorem jp0 (s:ByteArray) (h:0<s.size):Utf8.decode (s++(⟨#[120]⟩:ByteArray)) 0=Lib.decodeL s.data.toList:=by
 rw[<- Lib.decodeL_drop,List.drop_zero,jsa];exact jmL _ (by intro e;have:=congrArg List.length e;rw[Array.length_toList] at this;exact absurd this (by show ¬ s.size=0;omega))
def jll (l:List UInt8):Nat:=if jhe l then 0 else (Lib.decodeL l).2
set_option maxRecDepth 100000 in
set_option maxHeartbeats 1000000 in
theorem jg3 (s:ByteArray) (w:World) (h0:0<s.size) (hs:s.size<4294967281) :
  Calls Tryz.prog 193 #[.string s] w fun e w'=>e=.returned (.int .i64 (jll s.data.toList))/\Below w.heap.size w w':=by
 have hne:s.data.toList≠[]:=by intro e;have:=congrArg List.length e;rw[Array.length_toList] at this;exact absurd this (by show ¬ s.size=0;omega)
 have hxs:=jsb s;have hd:=jp0 s h0;have HO:=Lib.hid (jq1 s.data.toList);have HK:=Lib.hid (jkp s.data.toList hne);have hl:s.data.toList.length=s.size:=by rw[Array.length_toList];rfl
 have HW:Hid (jll s.data.toList=if jhe s.data.toList then 0 else (Lib.decodeL s.data.toList).2):=rfl;generalize jll s.data.toList=R at HW ⊢;generalize ht:s++(⟨#[120]⟩:ByteArray)=t at hxs hd;go_enter Tryz.func193,Tryz.ntmps193;go_wp2_with fail;go_loopw [3,4] (fun _ _ wr=>∃ pos,wr.heap[w.heap.size]? = some (.stringIter t pos)/\Below w.heap.size w wr/\(pos=0\/(pos=(Lib.decodeL s.data.toList).2/\jhe s.data.toList=false))) (fun _ _ wr=>t.size-wr.iterPos w.heap.size)
 case atStart=>exact⟨0,World.iter_heap w t 0,(Below.refl _ _).alloc (Nat.le_refl _) _,.inl rfl⟩
 case round =>
  obtain⟨pos,hit,hbw,hp⟩:=hrel;have hpos0:=jaZ hit;rcases hp with rfl | ⟨rfl,hb⟩
  ·have hp:0<t.size:=by omega
   obtain⟨W1,hnx,hit2,hbw2,-,-⟩:=jd7 (P:=Tryz.prog) hit hbw (Nat.le_refl _) hp;rw[hd] at hnx hit2;have hdp:=jdM t 0 hp;rw[hd] at hdp;have HB:Hid (jhe s.data.toList=((Lib.decodeL s.data.toList).1==65533&&(decide (s.data.toList.length<3)||s.data.toList.take 3 != [239,191,189]))):=HO.out.symm;rw[hl] at HB;have ht3:s.data.toList.take 3=(s.extract 0 3).data.toList:=by simp
   rw[ht3] at HB;rw[Nat.zero_add] at hit2;generalize Lib.decodeL s.data.toList=rd at *;generalize jhe s.data.toList=bb at *;clear ht3 hd hit;by_cases h1:rd.1=65533
   ·have e1:((rd.1:Int)==65533)=true:=by rw[h1];rfl
    by_cases h2:s.size<3
    ·have e2:decide ((s.size:Int)<3)=true:=by rw[decide_eq_true_iff];omega
     have H9:Hid (R=0):=by rw[Hid,HW.out,HB.out,h1,decide_eq_true h2];rfl
     clear HB HW HO HK h1;go_wp2_with fail;go_ret;exact⟨by rw[H9.out];rfl,hbw2⟩
    ·have e2:decide ((s.size:Int)<3)=false:=by rw[decide_eq_false_iff_not];omega
     have h22:3<=s.size:=by omega
     by_cases h3:(s.extract 0 3).data.toList=[239,191,189]
     ·have e3:((s.extract 0 3).toList==[239,191,189])=true:=by rw[Lib.toList_data,h3];rfl
      have e4:(s.extract 0 3).toList=[239,191,189]:=by rw[Lib.toList_data,h3]
      have H9:Hid (bb=false):=by rw[Hid,HB.out,h1,decide_eq_false h2,h3];rfl
      clear HB HW HO HK h1 h3;go_wp2_with fail;go_roundw
      case rel=>exact⟨_,hit2,hbw2,.inr ⟨rfl,H9.out⟩⟩
      case measure=>rw[jaZ hit2,hpos0];omega
     ·have e3:((s.extract 0 3).toList==[239,191,189])=false:=by rw[Lib.toList_data,beq_eq_false_iff_ne];exact h3
      have e4:¬ (s.extract 0 3).toList=[239,191,189]:=by rw[Lib.toList_data];exact h3
      have H9:Hid (R=0):=by
       have:bb=true:=by rw[HB.out,h1,decide_eq_false h2,bne_iff_ne.2 h3];rfl
       rw[Hid,HW.out,this];rfl
      clear HB HW HO HK h1 h3;go_wp2_with fail;go_ret;exact⟨by rw[H9.out];rfl,hbw2⟩
   ·have e1:((rd.1:Int)==65533)=false:=by rw[beq_eq_false_iff_ne];omega
    have H9:Hid (bb=false):=by rw[Hid,HB.out,beq_eq_false_iff_ne.2 h1];rfl
    clear HB HW HO HK h1;go_wp2_with fail;go_roundw
    case rel=>exact⟨_,hit2,hbw2,.inr ⟨rfl,H9.out⟩⟩
    case measure=>rw[jaZ hit2,hpos0];omega
  ·obtain⟨z1,z2,z3⟩:=HK.out hb
   rw[hl] at z2;have h9:R=(Lib.decodeL s.data.toList).2:=by rw[HW.out,hb];rfl
   have hp:(Lib.decodeL s.data.toList).2<t.size:=by omega
   obtain⟨W1,hnx,hit2,hbw2,-,-⟩:=jd7 (P:=Tryz.prog) hit hbw (Nat.le_refl _) hp
   have hz:(s.data.toList.getD 0 0).toNat=(s[0]'h0).toNat:=by
    have:=jer s 0 h0;rw[List.drop_zero] at this;rw[this];rfl
   rw[hz] at z3;have hx:=UInt8.toNat_lt (s[0]'h0);generalize (Utf8.decode t (Lib.decodeL s.data.toList).2)=dd at hnx hit2;generalize (Lib.decodeL s.data.toList).2=d at *;have H9:=Lib.hid h9;have e1:decide ((0:Int)<(d:Int))=true:=by rw[decide_eq_true_iff];omega
   have e3:decide ((s.size:Int)<(d:Int))=false:=by rw[decide_eq_false_iff_not];omega
   clear HK HW HO hz hd h9;by_cases h1:d=1
   ·have e2:((d:Int)==1)=true:=by rw[h1];rfl
    have e4:¬ 128<=(s[0]'h0).toNat:=fun e=>z3 ⟨h1,e⟩
    have e5:decide ((128:Int)<=((s[0]'h0).toNat:Int))=false:=by rw[decide_eq_false_iff_not];omega
    clear z3 h1;go_wp2_with fail;go_ret;exact⟨by rw[H9.out];rfl,hbw2⟩
   ·have e2:((d:Int)==1)=false:=by rw[beq_eq_false_iff_ne];omega
    clear z3 h1;go_wp2_with fail;go_ret;exact⟨by rw[H9.out];rfl,hbw2⟩
def upB:List Int->Bool
 | x::y::r=>decide (x<y)&&upB (y::r)
 | _=>true
theorem jn8:∀ l:List Int,upB l=true↔Up l
 | []=>by simp[upB,Up]
 | [x]=>by simp[upB,Up]
 | x::y::r=>by
  have ih:=jn8 (y::r);simp only[upB,Bool.and_eq_true,decide_eq_true_eq,ih];constructor
  ·rintro⟨h1,h2⟩
   refine List.pairwise_cons.2 ⟨fun z hz=>?_,h2⟩;rcases List.mem_cons.1 hz with rfl | hz
   ·exact h1
   ·have:=(List.pairwise_cons.1 h2).1 z hz;omega
  ·intro h
   obtain⟨h1,h2⟩:=List.pairwise_cons.1 h;exact⟨h1 y List.mem_cons_self,h2⟩
theorem jj0 (l:List Int):ja9 l=(decide (l.length<=64)&&upB l):=by
 rw[Bool.eq_iff_iff,Bool.and_eq_true,decide_eq_true_eq,jn8];exact⟨fun h=>⟨(je6 l h).2,(je6 l h).1⟩,fun h=>jlk l h.2 h.1⟩
theorem jr8 {l:List Int} {k:Nat} {x y:Int} (hx:l[k]? = some x) (hy:l[k+1]? = some y):upB (l.drop k)=(decide (x<y)&&upB (l.drop (k+1))):=by
 rw[jaJ hx,jaJ hy];rfl
theorem jrt {l:List Int} {k:Nat} (h:l.length<=k+1):upB (l.drop k)=true:=by
 have:(l.drop k).length<=1:=by rw[List.length_drop];omega
 match hl:l.drop k,this with
 | [],_=>rfl
 | [x],_=>rfl
set_option maxRecDepth 100000 in
set_option maxHeartbeats 1000000 in
theorem jgr (a:Option Addr) (len cap:Nat) (l:List Int) (w:World) (hL:SlE jbH 1 w.heap.size w a len l) (hm:len<=maxLen) (hU:jdK l) :
  Calls Tryz.prog 140 #[.agg #[.slice a len cap]] w fun e w'=>e=.returned (.bool (ja9 l))/\Below w.heap.size w w':=by
 have hlen:=hL.1;unfold maxLen at hm;obtain⟨W0,hW0,hX0,hB0,hs0⟩:=jah w #[.slice a len cap] 41;have HX0:=Lib.hid hX0;have HL:=Lib.hid (hL.go hB0);have HU:=Lib.hid hU;have HN:=Lib.hid hlen;have HB0:=Lib.hid hB0;have HE:=Lib.hid (jj0 l);have hz0:w.heap.size<W0.heap.size:=by omega
 clear hL hB0 hlen hU;generalize ja9 l=bR at HE ⊢;have c0:W0.cell? ⟨w.heap.size,0,none⟩=some (.slice a len cap):=cCc hX0 0;clear hX0;go_enter Tryz.func140,Tryz.ntmps140;go_wp2_with fail;go_loopw [3] (fun i wr=>∃ (k:Nat),i=.int .i64 ((k:Int)+1)/\(k<=len)/\(k=0\/k<len)/\Below W0.heap.size W0 wr/\Hid (upB l=upB (l.drop k))) (fun i _=>len+1-(intOf i).toNat)
 case atStart=>exact⟨0,rfl,Nat.zero_le _,.inl rfl,Below.refl _ _,rfl⟩
 case round =>
  obtain⟨k,rfl,hk,hk0,hB,HS⟩:=hrel;have hsz:=hB.size;have r0:wr.cell? ⟨w.heap.size,0,none⟩=some (.slice a len cap):=(hB.cell (p:=⟨w.heap.size,0,none⟩) hz0).trans c0;by_cases hlt:k+1<len
  ·obtain⟨x,b,off,hx,rfl,hbb,hc⟩:=(HL.out.below hB).at (j:=k) (by omega)
   obtain⟨y,b',off',hy,e1,hbb',hc'⟩:=(HL.out.below hB).at (j:=k+1) hlt;injection e1 with e1
   injection e1 with e1 e2
   subst e1;subst e2;have p0:wr.cell? ⟨b,off+k*1+0,none⟩=some (.int .u64 x):=hc 0 (by omega);have q0:wr.cell? ⟨b,off+(k+1)*1+0,none⟩=some (.int .u64 y):=hc' 0 (by omega);simp only[Nat.mul_one,Nat.add_zero] at p0 q0;have HX:=Lib.hid (jr8 hx hy);obtain⟨u1,u2⟩:=HU.out x (List.mem_of_getElem? hx);obtain⟨v1,v2⟩:=HU.out y (List.mem_of_getElem? hy);have i1:(k:Int)+1<(len:Int):=by omega
   clear hc hc' hx hy;by_cases hxy:x<y
   ·have t0:decide (y<=x)=false:=by simp;omega
    have H9:Hid (upB l=upB (l.drop (k+1))):=by rw[Hid,HS.out,HX.out,decide_eq_true hxy];rfl
    go_wp2_with fail;go_quiet (fail);go_wp2_with fail;go_roundw
    case rel=>exact⟨k+1,by go_num,by omega,.inr (by omega),bDr hB _,H9.out⟩
    case measure=>simp[intOf];omega
   ·have t0:decide (y<=x)=true:=by simp;omega
    have H9:Hid (bR=false):=by rw[Hid,HE.out,HS.out,HX.out,decide_eq_false hxy];simp
    go_wp2_with fail;go_quiet (fail);go_wp2_with fail;go_ret;exact⟨by rw[H9.out];rfl,HB0.out.trans ((bDr hB _).mono HB0.out.size)⟩
  ·have H9:Hid (bR=decide ((len:Int)<=64)):=by
    rw[Hid,HE.out,HS.out,jrt (by rw[<- HN.out];omega),Bool.and_true,<- HN.out];exact decide_eq_decide.2 (by omega)
   go_wp2_with fail;go_ret;exact⟨by rw[H9.out];rfl,HB0.out.trans (hB.mono HB0.out.size)⟩
set_option maxRecDepth 100000 in
set_option maxHeartbeats 1000000 in
theorem jdk (a1:Option Addr) (len1 cap1:Nat) (l1:List Int) (a2:Option Addr) (len2 cap2:Nat) (l2:List Int) (w:World) (h1:SlE jbH 1 w.heap.size w a1 len1 l1) (h2:SlE jbH 1 w.heap.size w a2 len2 l2) (hm:len1<=maxLen) :
  Calls Tryz.prog 61 #[.slice a1 len1 cap1,.slice a2 len2 cap2] w fun e w'=>e=.returned (.bool (l1==l2))/\Below w.heap.size w w':=by
 have e1:=h1.1;have e2:=h2.1;unfold maxLen at hm;by_cases hl:len1=len2
 ·subst hl
  have t0:((len1:Int) != (len1:Int))=false:=by simp
  have E1:=Lib.hid e1;have E2:=Lib.hid e2;clear e1 e2;go_enter Tryz.func61,Tryz.ntmps61;go_wp2_with fail;go_loopw [5] (fun i wr=>∃ (k:Nat),i=.int .i64 k/\k<=len1/\Below w.heap.size w wr/\Hid (l1.take k=l2.take k)) (fun i _=>len1-(intOf i).toNat)
  case atStart=>exact⟨0,rfl,Nat.zero_le _,Below.refl _ _,rfl⟩
  case round =>
   obtain⟨k,rfl,hk,hB,HF⟩:=hrel;by_cases hlt:k<len1
   ·obtain⟨x,b1,o1,hx,ea1,hb1,hc1⟩:=(h1.below hB).at hlt
    obtain⟨y,b2,o2,hy,ea2,hb2,hc2⟩:=(h2.below hB).at hlt;subst ea1;subst ea2;have p0:wr.cell? ⟨b1,o1+k*1+0,none⟩=some (.int .u64 x):=hc1 0 (by omega);have q0:wr.cell? ⟨b2,o2+k*1+0,none⟩=some (.int .u64 y):=hc2 0 (by omega);simp only[Nat.mul_one,Nat.add_zero] at p0 q0;have i0:(0:Int)<=(k:Int):=by omega
    have i1:(k:Int)<(len1:Int):=by omega
    have HX:=Lib.hid hx;have HY:=Lib.hid hy;clear hc1 hc2 hx hy h1 h2;by_cases hxy:x=y
    ·have n1:(x != y)=false:=by simp[hxy]
     have HXY:Hid (x=y):=hxy;clear hxy;go_wp2_with fail;go_quiet (fail);go_wp2_with fail;go_roundw
     case rel=>exact⟨k+1,by go_num,by omega,bDr hB _,by rw[Hid,jan HX.out,jan HY.out,HF.out,HXY.out]⟩
     case measure=>simp[intOf];omega
    ·have n1:(x != y)=true:=by simp[hxy]
     have HXY:Hid (¬ x=y):=hxy;clear hxy;go_wp2_with fail;go_quiet (fail);go_wp2_with fail;go_ret
     have hne:(l1==l2)=false:=by
      rw[beq_eq_false_iff_ne];intro e;have hx:=HX.out;rw[e,HY.out] at hx;exact HXY.out (Option.some.inj hx).symm
     exact⟨by rw[hne];rfl,bDr hB _⟩
   ·obtain rfl:k=len1:=by omega
    clear h1 h2;go_wp2_with fail;go_ret;have h9:=HF.out;rw[List.take_of_length_le (by rw[<- E1.out];omega),List.take_of_length_le (by rw[<- E2.out];omega)] at h9;exact⟨by rw[h9];simp,hB⟩
 ·have t0:((len1:Int) != (len2:Int))=true:=by rw[bne_iff_ne];omega
  have hne:Hid ((l1==l2)=false):=by
   rw[Hid,beq_eq_false_iff_ne];intro e;rw[e] at e1;omega
  clear e1 e2;go_enter Tryz.func61,Tryz.ntmps61;go_wp2_with fail;go_ret;exact⟨by rw[hne.out];rfl,Below.refl _ _⟩
theorem jcx (n:Int) (w:World):Calls Tryz.prog 179 #[.int .i64 n] w fun e w'=>e=.returned (.bool (jby n))/\w'=w:=by
 have HR:Hid (jby n=(decide (3<=n)&&decide (n<=8))):=rfl;generalize jby n=b at HR ⊢;by_cases h1:3<=n
 ·by_cases h2:n<=8
  ·have H9:Hid (b=true):=by rw[Hid,HR.out,decide_eq_true h1,decide_eq_true h2];rfl
   go_enter Tryz.func179,Tryz.ntmps179;go_wp2_with fail;go_ret;exact⟨by rw[H9.out];rfl,rfl⟩
  ·have H9:Hid (b=false):=by rw[Hid,HR.out,decide_eq_false h2,Bool.and_false]
   go_enter Tryz.func179,Tryz.ntmps179;go_wp2_with fail;go_ret;exact⟨by rw[H9.out];rfl,rfl⟩
 ·have H9:Hid (b=false):=by rw[Hid,HR.out,decide_eq_false h1,Bool.false_and]
  go_enter Tryz.func179,Tryz.ntmps179;go_wp2_with fail;go_ret;exact⟨by rw[H9.out];rfl,rfl⟩
theorem jkm (b:Int) (s:ByteArray):jcg b s=jcf b (je3 s):=by
 have h:s.data.toList=(je3 s).map (·.2):=by
  apply List.ext_getElem?;intro i;by_cases hi:i<s.size
  ·simp[je3,hi]
  ·simp[je3,hi]
 unfold jcg jcf;rw[h,List.all_map];rfl
set_option maxRecDepth 100000 in
set_option maxHeartbeats 1000000 in
theorem jgu (b:Nat) (hb1:3<=b) (hb2:b<=8) (s:ByteArray) (q:Int) (hq:q=2^b) (w:World) :
  Calls Tryz.prog 141 #[.agg #[.int .i64 b,.string s]] w fun e w'=>e=.returned (.bool ((s.size:Int)==q&&jcg b s))/\Below w.heap.size w w':=by
 obtain⟨W0,hW0,hX0,hB0,hs0⟩:=jah w #[.int .i64 b,.string s] 43;have HIB:Hid (∀ w,Calls Tryz.prog 179 #[.int .i64 b] w fun e w'=>e=.returned (.bool true)/\w'=w):=fun w=>(jcx b w).mono fun e w' ⟨h1,h2⟩=>⟨by rw[h1];simp[jby];omega,h2⟩
 have hq1:0<=q/\q<=256:=by
  rcases (by omega:b=3\/b=4\/b=5\/b=6\/b=7\/b=8) with rfl | rfl | rfl | rfl | rfl | rfl<;>(rw[hq];decide)
 obtain⟨hq1,hq2⟩:=hq1;have hw:IntKind.i64.wrap (2^b)=q:=by rw[<- hq];exact IntWalk.i64_in _ (by omega)
 have hz0:w.heap.size<W0.heap.size:=by omega
 have HB0:=Lib.hid hB0;have HR:Hid (jcg b s=jcf b (je3 s)):=jkm b s;have HO:=Lib.hid (jk7 s);obtain⟨c0,c1⟩:=cl2 hX0;clear hX0 hB0 hq;by_cases hs:(s.size:Int)=q
 case neg =>
  have t0:((s.size:Int) != q)=true:=by rw[bne_iff_ne];exact hs
  have H9:Hid (((s.size:Int)==q&&jcg b s)=false):=by rw[Hid,beq_eq_false_iff_ne.2 hs];rfl
  generalize ((s.size:Int)==q&&jcg b s)=bR at H9 ⊢;clear hs;go_enter Tryz.func141,Tryz.ntmps141;go_wp2_with fail;go_quiet ((go_at_call 179;exact Calls.quiet_of_same (HIB.out _)));go_wp2_with fail;go_ret;exact⟨by rw[H9.out];rfl,bDr HB0.out _⟩
 have t0:((s.size:Int) != q)=false:=by rw[bne_eq_false_iff_eq];exact hs
 have hs256:s.size<=256:=by omega
 have H8:Hid (((s.size:Int)==q&&jcg b s)=jcf b (je3 s)):=by rw[Hid,beq_iff_eq.2 hs,Bool.true_and,HR.out]
 generalize ((s.size:Int)==q&&jcg b s)=bR at H8 ⊢;clear hs;go_enter Tryz.func141,Tryz.ntmps141;go_wp2_with fail;go_quiet ((go_at_call 179;exact Calls.quiet_of_same (HIB.out _)));have hBq:Below W0.heap.size W0 (W0.drewN nq):=bDr (Below.refl _ _) _;go_wp2_with fail;go_loopw [3] (fun i wr=>∃ (k:Nat),i=.int .i64 k/\k<=s.size/\Below W0.heap.size W0 wr/\Hid (jcf b ((je3 s).take k)=true)) (fun i _=>s.size-(intOf i).toNat)
 case atStart=>exact⟨0,rfl,Nat.zero_le _,hBq,rfl⟩
 case round =>
  obtain⟨k,rfl,hk,hB,HS⟩:=hrel;have r0:wr.cell? ⟨w.heap.size,0,none⟩=some (.int .i64 b):=(hB.cell (p:=⟨w.heap.size,0,none⟩) hz0).trans c0;have r1:wr.cell? ⟨w.heap.size,1,none⟩=some (.string s):=(hB.cell (p:=⟨w.heap.size,1,none⟩) hz0).trans c1;by_cases hlt:k<s.size
  ·have HX:=Lib.hid (jnx s k hlt)
   have hx:=UInt8.toNat_lt (s[k]'hlt)
   have HT:Hid (jcf b ((je3 s).take (k+1)) = !decide (65-(b:Int)<((s[k]'hlt).toNat:Int))):=by
    rw[Hid,jan HX.out,jcb,HS.out,jfe,Bool.true_and]
   by_cases ht:65-(b:Int)<((s[k]'hlt).toNat:Int)
   ·have H9:Hid (bR=false):=by
     have h1:jcf b ((je3 s).take (k+1))=false:=by rw[HT.out,decide_eq_true ht];rfl
     rw[Hid,H8.out]
     cases h2:jcf b (je3 s) with
     | false=>rfl
     | true =>
      rw[<- List.take_append_drop (k+1) (je3 s),jcb,h1] at h2
      cases h2
    go_wp2_with fail;go_quiet (fail);go_wp2_with fail;go_ret;exact⟨by rw[H9.out];rfl,HB0.out.trans ((bDr hB _).mono (by omega))⟩
   ·have H9:Hid (jcf b ((je3 s).take (k+1))=true):=by rw[Hid,HT.out,decide_eq_false ht];rfl
    go_wp2_with fail;go_quiet (fail);go_wp2_with fail;go_roundw
    case rel=>exact⟨k+1,by go_num,by omega,bDr hB _,H9.out⟩
    case measure=>simp[intOf];omega
  ·obtain rfl:k=s.size:=by omega
   have H9:Hid (bR=true):=by rw[Hid,H8.out,<- HS.out,List.take_of_length_le (by rw[HO.out];exact Nat.le_refl _)]
   go_wp2_with fail;go_ret;exact⟨by rw[H9.out];rfl,HB0.out.trans (hB.mono (by omega))⟩
set_option maxRecDepth 100000 in
set_option maxHeartbeats 1000000 in
theorem jdX (b:Int) (s:ByteArray) (w:World) :
  Calls Tryz.prog 141 #[.agg #[.int .i64 b,.string s]] w fun e w'=>e=.returned (.bool (jaR b s))/\Below w.heap.size w w':=by
 cases hb:jby b with
 | true =>
  have hr:3<=b/\b<=8:=by simpa [jby] using hb
  obtain⟨n,rfl⟩:∃ n:Nat,b=n:=⟨b.toNat,by omega⟩;have h:=jgu n (by omega) (by omega) s _ rfl w;have e:jaR n s=((s.size:Int)==2^n&&jcg n s):=by unfold jaR;rw[hb,Bool.true_and,Int.toNat_natCast]
  rw[e];exact h
 | false =>
  obtain⟨W0,hW0,hX0,hB0,hs0⟩:=jah w #[.int .i64 b,.string s] 43;have HIB:Hid (∀ w,Calls Tryz.prog 179 #[.int .i64 b] w fun e w'=>e=.returned (.bool false)/\w'=w):=fun w=>(jcx b w).mono fun e w' ⟨h1,h2⟩=>⟨by rw[h1,hb],h2⟩
  have H9:Hid (jaR b s=false):=by unfold jaR;rw[Hid,hb];rfl
  have HB0:=Lib.hid hB0;obtain⟨c0,c1⟩:=cl2 hX0;clear hX0 hB0 hb;generalize jaR b s=bR at H9 ⊢;go_enter Tryz.func141,Tryz.ntmps141;go_wp2_with fail;go_quiet ((go_at_call 179;exact Calls.quiet_of_same (HIB.out _)));go_wp2_with fail;go_ret;exact⟨by rw[H9.out];rfl,bDr HB0.out _⟩
def jjO (r c:Int):Bool:=(decide (1<=r)&&decide (r<=4))&&(((c==4||c==8)||c==16)||c==32)
theorem jlJ (r c:Int) (hc:I64 c):jjO r c=jbr r c:=by
 unfold jjO jbr;by_cases h:4<=c/\c<=32
 ·obtain⟨h1,h2⟩:=h
  obtain⟨n,rfl⟩:∃ n:Nat,c=n:=⟨c.toNat,by omega⟩;have key:∀ n∈List.range 33,4<=n->((((n:Int)==4||(n:Int)==8)||(n:Int)==16)||(n:Int)==32)=(bits .and .i64 (n:Int) ((n:Int)-1)==0):=by decide +kernel
  rw[key n (List.mem_range.2 (by omega)) (by omega),decide_eq_true h1,decide_eq_true h2,Bool.and_true,Bool.and_true]
 ·have e1:(((c==4||c==8)||c==16)||c==32)=false:=by simp;omega
  have e2:(decide (4<=c)&&decide (c<=32))=false:=by simp;omega
  rw[e1,Bool.and_false,Bool.and_assoc (decide (1<=r)&&decide (r<=4)),e2,Bool.and_false,Bool.false_and]
set_option maxHeartbeats 1000000 in
theorem jjt (r c:Int) (w:World):Calls Tryz.prog 162 #[.int .i64 r,.int .i64 c] w fun e w'=>e=.returned (.bool (jjO r c))/\w'=w:=by
 by_cases h1:1<=r
 case neg =>
  have H9:Hid (jjO r c=false):=by rw[Hid,jjO,decide_eq_false h1];rfl
  generalize jjO r c=b at H9 ⊢;go_enter Tryz.func162,Tryz.ntmps162;go_wp2_with fail;go_ret;exact⟨by rw[H9.out];rfl,rfl⟩
 by_cases h2:r<=4
 case neg =>
  have H9:Hid (jjO r c=false):=by rw[Hid,jjO,decide_eq_false h2,Bool.and_false];rfl
  generalize jjO r c=b at H9 ⊢;go_enter Tryz.func162,Tryz.ntmps162;go_wp2_with fail;go_ret;exact⟨by rw[H9.out];rfl,rfl⟩
 have H9:Hid (jjO r c=(((c==4||c==8)||c==16)||c==32)):=by rw[Hid,jjO,decide_eq_true h1,decide_eq_true h2];rfl
 generalize jjO r c=b at H9 ⊢;by_cases e4:c=4
 ·have H8:Hid (b=true):=by rw[Hid,H9.out,e4];rfl
  clear H9;subst e4;go_enter Tryz.func162,Tryz.ntmps162;go_wp2_with fail;go_ret;exact⟨by rw[H8.out];rfl,rfl⟩
 by_cases e8:c=8
 ·have H8:Hid (b=true):=by rw[Hid,H9.out,e8];rfl
  clear H9 e4;subst e8;go_enter Tryz.func162,Tryz.ntmps162;go_wp2_with fail;go_ret;exact⟨by rw[H8.out];rfl,rfl⟩
 by_cases e16:c=16
 ·have H8:Hid (b=true):=by rw[Hid,H9.out,e16];rfl
  clear H9 e4 e8;subst e16;go_enter Tryz.func162,Tryz.ntmps162;go_wp2_with fail;go_ret;exact⟨by rw[H8.out];rfl,rfl⟩
 have t4:(c==4)=false:=beq_eq_false_iff_ne.2 e4;have t8:(c==8)=false:=beq_eq_false_iff_ne.2 e8;have t16:(c==16)=false:=beq_eq_false_iff_ne.2 e16;by_cases e32:c=32
 ·have H8:Hid (b=true):=by rw[Hid,H9.out,e32];rfl
  clear H9 e4 e8 e16 t4 t8 t16;subst e32;go_enter Tryz.func162,Tryz.ntmps162;go_wp2_with fail;go_ret;exact⟨by rw[H8.out];rfl,rfl⟩
 ·have t32:(c==32)=false:=beq_eq_false_iff_ne.2 e32
  have H8:Hid (b=false):=by rw[Hid,H9.out,t4,t8,t16,t32];rfl
  clear H9 e4 e8 e16 e32;go_enter Tryz.func162,Tryz.ntmps162;go_wp2_with fail;go_ret;exact⟨by rw[H8.out];rfl,rfl⟩
set_option maxRecDepth 100000 in
set_option maxHeartbeats 1000000 in
theorem jbE (r c:Int) (a:Option Addr) (len cap:Nat) (l:List Int) (w:World) (hc:I64 c) (hlen:len=l.length) :
  Calls Tryz.prog 142 #[.agg #[.int .i64 r,.int .i64 c,.slice a len cap]] w fun e w'=>e=.returned (.bool (jaN r c l))/\Below w.heap.size w w':=by
 obtain⟨W0,hW0,hX0,hB0,hs0⟩:=jah w #[.int .i64 r,.int .i64 c,.slice a len cap] 45;have HIS:Hid (∀ w,Calls Tryz.prog 162 #[.int .i64 r,.int .i64 c] w fun e w'=>e=.returned (.bool (jjO r c))/\w'=w):=fun w=>jjt r c w
 have HB0:=Lib.hid hB0;have HR:Hid (jaN r c l=(jjO r c&&((len:Int)==r*c))):=by rw[Hid,jaN,jlJ r c hc,hlen]
 obtain⟨d0,d1,d2⟩:=cl3 hX0;clear hX0 hB0 hlen;generalize jaN r c l=bR at HR ⊢
 cases hi:jjO r c with
 | false =>
  rw[hi] at HIS;have H9:Hid (bR=false):=by rw[Hid,HR.out,hi];rfl
  clear hi HR;go_enter Tryz.func142,Tryz.ntmps142;go_wp2_with (go_at_call 162;refine (HIS.out _).mono ?_;rintro e w1 ⟨rfl,rfl⟩);go_ret;exact⟨by rw[H9.out];rfl,HB0.out⟩
 | true =>
  rw[hi] at HIS
  have h1:1<=r/\r<=4/\4<=c/\c<=32:=by
   simp only[jjO,Bool.and_eq_true,Bool.or_eq_true,decide_eq_true_eq,beq_iff_eq] at hi;omega
  obtain⟨r1,r4,c4,c32⟩:=h1
  have hmul:0<=r*c/\r*c<=128:=by
   refine⟨Int.mul_nonneg (by omega) (by omega),?_⟩
   calc r*c<=4*c:=Int.mul_le_mul_of_nonneg_right r4 (by omega)
    _<=128:=by omega
  obtain⟨m0,m1⟩:=hmul;have H9:Hid (bR=((len:Int)==r*c)):=by rw[Hid,HR.out,hi];rfl
  generalize hrc:r*c=rc at H9 m0 m1;have hw:IntKind.i64.wrap (r*c)=rc:=by rw[hrc];exact IntWalk.i64_in _ (by omega)
  clear hi HR;go_enter Tryz.func142,Tryz.ntmps142;go_wp2_with (go_at_call 162;refine (HIS.out _).mono ?_;rintro e w1 ⟨rfl,rfl⟩);go_ret;exact⟨by rw[H9.out];rfl,HB0.out⟩
set_option maxRecDepth 100000 in
set_option maxHeartbeats 1000000 in
theorem jg6 (r1 c1:Int) (a1:Option Addr) (len1 cap1:Nat) (l1:List Int) (r2 c2:Int) (a2:Option Addr) (len2 cap2:Nat) (l2:List Int) (w:World) (h1:SlE jbH 1 w.heap.size w a1 len1 l1) (h2:SlE jbH 1 w.heap.size w a2 len2 l2) (hm:len1<=maxLen) :
  Calls Tryz.prog 62 #[.agg #[.int .i64 r1,.int .i64 c1,.slice a1 len1 cap1],.agg #[.int .i64 r2,.int .i64 c2,.slice a2 len2 cap2]] w fun e w'=>e=.returned (.bool ((r1==r2&&c1==c2)&&l1==l2))/\Below w.heap.size w w':=by
 obtain⟨W0,hW0,hX0,hX1,hB0,hs0⟩:=jaS w #[.int .i64 r1,.int .i64 c1,.slice a1 len1 cap1] 45 #[.int .i64 r2,.int .i64 c2,.slice a2 len2 cap2] 45;have HN:=Lib.hid (jdk a1 len1 cap1 l1 a2 len2 cap2 l2 W0 (h1.go hB0) (h2.go hB0) hm);have HB0:=Lib.hid hB0;obtain⟨d0,d1,d2⟩:=cl3 hX0;obtain⟨f0,f1,f2⟩:=cl3 hX1;clear hX0 hX1 hB0 h1 h2;generalize (l1==l2)=bl at HN ⊢
 cases hr:(r1==r2) with
 | false =>
  go_enter Tryz.func62,Tryz.ntmps62;go_wp2_with fail;go_ret;exact⟨rfl,HB0.out⟩
 | true =>
  cases hc:(c1==c2) with
  | false =>
   go_enter Tryz.func62,Tryz.ntmps62;go_wp2_with fail;go_ret;exact⟨rfl,HB0.out⟩
  | true =>
   go_enter Tryz.func62,Tryz.ntmps62;go_wp2_with (go_at_call 61;refine HN.out.mono ?_;rintro e w1 ⟨rfl,hb1⟩);go_ret;exact⟨rfl,HB0.out.trans (hb1.mono HB0.out.size)⟩
theorem jeg (a b:Int) (w:World) (ha:U64 a) (hb:U64 b):Calls Tryz.prog 164 #[.int .u64 a,.int .u64 b] w fun e w'=>e=.returned (.int .u64 (jdl a b))/\w'=w:=by
 obtain⟨a0,a1⟩:=ha;obtain⟨b0,b1⟩:=hb;by_cases hc:18446744073709551615-a<b
 ·have hs:jdl a b=18446744073709551615:=by unfold jdl;rw[if_pos hc]
  rw[hs];have t1:18446744073709551615-b<a:=by omega
  clear hc hs;go_enter Tryz.func164,Tryz.ntmps164;go_wp2_with fail;go_ret;exact⟨rfl,rfl⟩
 ·have hs:jdl a b=a+b:=by unfold jdl;rw[if_neg hc]
  rw[hs];have t1:¬ 18446744073709551615-b<a:=by omega
  have t2:IntKind.u64.wrap (a+b)=a+b:=jn0 _ (by omega) (by omega);clear hc hs;go_enter Tryz.func164,Tryz.ntmps164;go_wp2_with fail;go_ret;exact⟨rfl,rfl⟩
theorem jg5 (c:Nat) (l:List Int) (a:Option Addr) (len cap:Nat) (w:World) (hc:c=4\/c=8\/c=16\/c=32) (hl:len=l.length) (hn:l.length=c+c) :
  Calls Tryz.prog 142 #[.agg #[.int .i64 2,.int .i64 c,.slice a len cap]] w fun e w'=>e=.returned (.bool true)/\Below w.heap.size w w':=by
 have h:=jbE 2 c a len cap l w (by rcases hc with rfl | rfl | rfl | rfl<;>exact⟨by decide,by decide⟩) hl
 have hr:jaN 2 c l=true:=by
  unfold jaN;rw[hn,Bool.and_eq_true];exact⟨jeX c hc,by rw[beq_iff_eq];omega⟩
 rw[hr] at h;exact h
theorem jrm {W:World} {b:Nat} {x y z:Value} {t:TypeId} (u v q:Value) (h:W.heap[b]? = some (.cells #[x,y,z] t (0,0))) :
  ∃ V,((W.setCell ⟨b,0,none⟩ u).setCell ⟨b,1,none⟩ v).setCell ⟨b,2,none⟩ q=V/\V.heap[b]? = some (.cells #[u,v,q] t (0,0))/\OnlyAt b W V/\(∀ n w0,Below n w0 W->n<=b->Below n w0 V) :=
 ⟨_,rfl,hSk (hSk (hSk h _) _) _,(((OnlyAt.refl _ _).set _ _).set _ _).set _ _,fun _ _ hb hn=>((hb.setCell (p:=⟨b,0,none⟩) hn _).setCell (p:=⟨b,1,none⟩) hn _).setCell (p:=⟨b,2,none⟩) hn _⟩
theorem jdp {n:Nat} (h:n<1000):wrap64 (n:Int)=(n:Int):=jbl n (by omega)
theorem jlc {l:List Int} {a:Option Addr} {len cap n i:Nat} {w:World} (h:SlC jbH 1 n w a len cap l) (hi:i<l.length):∃ b off,a=some ⟨b,off,none⟩/\b<n/\w.cell? ⟨b,off+i,none⟩=some (.int .u64 (l.getD i 0)):=by
 obtain⟨y,hy⟩:∃ y,l[i]? = some y:=⟨_,List.getElem?_eq_getElem hi⟩;obtain⟨b,off,e,hb,hc⟩:=h.1.2 i y hy;have h1:=hc 0 (by omega);rw[Nat.mul_one] at h1;refine⟨b,off,e,hb,?_⟩;rw[List.getD_eq_getElem?_getD,hy];exact h1
end Go.Proofs.YtieknocphiceoaaGreatDoor

/- References: ref04.Get; ref05.term. The reference of layer 5: terms. aviaryref04.Same; series.Same of tables of the same series. The reference of layer 4: Less. The reference of layer 4: Right. The reference of layer 5: IsPattern. The reference of layer 5: Right. What SeriesOrders and SeriesOwn have in common: boxes of series that are stored into; Put as a function. -/
import Derived.Test.YtafhpamnegmilaaGreatDoorZFE
set_option maxHeartbeats 4000000
set_option maxRecDepth 100000
namespace Go.Proofs.YtafhpamnegmilaaGreatDoor
open Go Go.RowKit Go.Shelf
theorem jrg {l:List Lab} {k:Nat} {x:Lab} (n:ByteArray) (h:l[k]? = some x):ja5 (l.drop k) n=if x.name.toList==n.toList then some x.value else ja5 (l.drop (k+1)) n:=by
 rw[jat h];rfl
theorem jkI (a:Option Addr) (len cap:Nat) (l:List Lab) (n:ByteArray) (w:World) (h:SlE Lab.enc 2 w.heap.size w a len l) (M:len<=maxLen) :
  CR 71 #[.slice a len cap,.string n] w (.tuple #[.string ((ja5 l n).getD ⟨#[]⟩),.bool (ja5 l n).isSome]):=by
 have J:=Lib.hid h.1;unfold maxLen at M;have E:Hid (ja5 l n=ja5 (l.drop 0) n):=rfl;generalize ja5 l n=R at E ⊢;go_enter Tryz.func71,Tryz.ntmps71;go_wp2_with fail;go_loopw [6] (fun i wr=>∃ (k:Nat),i=.int .i64 k/\k<=len/\Bw w wr/\Hid (R=ja5 (l.drop k) n)) (fun i _=>len-(intOf i).toNat)
 case atStart=>exact⟨0,rfl,Nat.zero_le _,Below.refl _ _,E⟩
 case round =>
  obtain⟨k,rfl,P,B,G⟩:=hrel;by_cases D:k<len
  ·obtain⟨x,b,off,I,L,O,C⟩:=(h.below B).at D
   subst L;have Q:wr.cell? ⟨b,off+k*2,none⟩=some (.string x.name):=C 0 (by omega);have S:wr.cell? ⟨b,off+k*2+1,none⟩=some (.string x.value):=C 1 (by omega);have i0:(0:Int)<=(k:Int):=by omega
   have N:(k:Int)<(len:Int):=by omega
   have F:Hid (R=if x.name.toList==n.toList then some x.value else ja5 (l.drop (k+1)) n):=by rw[Hid,G.out,jrg n I]
   clear C I h
   cases H:(x.name.toList==n.toList) with
   | true =>
    have A:Hid (R=some x.value):=by rw[Hid,F.out,H];rfl
    go_wp2_with fail;go_ret2;exact⟨by rw[A.out];rfl,B⟩
   | false =>
    have A:Hid (R=ja5 (l.drop (k+1)) n):=by rw[Hid,F.out,H];rfl
    go_wp2_with fail;go_roundw
    case rel=>exact⟨k+1,by go_num,by omega,B,A.out⟩
    case measure=>simp[intOf];omega
  ·have N:¬ (k:Int)<(len:Int):=by omega
   have A:Hid (R=none):=by
    rw[Hid,G.out,List.drop_of_length_le (by have:=J.out;omega)];rfl
   go_wp2_with fail;go_ret2;exact⟨by rw[A.out];rfl,B⟩
theorem jlK (c:UInt8):∀ (l:List UInt8) (k:Nat),l[k]? = some c->(∀ j,j<k->l[j]? ≠ some c)->Lib.index l [c]=(k:Int)
 | [],k,h,_=>by simp at h
 | b::l,0,h,_=>by
  have A:b=c:=by simpa using h
  subst A;simp[Lib.index,List.isPrefixOf]
 | b::l,k+1,h,hn=>by
  have A:¬ c=b:=fun e=>hn 0 (Nat.succ_pos k) (by rw[e];rfl)
  have C:=jlK c l k (by simpa using h) (fun j D=>by have:=hn (j+1) (by omega);simpa using this);have B:((k:Int) == -1)=false:=by rw[beq_eq_false_iff_ne];omega
  simp[Lib.index,List.isPrefixOf,A,C,B]
theorem jok (c:UInt8):∀ (l:List UInt8),(∀ j:Nat,l[j]? ≠ some c)->Lib.index l [c] = -1
 | [],_=>rfl
 | b::l,hn=>by
  have A:¬ c=b:=fun e=>hn 0 (by rw[e];rfl)
  have B:=jok c l (fun j=>by have:=hn (j+1);simpa using this);simp[Lib.index,List.isPrefixOf,A,B]
theorem jgA (s:ByteArray) (j:Nat) (h:j<s.size):s.data.toList[j]? = some (s[j]'h):=by
 rw[List.getElem?_eq_getElem (by rw[Array.length_toList];exact h)];rfl
theorem jwF (s:ByteArray) (k:Nat) (A:k<s.size) (B:s[k]'A=61) (F:∀ j (h:j<s.size),j<k->s[j]'h≠61):jbo s=(s.extract 0 k,s.extract (k+1) s.size):=by
 have D:Lib.index s.data.toList [61]=(k:Int):=jlK 61 _ k (by rw[jgA s k A,B]) (fun j E e=>by
  rw[jgA s j (by omega)] at e;exact F j (by omega) E (Option.some.inj e))
 have C:jfp s=(s.extract 0 k,s.extract (k+1) s.size,true):=by
  unfold jfp Lib.cut;rw[D,if_pos (Int.natCast_nonneg k),Int.toNat_natCast];dsimp only;congr 1
  ·apply ByteArray.ext
   apply Array.ext';rw[ByteArray.data_extract,Array.toList_extract,List.extract_eq_take_drop];simp
  ·congr 1
   apply ByteArray.ext;apply Array.ext';rw[jeg];rfl
 unfold jbo;rw[C];rfl
theorem jtC (s:ByteArray) (C:∀ j (h:j<s.size),s[j]'h≠61):jbo s=(⟨#[]⟩,⟨#[]⟩):=by
 have B:Lib.index s.data.toList [61] = -1:=jok 61 _ (fun j e=>by
  by_cases A:j<s.size
  ·rw[jgA s j A] at e
   exact C j A (Option.some.inj e)
  ·rw[List.getElem?_eq_none (by rw[Array.length_toList];exact Nat.le_of_not_lt A)] at e
   cases e)
 unfold jbo jfp Lib.cut;rw[B,if_neg (show ¬ (0:Int) <= -1 by decide)];rfl
theorem jfu (s:ByteArray) (w:World) (O:s.size<4294967281) :
  Calls Tryz.prog 68 #[.string s] w fun e w'=>e=.returned (.tuple #[.string (jbo s).1,.string (jbo s).2])/\∃ m,w'=w.drewN m:=by
 have I:=Lib.hid (jwF s);have J:=Lib.hid (jtC s);generalize jbo s=T at I J ⊢;go_enter Tryz.func68,Tryz.ntmps68;go_wp2_with fail;go_loopw [4] (fun i wr=>∃ (k:Nat),i=.int .i64 k/\k<=s.size/\(∃ m,wr=w.drewN m)/\Hid (∀ j (h:j<s.size),j<k->s[j]'h≠61)) (fun i _=>s.size-(intOf i).toNat)
 case atStart=>exact⟨0,rfl,Nat.zero_le _,⟨0,rfl⟩,fun j h L=>absurd L (Nat.not_lt_zero j)⟩
 case round =>
  obtain⟨k,rfl,N,C,F⟩:=hrel;by_cases B:k<s.size
  ·have i0:(0:Int)<=(k:Int):=by omega
   have M:(k:Int)<(s.size:Int):=by omega
   have P:=UInt8.toNat_lt (s[k]'B);by_cases A:(s[k]'B).toNat=61
   ·have G:(((s[k]'B).toNat:Int)==61)=true:=beq_iff_eq.2 (by omega)
    have D:Hid (T=(s.extract 0 k,s.extract (k+1) s.size)):=I.out k B (UInt8.toNat_inj.1 A) F.out;have Q:(k:Int)+1<=(s.size:Int):=by omega
    have R:(k:Int)<=(s.size:Int):=by omega
    have S:(0:Int)<=(k:Int)+1:=by omega
    have E:=Lib.hid C;clear A C;go_wp2_with fail;go_quiet (fail);go_wp2_with fail;go_ret2;exact⟨by rw[D.out];rfl,jdK E.out _⟩
   ·have G:(((s[k]'B).toNat:Int)==61)=false:=beq_eq_false_iff_ne.2 (by omega)
    have D:Hid (∀ j (h:j<s.size),j<k+1->s[j]'h≠61):=fun j h L=>by
     by_cases H:j=k
     ·subst H
      intro e;rw[e] at A;exact A rfl
     ·exact F.out j h (by omega)
    have E:=Lib.hid C;clear A C;go_wp2_with fail;go_roundw
    case rel=>exact⟨k+1,by go_num,by omega,E.out,D.out⟩
    case measure=>simp[intOf];omega
  ·have M:¬ (k:Int)<(s.size:Int):=by omega
   have D:Hid (T=(⟨#[]⟩,⟨#[]⟩)):=J.out fun j h=>F.out j h (by omega)
   have E:=Lib.hid C;clear C;go_wp2_with fail;go_ret2;exact⟨by rw[D.out];rfl,E.out⟩
section
def jeq (s:jb4) (p:Nat):List ByteArray:=(jbC ⟨s.1.extract p s.1.size,Nat.lt_of_le_of_lt (jcr _ _ _) s.2⟩).map (·.1)
theorem jgj (c:UInt8):∀ (l:List UInt8) (k:Nat),l[k]? = some c->(∀ j:Nat,j<k->l[j]? ≠ some c)->Lib.indexByte l c=(k:Int)
 | [],k,h,_=>by simp at h
 | b::l,0,h,_=>by
  have A:b=c:=by simpa using h
  subst A;simp[Lib.indexByte]
 | b::l,k+1,h,hn=>by
  have A:¬ b=c:=fun e=>hn 0 (Nat.succ_pos k) (by rw[e];rfl)
  have B:=jgj c l k (by simpa using h) (fun j E=>by have:=hn (j+1) (by omega);simpa using this);have C:¬ ((k:Int) = -1):=by omega
  have D:¬ ((k:Int)<0):=by omega
  simp[Lib.indexByte,A,B]
  try omega
theorem jg5 (c:UInt8):∀ (l:List UInt8),(∀ j:Nat,l[j]? ≠ some c)->Lib.indexByte l c<0
 | [],_=>by simp[Lib.indexByte]
 | b::l,hn=>by
  have A:¬ b=c:=fun e=>hn 0 (by rw[e];rfl)
  have B:=jg5 c l (fun j=>by have:=hn (j+1);simpa using this);simp[Lib.indexByte,A]
  try (split<;>omega)
theorem ju8 {a b:jb4} (h:a.1=b.1):(jbC a).map (·.1)=(jbC b).map (·.1):=by rw[Subtype.ext h]
theorem jm4 (s:ByteArray) (p j:Nat):(s.extract p s.size).data.toList[j]? = s.data.toList[p+j]? := by rw[jeg,List.getElem?_drop]
theorem jqP (s:ByteArray) (p i:Nat):(s.extract p s.size).extract 0 (i-p)=s.extract p i:=by
 apply ByteArray.ext;apply Array.ext';rw[jod,ByteArray.data_extract,Array.toList_extract,List.extract_eq_take_drop]
theorem juF (s:jb4) (p i:Nat) (G:p<=i) (A:i<s.1.size) (B:s.1[i]'A=59) (C:∀ j (h:j<s.1.size),p<=j->j<i->s.1[j]'h≠59):jeq s p=s.1.extract p i::jeq s (i+1):=by
 have E:Lib.indexByte (s.1.extract p s.1.size).data.toList 59=((i-p:Nat):Int):=jgj 59 _ _ (by rw[jm4,show p+(i-p)=i by omega,jgA s.1 i A,B]) (fun j F e=>by
  rw[jm4,jgA s.1 (p+j) (by omega)] at e;exact C (p+j) (by omega) (by omega) (by omega) (Option.some.inj e))
 have D:jeu (s.1.extract p s.1.size)=some (i-p):=by
  unfold jeu;rw[E,if_neg (by omega),Int.toNat_natCast]
 unfold jeq;rw[jiV ⟨s.1.extract p s.1.size,Nat.lt_of_le_of_lt (jcr _ _ _) s.2⟩ (i-p) D,List.map_cons];refine List.cons_eq_cons.2 ⟨jqP s.1 p i,ju8 ?_⟩;show (s.1.extract p s.1.size).extract (i-p+1) (s.1.extract p s.1.size).size=s.1.extract (i+1) s.1.size;rw[jqO,show p+(i-p+1)=i+1 by omega]
theorem juE (s:jb4) (p:Nat) (B:∀ j (h:j<s.1.size),p<=j->s.1[j]'h≠59):jeq s p=[s.1.extract p s.1.size]:=by
 have C:jeu (s.1.extract p s.1.size)=none:=by
  unfold jeu;rw[if_pos (jg5 59 _ fun j e=>?_)];rw[jm4] at e;by_cases A:p+j<s.1.size
  ·rw[jgA s.1 (p+j) A] at e
   exact B (p+j) A (by omega) (Option.some.inj e)
  ·rw[List.getElem?_eq_none (by rw[Array.length_toList];exact Nat.le_of_not_lt A)] at e
   cases e
 unfold jeq;rw[jiU ⟨s.1.extract p s.1.size,Nat.lt_of_le_of_lt (jcr _ _ _) s.2⟩ C];rfl
theorem juG (s:jb4):(jbC s).map (·.1)=jeq s 0:=by
 unfold jeq;exact ju8 (by show s.1=s.1.extract 0 s.1.size;exact (ByteArray.extract_zero_size).symm)
def jhL (l:List ByteArray) (w:World) (e:Ending) (w':World):Prop:=∃ a cap,e=.returned (.slice a l.length cap)/\SlC jf6 1 w'.heap.size w' a l.length cap l/\Bw w w'
attribute [-go_sem] Builtin.append_
theorem jeP (s:jb4) (w:World):Calls Tryz.prog 67 #[.string s.1] w (jhL ((jbC s).map (·.1)) w):=by
 have O:Hid ((jbC s).map (·.1)=jeq s 0):=juG s;have U:=Lib.hid (juF s);have R:=Lib.hid (juE s);have y:=s.2;obtain⟨F,l⟩:∃ F,jeq s=F:=⟨_,rfl⟩;rw[l] at O U R;obtain⟨T,m⟩:∃ T,(jbC s).map (·.1)=T:=⟨_,rfl⟩;rw[m] at O ⊢;obtain⟨t,ht⟩:=s;dsimp only at U R y ⊢;clear l m;go_enter Tryz.func67,Tryz.ntmps67;go_wp2_with fail;go_loopw [3,4,5] (fun ov r i wr=>∃ (p k:Nat) (done:List ByteArray),i=.int .i64 k/\r=.int .i64 p/\k<=t.size+1/\p<=t.size+1/\p<=k/\done.length<=k/\Bw w wr/\Hid (GrowT wr w.heap.size ov done)/\Hid (k<=t.size->T=done++F p/\∀ j (h:j<t.size),p<=j->j<k->t[j]'h≠59)/\Hid (k=t.size+1->T=done)) (fun _ _ i _=>t.size+1-(intOf i).toNat)
 case atStart=>exact⟨0,0,[],rfl,rfl,Nat.zero_le _,Nat.zero_le _,Nat.le_refl _,Nat.le_refl _,Below.refl _ _,⟨rfl,.inl ⟨rfl,rfl⟩⟩,fun _=>⟨O.out,fun j h _ x=>absurd x (Nat.not_lt_zero j)⟩,fun h=>by omega⟩
 case round =>
  obtain⟨p,k,done,rfl,rfl,hk,hp,a,v,N,L,c,d⟩:=hrel;obtain⟨oa,oc,rfl⟩:=L.out.form;have i0:(0:Int)<=(k:Int):=by omega
  have p0:(0:Int)<=(p:Int):=by omega
  by_cases Y:k<=t.size
  ·obtain⟨H,M⟩:=c.out Y
   have P:=Lib.hid H;have Q:=Lib.hid M;have i1:(k:Int)<=(t.size:Int):=by omega
   have i2:(p:Int)<=(k:Int):=by omega
   obtain⟨g,f,w5,V,J,I,b,-⟩:=L.out.push N (Nat.le_refl _) N.size (by omega) (t.extract p k);have G:=Lib.hid J;have E:=Lib.hid I;clear H M J I b c d;by_cases A:k=t.size
   ·have o:((k:Int)==(t.size:Int))=true:=beq_iff_eq.2 (by omega)
    have D:Hid (T=done++[t.extract p k]):=by
     rw[Hid,P.out,R.out p (fun j h Z=>Q.out j h Z (by omega)),A]
    have S:=Lib.hid A;clear A;go_wp2_with fail;go_roundw
    case rel=>exact⟨k+1,k+1,done++[t.extract p k],by go_num,by go_num,by omega,by omega,Nat.le_refl _,by rw[List.length_append];simp;omega,E.out,by rw[Hid];exact G.out,fun h=>by have:=S.out;omega,fun _=>D.out⟩
    case measure=>simp[intOf];omega
   ·have o:((k:Int)==(t.size:Int))=false:=beq_eq_false_iff_ne.2 (by omega)
    have C:k<t.size:=by omega
    have i3:(k:Int)<(t.size:Int):=by omega
    have hu:=UInt8.toNat_lt (t[k]'C);by_cases B:(t[k]'C).toNat=59
    ·have q:(((t[k]'C).toNat:Int)==59)=true:=beq_iff_eq.2 (by omega)
     have D:Hid (T=(done++[t.extract p k])++F (k+1)):=by
      rw[Hid,P.out,U.out p k a C (UInt8.toNat_inj.1 B) Q.out,List.append_assoc];rfl
     clear B A;go_wp2_with fail;go_roundw
     case rel=>exact⟨k+1,k+1,done++[t.extract p k],by go_num,by go_num,by omega,by omega,Nat.le_refl _,by rw[List.length_append];simp;omega,E.out,G.out,fun _=>⟨D.out,fun j h H M=>by omega⟩,fun h=>by omega⟩
     case measure=>simp[intOf];omega
    ·have q:(((t[k]'C).toNat:Int)==59)=false:=beq_eq_false_iff_ne.2 (by omega)
     have D:Hid (∀ j (h:j<t.size),p<=j->j<k+1->t[j]'h≠59):=fun j h H M=>by
      by_cases X:j=k
      ·subst X
       intro e;rw[e] at B;exact B rfl
      ·exact Q.out j h H (by omega)
     clear B A V;go_wp2_with fail;go_roundw
     case rel=>exact⟨p,k+1,done,by go_num,rfl,by omega,by omega,by omega,by omega,N,L.out,fun _=>⟨P.out,D.out⟩,fun h=>by omega⟩
     case measure=>simp[intOf];omega
  ·have i1:¬ (k:Int)<=(t.size:Int):=by omega
   have D:Hid (T=done):=d.out (by omega);have n:=Lib.hid L.out.slC;go_wp2_with fail;go_ret;obtain⟨a',c',z,u⟩:=n.out
   cases z
   rw[D.out];exact⟨_,_,rfl,u,N⟩
end
theorem jjb (a:Option Addr) (A H:Nat) (Q:List Lab) (b:Option Addr) (C I:Nat) (R:List Lab) (w:World) (L:SlE Lab.enc 2 w.heap.size w a A Q) (M:SlE Lab.enc 2 w.heap.size w b C R) (p:A<=maxLen) :
  CR 87 #[.slice a A H,.slice b C I] w (.bool (Q==R)):=by
 have J:=L.1;have S:=M.1;unfold maxLen at p;by_cases V:A=C
 ·subst V
  have r:((A:Int) != (A:Int))=false:=by simp
  have l:=Lib.hid J;have m:=Lib.hid S;clear J S;go_enter Tryz.func87,Tryz.ntmps87;go_wp2_with fail;go_loopw [5] (fun i wr=>∃ (k:Nat),i=.int .i64 k/\k<=A/\Bw w wr/\Hid (Q.take k=R.take k)) (fun i _=>A-(intOf i).toNat)
  case atStart=>exact⟨0,rfl,Nat.zero_le _,Below.refl _ _,rfl⟩
  case round =>
   obtain⟨k,rfl,s,N,X⟩:=hrel;by_cases O:k<A
   ·obtain⟨x,c,h,P,T,n,E⟩:=(L.below N).at O
    obtain⟨y,d,j,g,U,o,F⟩:=(M.below N).at O;subst T;subst U;have v:wr.cell? ⟨c,h+k*2,none⟩=some (.string x.name):=E 0 (by omega);have z:wr.cell? ⟨c,h+k*2+1,none⟩=some (.string x.value):=E 1 (by omega);have q0:wr.cell? ⟨d,j+k*2,none⟩=some (.string y.name):=F 0 (by omega);have q1:wr.cell? ⟨d,j+k*2+1,none⟩=some (.string y.value):=F 1 (by omega);have u:=jqJ;have i0:(0:Int)<=(k:Int):=by omega
    have t:(k:Int)<(A:Int):=by omega
    have Y:=Lib.hid P;have Z:=Lib.hid g;clear E F P g L M;by_cases B:x=y
    ·have q:∀ w,(binOp .neq 57 (.agg #[.string x.name,.string x.value]) (.agg #[.string y.name,.string y.value])).run Tryz.prog w=.ok (.bool false) w:=fun w=>by rw[jkC,jc0,jc0,B];simp
     have D:Hid (x=y):=B;clear B;go_wp2_with fail;go_quiet (fail);go_wp2_with fail;go_roundw
     case rel=>exact⟨k+1,by go_num,by omega,bDr N _,by rw[Hid,jai Y.out,jai Z.out,X.out,D.out]⟩
     case measure=>simp[intOf];omega
    ·have q:∀ w,(binOp .neq 57 (.agg #[.string x.name,.string x.value]) (.agg #[.string y.name,.string y.value])).run Tryz.prog w=.ok (.bool true) w:=fun w=>by rw[jkC,jc0,jc0];cases x;cases y;simp only[Lab.mk.injEq] at B;rw[<- Bool.decide_and,decide_eq_false B];rfl
     have D:Hid (¬ x=y):=B;clear B;go_wp2_with fail;go_quiet (fail);go_wp2_with fail;go_ret
     have G:(Q==R)=false:=by
      rw[beq_eq_false_iff_ne];intro e;have P:=Y.out;rw[e,Z.out] at P;exact D.out (Option.some.inj P).symm
     exact⟨by rw[G];rfl,bDr N _⟩
   ·obtain rfl:k=A:=by omega
    clear L M;go_wp2_with fail;go_ret;have f:=X.out;rw[List.take_of_length_le (by rw[<- l.out];omega),List.take_of_length_le (by rw[<- m.out];omega)] at f;exact⟨by rw[f];simp,N⟩
 ·have r:((A:Int) != (C:Int))=true:=by rw[bne_iff_ne];omega
  have G:Hid ((Q==R)=false):=by
   rw[Hid,beq_eq_false_iff_ne];intro e;rw[e,<- S] at J;exact V J
  clear L M J S V;go_enter Tryz.func87,Tryz.ntmps87;go_wp2_with fail;go_ret;exact⟨by rw[G.out];rfl,Below.refl _ _⟩
theorem jt5 {A B:List Lab} {k:Nat} {x y:Lab} (C:A[k]? = some x) (D:B[k]? = some y):jb2 (A.drop k) (B.drop k)=if jem x y=0 then jb2 (A.drop (k+1)) (B.drop (k+1)) else decide (jem x y<0):=by
 rw[jat C,jat D,jb2]
theorem jjG {A B:List Lab} {k:Nat} (E:k<=A.length) (F:k<=B.length) (h:¬ (k<A.length/\k<B.length)):jb2 (A.drop k) (B.drop k)=decide (A.length<B.length):=by
 have C:(A.drop k).length=A.length-k:=List.length_drop;have D:(B.drop k).length=B.length-k:=List.length_drop
 have key:jb2 (A.drop k) (B.drop k)=decide ((A.drop k).length<(B.drop k).length):=by
  generalize A.drop k=u at C;generalize B.drop k=v at D
  cases u with
  | nil=>rfl
  | cons x xs =>
   cases v with
   | nil=>rfl
   | cons y ys=>simp only[List.length_cons] at C D;omega
 rw[key,C,D];exact decide_eq_decide.2 (by omega)
theorem jja (u:Option Addr) (A T:Nat) (E:List Lab) (v:Option Addr) (B U:Nat) (G:List Lab) (w:World) (n:SlE Lab.enc 2 w.heap.size w u A E) (o:SlE Lab.enc 2 w.heap.size w v B G) (ho:jfs E) (q:A<=maxLen) :
  CR 66 #[.slice u A T,.slice v B U] w (.bool (jau E G)):=by
 unfold maxLen at q;have P:=Lib.hid n.1;have Q:=Lib.hid o.1;have t:Hid (jau E G=jb2 (E.drop 0) (G.drop 0)):=(jii E G).symm;generalize jau E G=R at t ⊢;have HA:=Lib.hid n;have HB:=Lib.hid o;clear n o;go_enter Tryz.func66,Tryz.ntmps66;go_wp2_with fail;go_loopw [5] (fun i wr=>∃ (k:Nat),i=.int .i64 k/\k<=A/\k<=B/\Bw w wr/\Hid (R=jb2 (E.drop k) (G.drop k))) (fun i _=>A-(intOf i).toNat)
 case atStart=>exact⟨0,rfl,Nat.zero_le _,Nat.zero_le _,Below.refl _ _,t⟩
 case round =>
  obtain⟨k,rfl,hk,ac,F,S⟩:=hrel;by_cases p:k<A
  ·by_cases X:k<B
   ·obtain⟨x,Z,c,r,j,aa,N⟩:=(HA.out.below F).at p
    obtain⟨y,a,d,hy,l,ab,O⟩:=(HB.out.below F).at X;subst j;subst l;have p0:wr.cell? ⟨Z,c+k*2,none⟩=some (.string x.name):=N 0 (by omega);have f:wr.cell? ⟨Z,c+k*2+1,none⟩=some (.string x.value):=N 1 (by omega);have q0:wr.cell? ⟨a,d+k*2,none⟩=some (.string y.name):=O 0 (by omega);have g:wr.cell? ⟨a,d+k*2+1,none⟩=some (.string y.value):=O 1 (by omega);have i0:(0:Int)<=(k:Int):=by omega
    have i1:(k:Int)<(A:Int):=by omega
    have i2:(k:Int)<(B:Int):=by omega
    obtain⟨on,ov⟩:=ho x (List.mem_of_getElem? r);have Y:Hid (∀ w,Calls Tryz.prog 70 #[.string x.name,.string y.name] w fun e w'=>e=.returned (.int .i64 (jdi x.name.data.toList y.name.data.toList))/\∃ m,w'=w.drewN m):=fun w=>jcv _ _ w on
    have h:Hid (∀ w,Calls Tryz.prog 70 #[.string x.value,.string y.value] w fun e w'=>e=.returned (.int .i64 (jdi x.value.data.toList y.value.data.toList))/\∃ m,w'=w.drewN m):=fun w=>jcv _ _ w ov
    have L:=Lib.hid (jt5 r hy);have J:Hid (jem x y=if jdi x.name.data.toList y.name.data.toList=0 then jdi x.value.data.toList y.value.data.toList else jdi x.name.data.toList y.name.data.toList):=rfl;generalize jem x y=z at L J;generalize jdi x.name.data.toList y.name.data.toList=zn at Y J;generalize jdi x.value.data.toList y.value.data.toList=zv at h J;clear N O r hy;by_cases I:zn=0
    ·have t0:(zn==0)=true:=beq_iff_eq.2 I
     have b:z=zv:=by rw[J.out,if_pos I]
     clear J I;subst b;by_cases v0:z=0
     ·have t1:(z != 0)=false:=by rw[bne_eq_false_iff_eq];exact v0
      have H:Hid (R=jb2 (E.drop (k+1)) (G.drop (k+1))):=by rw[Hid,S.out,L.out,if_pos v0]
      clear v0 L;go_wp2_with fail;go_quiet ((go_at_call 70;exact Calls.quiet_of (Y.out _)));obtain⟨D,C⟩:∃ D,D=wr.drewN nq:=⟨_,rfl⟩;have M:Bw w D:=C▸bDr F _;have P1:D.cell? ⟨Z,c+k*2+1,none⟩=some (.string x.value):=by rw[C];exact f
      have Q1:D.cell? ⟨a,d+k*2+1,none⟩=some (.string y.value):=by rw[C];exact g
      rw[<- C];clear p0 f q0 g F C;go_wp2_with fail;go_quiet ((go_at_call 70;exact Calls.quiet_of (h.out _)));go_wp2_with fail;go_roundw
      case rel=>exact⟨k+1,by go_num,by omega,by omega,bDr M _,H.out⟩
      case measure=>simp[intOf];omega
     ·have t1:(z != 0)=true:=by rw[bne_iff_ne];exact v0
      have H:Hid (R=decide (z<0)):=by rw[Hid,S.out,L.out,if_neg v0]
      clear v0 L;go_wp2_with fail;go_quiet ((go_at_call 70;exact Calls.quiet_of (Y.out _)));obtain⟨D,C⟩:∃ D,D=wr.drewN nq:=⟨_,rfl⟩;have M:Bw w D:=C▸bDr F _;have P1:D.cell? ⟨Z,c+k*2+1,none⟩=some (.string x.value):=by rw[C];exact f
      have Q1:D.cell? ⟨a,d+k*2+1,none⟩=some (.string y.value):=by rw[C];exact g
      rw[<- C];clear p0 f q0 g F C;go_wp2_with fail;go_quiet ((go_at_call 70;exact Calls.quiet_of (h.out _)));go_wp2_with fail;go_ret;exact⟨by rw[H.out];rfl,bDr M _⟩
    ·have t0:(zn==0)=false:=beq_eq_false_iff_ne.2 I
     have t1:(zn != 0)=true:=by rw[bne_iff_ne];exact I
     have b:z=zn:=by rw[J.out,if_neg I]
     have H:Hid (R=decide (zn<0)):=by rw[Hid,S.out,L.out,b,if_neg I]
     clear J I L b;go_wp2_with fail;go_quiet ((go_at_call 70;exact Calls.quiet_of (Y.out _)));go_wp2_with fail;go_ret;exact⟨by rw[H.out];rfl,(by first | exact bDr F _ | exact bDr (bDr F _) _)⟩
   ·have V:R=decide (E.length<G.length):=by rw[S.out,jjG (by have:=P.out;omega) (by have:=Q.out;omega) (by have:=P.out;have:=Q.out;omega)]
    have H:=Lib.hid V;clear V;have s:decide ((A:Int)<(B:Int))=decide (A<B):=decide_eq_decide.2 (by omega);go_wp2_with fail;go_ret;exact⟨by rw[H.out];first | rfl | (rw[<- P.out,<- Q.out,<- s];rfl),F⟩
  ·have V:R=decide (E.length<G.length):=by rw[S.out,jjG (by have:=P.out;omega) (by have:=Q.out;omega) (by have:=P.out;have:=Q.out;omega)]
   have H:=Lib.hid V;clear V;have s:decide ((A:Int)<(B:Int))=decide (A<B):=decide_eq_decide.2 (by omega);go_wp2_with fail;go_ret;exact⟨by rw[H.out];first | rfl | (rw[<- P.out,<- Q.out,<- s];rfl),F⟩
theorem jo6 {w w':World} (h:∃ m,w'=w.drewN m):Bw w w':=by
 obtain⟨m,rfl⟩:=h;exact bDr (Below.refl _ _) m
def jez (l:List Lab) (k:Nat):Option ByteArray:=if k=0 then none else (l[k-1]?).map (·.name)
theorem jqZ {l:List Lab} {x:Lab} (A:l[0]? = some x):jcA (jez l 0) (l.drop 0)=(jb8 x.name&&jbx x.value&&jcA (jez l 1) (l.drop 1)):=by
 rw[jat A];have:jez l 1=some x.name:=by unfold jez;rw[if_neg (by decide)];show (l[0]?).map (·.name)=_;rw[A];rfl
 rw[this];rfl
theorem jtK {l:List Lab} {k:Nat} {x y:Lab} (E:0<k) (A:l[k]? = some x) (D:l[k-1]? = some y):jcA (jez l k) (l.drop k)=(jb8 x.name&&jbx x.value && !decide (0<=jdi y.name.data.toList x.name.data.toList)&&jcA (jez l (k+1)) (l.drop (k+1))):=by
 rw[jat A];have B:jez l (k+1)=some x.name:=by unfold jez;rw[if_neg (by omega)];show (l[k+1-1]?).map (·.name)=_;rw[Nat.add_sub_cancel,A];rfl
 have C:jez l k=some y.name:=by unfold jez;rw[if_neg (by omega),D];rfl
 rw[B,C];rfl
theorem jcw (a:Option Addr) (len cap:Nat) (l:List Lab) (w:World) (h:SlE Lab.enc 2 w.heap.size w a len l) (ho:jfs l) (hm:len<=maxLen) :
  CR 64 #[.slice a len cap] w (.bool (jal l)):=by
 unfold maxLen at hm;have u:=Lib.hid h.1;have m:Hid (jal l=(jcA (jez l 0) (l.drop 0)&&(decide (1<=l.length)&&decide (l.length<=6)))):=(jlS l).symm;generalize jal l=R at m ⊢;rw[<- u.out] at m;have v:=Lib.hid h;clear h;go_enter Tryz.func64,Tryz.ntmps64;go_wp2_with fail;go_loopw [3] (fun i wr=>∃ (k:Nat),i=.int .i64 k/\k<=len/\Bw w wr/\Hid (R=(jcA (jez l k) (l.drop k)&&(decide (1<=len)&&decide (len<=6))))) (fun i _=>len-(intOf i).toNat)
 case atStart=>exact⟨0,rfl,Nat.zero_le _,Below.refl _ _,m⟩
 case round =>
  obtain⟨k,rfl,hk,L,G⟩:=hrel;by_cases o:k<len
  ·obtain⟨x,b,off,T,ea,M,j⟩:=v.out.at o
   subst ea;have f:Hid (∀ W,Bw w W->W.cell? ⟨b,off+k*2,none⟩=some (.string x.name)/\W.cell? ⟨b,off+k*2+1,none⟩=some (.string x.value)):=fun W F=>⟨(F.cell (p:=⟨b,off+k*2,none⟩) M).trans (j 0 (by omega)),(F.cell (p:=⟨b,off+k*2+1,none⟩) M).trans (j 1 (by omega))⟩
   have i1:(k:Int)<(len:Int):=by omega
   have i0:(0:Int)<=(k:Int):=by omega
   obtain⟨on,ov⟩:=ho x (List.mem_of_getElem? T);have c:Hid (∀ w,CR 115 #[.string x.name] w (.bool (jb8 x.name))):=fun w=>jhm _ w on
   have d:Hid (∀ w,CR 116 #[.string x.value] w (.bool (jbx x.value))):=fun w=>jgM _ w ov
   rcases Nat.eq_zero_or_pos k with U | U
   ·have g0:decide ((0:Int)<(k:Int))=false:=by rw[decide_eq_false_iff_not];omega
    have g1:decide (0<k)=false:=by rw[decide_eq_false_iff_not];omega
    have E:Hid (R=(jb8 x.name&&jbx x.value&&jcA (jez l (k+1)) (l.drop (k+1))&&(decide (1<=len)&&decide (len<=6)))):=by
     subst U;rw[Hid,G.out,jqZ T]
    clear j T U G;generalize jb8 x.name=bn at c E;generalize jbx x.value=bv at d E;let Inv0:World->Prop:=fun W=>Bw w W
    have B:∀ W J,Inv0 W->Bw W J->Inv0 J:=fun W J h M=>Below.trans h (M.mono (Below.size h))
    have H:Hid (∀ X:WIn Inv0,Calls Tryz.prog 115 #[.string x.name] X.world fun e w'=>e=.returned (.bool bn)/\∃ Y:WIn Inv0,w'=Y.world):=fun X=>jac B (c.out X.world)
    have I:Hid (∀ X:WIn Inv0,Calls Tryz.prog 116 #[.string x.value] X.world fun e w'=>e=.returned (.bool bv)/\∃ Y:WIn Inv0,w'=Y.world):=fun X=>jac B (d.out X.world)
    have s:∀ X:WIn Inv0,X.world.cell? ⟨b,off+k*2,none⟩=some (.string x.name):=fun X=>(f.out X.world X.ok).1
    have t:∀ X:WIn Inv0,X.world.cell? ⟨b,off+k*2+1,none⟩=some (.string x.value):=fun X=>(f.out X.world X.ok).2
    have P:Hid (∀ X:WIn Inv0,Bw w X.world):=fun X=>X.ok
    have D:Hid (Inv0 (World.drew wr)):=L.drew;have N:Nonempty (WIn Inv0):=⟨⟨_,D.out⟩⟩;clear B L;clear_value Inv0;obtain rfl | ⟨rfl,rfl⟩ | ⟨rfl,rfl⟩:bn=false\/bn=true/\bv=false\/bn=true/\bv=true:=by cases bn<;>cases bv<;>simp
    all_goals
     go_wp2_with fail;refine jad Inv0 (by kernel_rfl) (by kernel_rfl) D.out ?_
     repeat (first | go_big_quiet_step ((first | (go_at_call 115;with_reducible exact H.out _) | (go_at_call 116;with_reducible exact I.out _) | (go_at_call 70;with_reducible exact Q.out _))) | quiet_step ((first | (go_at_call 115;with_reducible exact H.out _) | (go_at_call 116;with_reducible exact I.out _) | (go_at_call 70;with_reducible exact Q.out _))))
     refine wpQuiet_nil ?_;rintro _ ⟨X,rfl⟩;have A:=P.out X;obtain⟨V,C⟩:∃ V,X.world=V:=⟨_,rfl⟩;rw[C] at A ⊢;clear P H I s t D N C X;go_wp2_with fail
    ·go_ret
     exact⟨by rw[E.out];rfl,A⟩
    ·go_ret
     exact⟨by rw[E.out];rfl,A⟩
    ·go_roundw
     case rel=>exact⟨k+1,by go_num,by omega,A,E.out⟩
     case measure=>simp[intOf];omega
   ·have g0:decide ((0:Int)<(k:Int))=true:=by rw[decide_eq_true_iff];omega
    have g1:decide (0<k)=true:=decide_eq_true U;obtain⟨y,b',aa,q,n,-,S⟩:=v.out.at (show k-1<len by omega)
    cases n
    have HY:Hid (∀ W,Bw w W->W.cell? ⟨b,off+(k-1)*2,none⟩=some (.string y.name)):=fun W F=>(F.cell (p:=⟨b,off+(k-1)*2,none⟩) M).trans (S 0 (by omega))
    obtain⟨oy,-⟩:=ho y (List.mem_of_getElem? q);have HZ:Hid (∀ w,CR 70 #[.string y.name,.string x.name] w (.int .i64 (jdi y.name.data.toList x.name.data.toList))):=fun w=>(jcv _ _ w oy).mono fun e w' ⟨h1,h2⟩=>⟨h1,jo6 h2⟩
    have E:Hid (R=(jb8 x.name&&jbx x.value && !decide (0<=jdi y.name.data.toList x.name.data.toList)&&jcA (jez l (k+1)) (l.drop (k+1))&&(decide (1<=len)&&decide (len<=6)))):=by
     rw[Hid,G.out,jtK U T q]
    have j0:wrap64 ((k:Int)-1)=((k-1:Nat):Int):=by rw[show ((k:Int)-1)=((k-1:Nat):Int) by omega];exact IntWalk.wrap64_in ((k-1:Nat):Int) (by omega)
    have j1:((k-1:Nat):Int)<(len:Int):=by omega
    have j2:(0:Int)<=((k-1:Nat):Int):=Int.natCast_nonneg _;clear j S T q G;generalize jb8 x.name=bn at c E;generalize jbx x.value=bv at d E;generalize jdi y.name.data.toList x.name.data.toList=z at HZ E;let Inv0:World->Prop:=fun W=>Bw w W
    have B:∀ W J,Inv0 W->Bw W J->Inv0 J:=fun W J h M=>Below.trans h (M.mono (Below.size h))
    have H:Hid (∀ X:WIn Inv0,Calls Tryz.prog 115 #[.string x.name] X.world fun e w'=>e=.returned (.bool bn)/\∃ Y:WIn Inv0,w'=Y.world):=fun X=>jac B (c.out X.world)
    have I:Hid (∀ X:WIn Inv0,Calls Tryz.prog 116 #[.string x.value] X.world fun e w'=>e=.returned (.bool bv)/\∃ Y:WIn Inv0,w'=Y.world):=fun X=>jac B (d.out X.world)
    have Q:Hid (∀ X:WIn Inv0,Calls Tryz.prog 70 #[.string y.name,.string x.name] X.world fun e w'=>e=.returned (.int .i64 z)/\∃ Y:WIn Inv0,w'=Y.world):=fun X=>jac B (HZ.out X.world)
    have s:∀ X:WIn Inv0,X.world.cell? ⟨b,off+k*2,none⟩=some (.string x.name):=fun X=>(f.out X.world X.ok).1
    have t:∀ X:WIn Inv0,X.world.cell? ⟨b,off+k*2+1,none⟩=some (.string x.value):=fun X=>(f.out X.world X.ok).2
    have q2:∀ X:WIn Inv0,X.world.cell? ⟨b,off+(k-1)*2,none⟩=some (.string y.name):=fun X=>HY.out X.world X.ok
    have P:Hid (∀ X:WIn Inv0,Bw w X.world):=fun X=>X.ok
    have D:Hid (Inv0 (World.drew wr)):=L.drew;have N:Nonempty (WIn Inv0):=⟨⟨_,D.out⟩⟩;clear B L;clear_value Inv0;obtain⟨Z,r⟩:∃ Z,decide (0<=z)=Z:=⟨_,rfl⟩;rw[r] at E;obtain rfl | ⟨rfl,rfl⟩ | ⟨rfl,rfl,rfl⟩ | ⟨rfl,rfl,rfl⟩:bn=false\/bn=true/\bv=false\/bn=true/\bv=true/\Z=true\/bn=true/\bv=true/\Z=false:=by cases bn<;>cases bv<;>cases Z<;>simp
    all_goals
     go_wp2_with fail;refine jad Inv0 (by kernel_rfl) (by kernel_rfl) D.out ?_
     repeat (first | go_big_quiet_step ((first | (go_at_call 115;with_reducible exact H.out _) | (go_at_call 116;with_reducible exact I.out _) | (go_at_call 70;with_reducible exact Q.out _))) | quiet_step ((first | (go_at_call 115;with_reducible exact H.out _) | (go_at_call 116;with_reducible exact I.out _) | (go_at_call 70;with_reducible exact Q.out _))))
     refine wpQuiet_nil ?_;rintro _ ⟨X,rfl⟩;have A:=P.out X;obtain⟨V,C⟩:∃ V,X.world=V:=⟨_,rfl⟩;rw[C] at A ⊢;clear P H I Q s t q2 D N C X;go_wp2_with fail
    ·go_ret
     exact⟨by rw[E.out];rfl,A⟩
    ·go_ret
     exact⟨by rw[E.out];rfl,A⟩
    ·go_ret
     exact⟨by rw[E.out];rfl,A⟩
    ·go_roundw
     case rel=>exact⟨k+1,by go_num,by omega,A,E.out⟩
     case measure=>simp[intOf];omega
  ·have ab:k=len:=by omega
   have HD:Hid (jcA (jez l k) (l.drop k)=true):=by
    rw[Hid,List.drop_eq_nil_of_le (by have:=u.out;omega)]
    cases jez l k<;>rfl
   by_cases h4:1<=len
   ·by_cases h5:len<=6
    ·have O:Hid (R=true):=by rw[Hid,G.out,HD.out,decide_eq_true h4,decide_eq_true h5];rfl
     have g:decide ((len:Int)<=6)=true:=by rw[decide_eq_true_iff];omega
     go_wp2_with fail;go_ret;exact⟨by rw[O.out];first | rfl | (simp only[g];rfl),L⟩
    ·have O:Hid (R=false):=by rw[Hid,G.out,HD.out,decide_eq_false h5];simp
     have g:decide ((len:Int)<=6)=false:=by rw[decide_eq_false_iff_not];omega
     go_wp2_with fail;go_ret;exact⟨by rw[O.out];first | rfl | (simp only[g];rfl),L⟩
   ·have O:Hid (R=false):=by rw[Hid,G.out,decide_eq_false h4];simp
    go_wp2_with fail;go_ret;exact⟨by rw[O.out];first | rfl | (simp only[g];rfl),L⟩
theorem jnZ {s:ByteArray} (A:jav s=true) {l:List ByteArray} (B:l.map (·.data.toList)=jey s):l.length=(jaJ s 0).length:=by
 have h:=congrArg List.length B;unfold jey at h;rw[List.length_map,if_pos A,joH] at h;rw[h,jaJ,List.length_map]
theorem jsg {s:ByteArray} (A:jav s=true) {l:List ByteArray} (B:l.map (·.data.toList)=jey s) {i:Nat} {t:ByteArray} (ht:l[i]? = some t):∃ u:List UInt8,u≠[]/\jfo u=false/\t.toList=jej u/\(jaJ s 0)[i]? = some ((Lib.decodeL u).1:Int):=by
 have C:(joG s 0)[i]? = some t.data.toList:=by
  unfold jey at B;rw[if_pos A] at B;rw[<- B,List.getElem?_map,ht];rfl
 obtain⟨u,D,E,F,G⟩:=jpY s s.size 0 (by omega) A i _ C;exact⟨u,D,E,by rw[Lib.toList_data];exact F,G⟩
theorem jgw {u:List UInt8} (B:u≠[]) (C:jfo u=false) (b:UInt8) (E:b.toNat<128):(jej u==[b])=(((Lib.decodeL u).1:Int)==(b.toNat:Int)):=by
 have h:=jm7 u B C b E;by_cases A:(Lib.decodeL u).1=b.toNat
 ·rw[h.2 A,A];simp
 ·have D:¬ jej u=[b]:=fun e=>A (h.1 e)
  rw[beq_eq_false_iff_ne.2 D];symm;rw[beq_eq_false_iff_ne];omega
theorem jwa {c:Int} (A:List Int) (h:(c==126)=false):(jar false (c::A)).2=(jar false A).2:=by
 simp only[jar];split
 ·rfl
 ·split
  ·rfl
  ·rw[h];rfl
theorem jrZ (c2:Int) (A:List Int):(jar false (126::c2::A)).2=(jar false A).2:=rfl
theorem ju6:(jar false [126]).2=true:=rfl
theorem jdu (p:ByteArray) (w:World) (hs:p.size<4294967281) :
  CR 69 #[.string p] w (.bool (jcz p)):=by
 obtain⟨U,ab,Y,X,v⟩:=jaf w #[.string ⟨#[97]⟩,.string p] 57
 have HR:Hid (∀ W,Bw U W->CR 64 #[.slice (some ⟨w.heap.size,0,none⟩) 1 1] W (.bool (jcH p))):=fun W hb =>
  jcw _ 1 1 [⟨⟨#[97]⟩,p⟩] W ((jkX (enc:=Lab.enc) (k:=2) (x:=(⟨⟨#[97]⟩,p⟩:Lab)) Y).go hb).1 (fun y hy=>by rw[List.mem_singleton] at hy;subst hy;exact⟨by show (1:Nat)<4294967281;omega,hs⟩) (by decide)
 have O:=Lib.hid (jcQ p U hs);have C:Hid (jcz p=((if jav p then !(jar false (jaJ p 0)).2 else true)&&jcH p)):=rfl
 have D:Hid (∀ l:List ByteArray,jav p=true->l.map (·.data.toList)=jey p->l.length=(jaJ p 0).length/\∀ (i:Nat) (t:ByteArray),l[i]? = some t->∃ c,(jaJ p 0)[i]? = some c/\(t.toList==[126])=(c==126)):=fun l I L=>⟨jnZ I L,fun i t ht=>by
  obtain⟨u,m,n,h3,h4⟩:=jsg I L ht;exact⟨_,h4,by rw[h3];exact jgw m n 126 (by decide)⟩⟩
 have G:Hid (jav p=false->jey p=[]):=fun h=>by unfold jey;rw[h];rfl
 have B:∀ e w',jec p U e w'=∃ a cap,∃ l:List ByteArray,e=.returned (.tuple #[.slice a l.length cap,.bool (jav p)])/\l.map (·.data.toList)=jey p/\SlC jf6 1 w'.heap.size w' a l.length cap l/\Bw U w':=fun _ _=>rfl
 have B:=Lib.hid B;generalize jec p U=Q at B O;generalize jcz p=R at C ⊢;generalize jcH p=sv at HR C;generalize jaJ p 0=cs at C D;generalize jav p=ok at C D G B;generalize jey p=ll at D G B;have E:=Lib.hid X;clear Y X v;go_enter Tryz.func69,Tryz.ntmps69;go_wp2_with fail;refine O.out.mono ?_;intro e w1 h;rw[B.out] at h;obtain⟨a,cap,l,rfl,L,j,Z⟩:=h;have HS:=Lib.hid j;have F:=Lib.hid Z;have r:l.length<=maxLen:=Nat.le_trans j.2.1 j.2.2.1;unfold maxLen at r;have HK:Hid (R=((if ok then !(jar false (cs.drop 0)).2 else true)&&sv)):=C.out
 have HT:Hid (∀ (i:Nat) (t:ByteArray),l[i]? = some t->ok=true/\l.length=cs.length/\∃ c,cs[i]? = some c/\(t.toList==[126])=(c==126)):=fun i t ht=>by
  cases ok with
  | true =>
   obtain⟨m,n⟩:=D.out l rfl L;exact⟨rfl,m,n i t ht⟩
  | false =>
   rw[G.out rfl,List.map_eq_nil_iff] at L;subst L;simp at ht
 have HE:Hid (ok=true->l.length=cs.length):=fun h=>(D.out l h L).1
 clear j Z L B O G D C;go_wp2_with fail;go_loopw [6] (fun i wr=>∃ (k:Nat),i=.int .i64 k/\k<=l.length/\Bw w1 wr/\Hid (R=((if ok then !(jar false (cs.drop k)).2 else true)&&sv))) (fun i _=>l.length-(intOf i).toNat)
 case atStart=>exact⟨0,rfl,Nat.zero_le _,Below.refl _ _,HK.out⟩
 case round =>
  obtain⟨k,rfl,hk,V,H⟩:=hrel;have i0:(0:Int)<=(k:Int):=by omega
  by_cases s:k<l.length
  ·obtain⟨t,ht⟩:∃ t,l[k]? = some t:=⟨_,List.getElem?_eq_getElem s⟩
   obtain⟨b,off,rfl,ac,hc⟩:=(HS.out.1.below V).2 k t ht;have c0:wr.cell? ⟨b,off+k*1+0,none⟩=some (.string t):=hc 0 (by omega);simp only[Nat.mul_one,Nat.add_zero] at c0;obtain⟨I,g,c,P,d⟩:=HT.out k t ht;subst I;have S:=Lib.hid g;have z:Hid (cs.drop k=c::cs.drop (k+1)):=jat P;have i1:(k:Int)<(l.length:Int):=by omega
   have aa:=Lib.hid P;clear hc ht P g
   cases A:(c==126) with
   | false =>
    rw[A] at d;have M:Hid (R=((if true then !(jar false (cs.drop (k+1))).2 else true)&&sv)):=by rw[Hid,H.out,z.out,jwa _ A]
    clear A;go_wp2_with fail;go_roundw
    case rel=>exact⟨k+1,by go_num,by omega,V,M.out⟩
    case measure=>simp[intOf];omega
   | true =>
    rw[A] at d;have he:c=126:=beq_iff_eq.1 A;have T:Hid (cs.drop k=126::cs.drop (k+1)):=by rw[Hid,z.out,he]
    clear A he;by_cases J:k+1=l.length
    ·have e1:((k:Int)+1==(l.length:Int))=true:=beq_iff_eq.2 (by omega)
     have M:Hid (R=false):=by
      rw[Hid,H.out,T.out,List.drop_of_length_le (i:=k+1) (by have:=S.out;omega),ju6];rfl
     clear J;go_wp2_with fail;go_ret;exact⟨by rw[M.out];rfl,E.out.trans ((F.out.trans (V.mono F.out.size)).mono E.out.size)⟩
    ·have e1:((k:Int)+1==(l.length:Int))=false:=beq_eq_false_iff_ne.2 (by omega)
     obtain⟨c2,f⟩:∃ c2,cs[k+1]? = some c2:=⟨_,List.getElem?_eq_getElem (by have:=S.out;omega)⟩;have M:Hid (R=((if true then !(jar false (cs.drop (k+2))).2 else true)&&sv)):=by rw[Hid,H.out,T.out,jat f,jrZ]
     have q:k+2<=l.length:=by omega
     clear J f;go_wp2_with fail;go_roundw
     case rel=>exact⟨k+2,by go_num,q,V,M.out⟩
     case measure=>simp[intOf];omega
  ·have i1:¬ (k:Int)<(l.length:Int):=by omega
   have M:Hid (R=sv):=by
    rw[Hid,H.out]
    cases ok with
    | false=>rfl
    | true=>rw[List.drop_of_length_le (by have:=HE.out rfl;omega)];rfl
   have N:=F.out.trans (V.mono F.out.size);go_wp2_with fail;refine (HR.out _ N).mono ?_;rintro e w3 ⟨rfl,o⟩;go_wp2_with fail;go_ret;exact⟨by rw[M.out];rfl,E.out.trans ((N.trans (o.mono N.size)).mono E.out.size)⟩
theorem jjW (s:ByteArray):(jbo s).1.size<=s.size/\(jbo s).2.size<=s.size:=by
 unfold jbo;split
 ·exact jhX s
 ·exact⟨Nat.zero_le _,Nat.zero_le _⟩
theorem jv7 {xs:List jb4} {k:Nat} {x:jb4} (A:ByteArray) (h:xs[k]? = some x):jp7 A (xs.drop k)=(jdH (jbo x.1).1&&jcz (jbo x.1).2 && !decide (0<=jdi A.data.toList (jbo x.1).1.data.toList)&&jp7 (jbo x.1).1 (xs.drop (k+1))):=by
 rw[jat h];rfl
theorem jeO (s:jb4) (w:World):CR 31 #[.string s.1] w (.bool (jce s)):=by
 have S:Hid (jce s=(s.1.size==0||(jp7 (⟨#[]⟩:ByteArray) (jbC s)&&decide ((jbC s).length<=4)))):=rfl;have G:=Lib.hid (jeP s w);obtain⟨xs,l⟩:∃ xs,jbC s=xs:=⟨_,rfl⟩;rw[l] at S G;have ae:=s.2;obtain⟨t,ht⟩:=s;generalize jce ⟨t,ht⟩=R at S ⊢;dsimp only at S G ⊢;clear l ae
 cases O:(t.size==0) with
 | true =>
  have o:t.size=0:=beq_iff_eq.1 O
  have he:t=⟨#[]⟩:=by
   apply ByteArray.ext;apply Array.ext';have:=Array.length_toList (xs:=t.data);have h2:t.data.toList.length=0:=this.trans o;exact List.eq_nil_of_length_eq_zero h2
  have F:Hid (R=true):=by rw[Hid,S.out,O];rfl
  subst he;clear O o S G;go_enter Tryz.func31,Tryz.ntmps31;go_wp2_with fail;go_ret;exact⟨by rw[F.out];rfl,Below.refl _ _⟩
 | false =>
  have he:(t.toList==(⟨#[]⟩:ByteArray).toList)=false:=by
   rw[jc0,decide_eq_false_iff_not];intro e;rw[e] at O
   cases O
  have ah:t.toList.isEmpty=false:=by rw[jbr];exact O
  have z:Hid (R=(jp7 (⟨#[]⟩:ByteArray) (xs.drop 0)&&decide (xs.length<=4))):=by rw[Hid,S.out,O];rfl
  clear O S he;go_enter Tryz.func31,Tryz.ntmps31;go_wp2_with fail;refine G.out.mono ?_;rintro e r ⟨a,cap,rfl,c,h⟩;have V:(xs.map (·.1)).length=xs.length:=List.length_map ..;have aa:xs.length<=maxLen:=by rw[<- V];exact Nat.le_trans c.2.1 c.2.2.1
  unfold maxLen at aa;rw[V] at c ⊢;have HS:=Lib.hid c;have C:=Lib.hid h;clear c h G V;go_wp2_with fail;go_loopw [4,5] (fun lv i wr=>∃ (k:Nat) (A:ByteArray),i=.int .i64 k/\lv=.string A/\k<=xs.length/\A.size<4294967281/\Bw r wr/\Hid (R=(jp7 A (xs.drop k)&&decide (xs.length<=4)))) (fun _ i _=>xs.length-(intOf i).toNat)
  case atStart=>exact⟨0,⟨#[]⟩,rfl,rfl,Nat.zero_le _,by decide,Below.refl _ _,z.out⟩
  case round =>
   obtain⟨k,A,rfl,rfl,hk,ai,u,v⟩:=hrel;have i0:(0:Int)<=(k:Int):=by omega
   by_cases ab:k<xs.length
   ·obtain⟨x,hx⟩:∃ x,xs[k]? = some x:=⟨_,List.getElem?_eq_getElem ab⟩
    obtain⟨b,off,rfl,ag,hc⟩:=(HS.out.1.below u).2 k x.1 (by rw[List.getElem?_map,hx];rfl);have c0:wr.cell? ⟨b,off+k*1+0,none⟩=some (.string x.1):=hc 0 (by omega);simp only[Nat.mul_one,Nat.add_zero] at c0;have i1:(k:Int)<(xs.length:Int):=by omega
    have L:Hid (R=(jdH (jbo x.1).1&&jcz (jbo x.1).2 && !decide (0<=jdi A.data.toList (jbo x.1).1.data.toList)&&jp7 (jbo x.1).1 (xs.drop (k+1))&&decide (xs.length<=4))):=by rw[Hid,v.out,jv7 A hx]
    have T:=Lib.hid (fun W=>jfu x.1 W x.2);obtain⟨z1,z2⟩:=jjW x.1;have z3:=x.2;obtain⟨n,hn⟩:∃ n,(jbo x.1).1=n:=⟨_,rfl⟩;obtain⟨p,hp⟩:∃ p,(jbo x.1).2=p:=⟨_,rfl⟩;rw[hn] at z1 L T;rw[hp] at z2 L T;have j:n.size<4294967281:=by omega
    have ac:p.size<4294967281:=by omega
    have J:Hid (∀ W,CR 69 #[.string p] W (.bool (jcz p))):=fun W=>jdu p W ac
    have P:Hid (∀ W,Calls Tryz.prog 70 #[.string A,.string n] W fun e w'=>e=.returned (.int .i64 (jdi A.data.toList n.data.toList))/\∃ m,w'=W.drewN m):=fun W=>jcv A n W (by omega)
    have Q:Hid (∀ (W:World) (g:Nat),W.heap[g]? = some (.cells #[.string n,.string ⟨#[]⟩] 57 (0,0))->CR 64 #[.slice (some ⟨g,0,none⟩) 1 1] W (.bool (jdH n))):=fun W g hg =>
     jcw _ 1 1 [⟨n,⟨#[]⟩⟩] W (jkX (enc:=Lab.enc) (k:=2) (x:=(⟨n,⟨#[]⟩⟩:Lab)) hg).1 (fun y hy=>by rw[List.mem_singleton] at hy;subst hy;exact⟨j,by show (0:Nat)<4294967281;omega⟩) (by decide)
    obtain⟨cm,H⟩:∃ cm,jdi A.data.toList n.data.toList=cm:=⟨_,rfl⟩;rw[H] at L P;generalize jdH n=b1 at L Q;generalize jcz p=b2 at L J;clear hc hx hn hp z1 z2 z3 v H;go_wp2_with fail;refine (T.out _).mono ?_;rintro e w2 ⟨rfl,m2,rfl⟩;have M:Bw r (wr.drewN m2):=bDr u m2;obtain⟨W2,d⟩:∃ W2,wr.drewN m2=W2:=⟨_,rfl⟩;rw[d] at M ⊢;obtain⟨W3,af,f,Z,ad⟩:=jaf W2 #[.string n,.string ⟨#[]⟩] 57;have D:Hid (Bw r W3):=M.trans (Z.mono M.size);have I:=Lib.hid (Q.out W3 _ f);clear d f Z ad M u Q c0
    cases b1 with
    | false =>
     have F:Hid (R=false):=L.out.trans (by simp);go_wp2_with fail;refine I.out.mono ?_;rintro e X ⟨rfl,B⟩;go_wp2_with fail;go_ret;exact⟨by rw[F.out];rfl,C.out.trans ((D.out.trans (B.mono D.out.size)).mono C.out.size)⟩
    | true =>
     cases b2 with
     | false =>
      have F:Hid (R=false):=L.out.trans (by simp);go_wp2_with fail;refine I.out.mono ?_;rintro e X ⟨rfl,B⟩;go_wp2_with fail;refine (J.out X).mono ?_;rintro e Y ⟨rfl,E⟩;go_wp2_with fail;go_ret;exact⟨by rw[F.out];rfl,C.out.trans ((D.out.trans ((B.trans (E.mono B.size)).mono D.out.size)).mono C.out.size)⟩
     | true =>
      by_cases H:0<=cm
      ·have F:Hid (R=false):=L.out.trans (by simp[H])
       go_wp2_with fail;refine I.out.mono ?_;rintro e X ⟨rfl,B⟩;go_wp2_with fail;refine (J.out X).mono ?_;rintro e Y ⟨rfl,E⟩;go_wp2_with fail;refine (P.out Y).mono ?_;rintro e w6 ⟨rfl,q,rfl⟩;have N:=D.out.trans ((B.trans (E.mono B.size)).mono D.out.size);have U:Bw r (Y.drewN q):=bDr N q;go_wp2_with fail;go_ret;exact⟨by rw[F.out];rfl,C.out.trans (U.mono C.out.size)⟩
      ·have F:Hid (R=(jp7 n (xs.drop (k+1))&&decide (xs.length<=4))):=L.out.trans (by simp[H])
       go_wp2_with fail;refine I.out.mono ?_;rintro e X ⟨rfl,B⟩;go_wp2_with fail;refine (J.out X).mono ?_;rintro e Y ⟨rfl,E⟩;go_wp2_with fail;refine (P.out Y).mono ?_;rintro e w6 ⟨rfl,q,rfl⟩;have N:=D.out.trans ((B.trans (E.mono B.size)).mono D.out.size);have U:Bw r (Y.drewN q):=bDr N q;clear N B E;go_wp2_with fail;go_roundw
       case rel=>exact⟨k+1,n,by go_num,rfl,by omega,j,U,F.out⟩
       case measure=>simp[intOf];omega
   ·have i1:¬ (k:Int)<(xs.length:Int):=by omega
    have F:Hid (R=decide (xs.length<=4)):=by
     rw[Hid,v.out,List.drop_of_length_le (by omega)];rfl
    have h4:decide ((xs.length:Int)<=4)=decide (xs.length<=4):=decide_eq_decide.2 (by omega);go_wp2_with fail;go_ret;exact⟨by rw[F.out];first | rfl | (simp only[h4];rfl),C.out.trans (u.mono C.out.size)⟩
theorem SerP.At.apart {B:Nat} {A C:World} {x:Ser} {p:SerP} (h:p.At A.heap.size A x) (D:p.Off (· ≠ B)) (ha:Apart B A C):p.At C.heap.size C x:=(h.frame D ha.2).mono ha.1
theorem Tab.apart {B:Nat} {A C:World} {a:Option Addr} {len cap:Nat} {l:List (Ser × SerP)} (h:Tab A.heap.size A a len cap l) (hr:∀ z,a=some z->0<cap->z.block≠B) (E:∀ e∈l,e.2.Off (· ≠ B)) (ha:Apart B A C):Tab C.heap.size C a len cap l :=
 ⟨h.row.apart hr ha,fun e D=>(h.at_ e D).apart (E e D) ha⟩
end Go.Proofs.YtafhpamnegmilaaGreatDoor

/- The reference of layer 5: IsPattern. The reference of layer 5: Right. The reference of layer 5: Fits. Printed by gen_i4.py. -/
import Derived.Test.YtafhpamnegmilaaGreatDoorYFE
set_option maxHeartbeats 8000000
set_option maxRecDepth 100000
namespace Go.Proofs.YtafhpamnegmilaaGreatDoor
open Go Go.RowKit Go.Shelf
theorem jnZ {s:ByteArray} (A:jav s=true) {l:List ByteArray} (B:l.map (·.data.toList)=jey s):l.length=(jaJ s 0).length:=by
 have h:=congrArg List.length B;unfold jey at h;rw[List.length_map,if_pos A,joH] at h;rw[h,jaJ,List.length_map]
theorem jsg {s:ByteArray} (A:jav s=true) {l:List ByteArray} (B:l.map (·.data.toList)=jey s) {i:Nat} {t:ByteArray} (ht:l[i]? = some t):∃ u:List UInt8,u≠[]/\jfo u=false/\t.toList=jej u/\(jaJ s 0)[i]? = some ((Lib.decodeL u).1:Int):=by
 have C:(joG s 0)[i]? = some t.data.toList:=by
  unfold jey at B;rw[if_pos A] at B;rw[<- B,List.getElem?_map,ht];rfl
 obtain⟨u,D,E,F,G⟩:=jpY s s.size 0 (by omega) A i _ C;exact⟨u,D,E,by rw[Lib.toList_data];exact F,G⟩
theorem jgw {u:List UInt8} (B:u≠[]) (C:jfo u=false) (b:UInt8) (E:b.toNat<128):(jej u==[b])=(((Lib.decodeL u).1:Int)==(b.toNat:Int)):=by
 have h:=jm7 u B C b E;by_cases A:(Lib.decodeL u).1=b.toNat
 ·rw[h.2 A,A];simp
 ·have D:¬ jej u=[b]:=fun e=>A (h.1 e)
  rw[beq_eq_false_iff_ne.2 D];symm;rw[beq_eq_false_iff_ne];omega
theorem jwa {c:Int} (cs:List Int) (h:(c==126)=false):(jar false (c::cs)).2=(jar false cs).2:=by
 simp only[jar];split
 ·rfl
 ·split
  ·rfl
  ·rw[h];rfl
theorem jrZ (A:Int) (cs:List Int):(jar false (126::A::cs)).2=(jar false cs).2:=rfl
theorem ju6:(jar false [126]).2=true:=rfl
theorem jdu (p:ByteArray) (w:World) (hs:p.size<4294967281) :
  CR 69 #[.string p] w (.bool (jcz p)):=by
 obtain⟨U,ab,Y,X,v⟩:=jaf w #[.string ⟨#[97]⟩,.string p] 57
 have HR:Hid (∀ W,Bw U W->CR 64 #[.slice (some ⟨w.heap.size,0,none⟩) 1 1] W (.bool (jcH p))):=fun W hb =>
  jcw _ 1 1 [⟨⟨#[97]⟩,p⟩] W ((jkX (enc:=Lab.enc) (k:=2) (x:=(⟨⟨#[97]⟩,p⟩:Lab)) Y).go hb).1 (fun y hy=>by rw[List.mem_singleton] at hy;subst hy;exact⟨by show (1:Nat)<4294967281;omega,hs⟩) (by decide)
 have O:=Lib.hid (jcQ p U hs);have C:Hid (jcz p=((if jav p then !(jar false (jaJ p 0)).2 else true)&&jcH p)):=rfl
 have D:Hid (∀ l:List ByteArray,jav p=true->l.map (·.data.toList)=jey p->l.length=(jaJ p 0).length/\∀ (i:Nat) (t:ByteArray),l[i]? = some t->∃ c,(jaJ p 0)[i]? = some c/\(t.toList==[126])=(c==126)):=fun l I L=>⟨jnZ I L,fun i t ht=>by
  obtain⟨u,m,n,h3,h4⟩:=jsg I L ht;exact⟨_,h4,by rw[h3];exact jgw m n 126 (by decide)⟩⟩
 have G:Hid (jav p=false->jey p=[]):=fun h=>by unfold jey;rw[h];rfl
 have B:∀ e w',jec p U e w'=∃ a cap,∃ l:List ByteArray,e=.returned (.tuple #[.slice a l.length cap,.bool (jav p)])/\l.map (·.data.toList)=jey p/\SlC jf6 1 w'.heap.size w' a l.length cap l/\Bw U w':=fun _ _=>rfl
 have B:=Lib.hid B;generalize jec p U=Q at B O;generalize jcz p=R at C ⊢;generalize jcH p=sv at HR C;generalize jaJ p 0=cs at C D;generalize jav p=ok at C D G B;generalize jey p=ll at D G B;have E:=Lib.hid X;clear Y X v;go_enter Tryz.func69,Tryz.ntmps69;go_wp2_with fail;refine O.out.mono ?_;intro e w1 h;rw[B.out] at h;obtain⟨a,cap,l,rfl,L,j,Z⟩:=h;have HS:=Lib.hid j;have F:=Lib.hid Z;have r:l.length<=maxLen:=Nat.le_trans j.2.1 j.2.2.1;unfold maxLen at r;have HK:Hid (R=((if ok then !(jar false (cs.drop 0)).2 else true)&&sv)):=C.out
 have HT:Hid (∀ (i:Nat) (t:ByteArray),l[i]? = some t->ok=true/\l.length=cs.length/\∃ c,cs[i]? = some c/\(t.toList==[126])=(c==126)):=fun i t ht=>by
  cases ok with
  | true =>
   obtain⟨m,n⟩:=D.out l rfl L;exact⟨rfl,m,n i t ht⟩
  | false =>
   rw[G.out rfl,List.map_eq_nil_iff] at L;subst L;simp at ht
 have HE:Hid (ok=true->l.length=cs.length):=fun h=>(D.out l h L).1
 clear j Z L B O G D C;go_wp2_with fail;go_loopw [6] (fun i wr=>∃ (k:Nat),i=.int .i64 k/\k<=l.length/\Bw w1 wr/\Hid (R=((if ok then !(jar false (cs.drop k)).2 else true)&&sv))) (fun i _=>l.length-(intOf i).toNat)
 case atStart=>exact⟨0,rfl,Nat.zero_le _,Below.refl _ _,HK.out⟩
 case round =>
  obtain⟨k,rfl,hk,V,H⟩:=hrel;have i0:(0:Int)<=(k:Int):=by omega
  by_cases s:k<l.length
  ·obtain⟨t,ht⟩:∃ t,l[k]? = some t:=⟨_,List.getElem?_eq_getElem s⟩
   obtain⟨b,off,rfl,ac,hc⟩:=(HS.out.1.below V).2 k t ht;have c0:wr.cell? ⟨b,off+k*1+0,none⟩=some (.string t):=hc 0 (by omega);simp only[Nat.mul_one,Nat.add_zero] at c0;obtain⟨I,g,c,P,d⟩:=HT.out k t ht;subst I;have S:=Lib.hid g;have z:Hid (cs.drop k=c::cs.drop (k+1)):=jat P;have i1:(k:Int)<(l.length:Int):=by omega
   have aa:=Lib.hid P;clear hc ht P g
   cases A:(c==126) with
   | false =>
    rw[A] at d;have M:Hid (R=((if true then !(jar false (cs.drop (k+1))).2 else true)&&sv)):=by rw[Hid,H.out,z.out,jwa _ A]
    clear A;go_wp2_with fail;go_roundw
    case rel=>exact⟨k+1,by go_num,by omega,V,M.out⟩
    case measure=>simp[intOf];omega
   | true =>
    rw[A] at d;have he:c=126:=beq_iff_eq.1 A;have T:Hid (cs.drop k=126::cs.drop (k+1)):=by rw[Hid,z.out,he]
    clear A he;by_cases J:k+1=l.length
    ·have e1:((k:Int)+1==(l.length:Int))=true:=beq_iff_eq.2 (by omega)
     have M:Hid (R=false):=by
      rw[Hid,H.out,T.out,List.drop_of_length_le (i:=k+1) (by have:=S.out;omega),ju6];rfl
     clear J;go_wp2_with fail;go_ret;exact⟨by rw[M.out];rfl,E.out.trans ((F.out.trans (V.mono F.out.size)).mono E.out.size)⟩
    ·have e1:((k:Int)+1==(l.length:Int))=false:=beq_eq_false_iff_ne.2 (by omega)
     obtain⟨c2,f⟩:∃ c2,cs[k+1]? = some c2:=⟨_,List.getElem?_eq_getElem (by have:=S.out;omega)⟩;have M:Hid (R=((if true then !(jar false (cs.drop (k+2))).2 else true)&&sv)):=by rw[Hid,H.out,T.out,jat f,jrZ]
     have q:k+2<=l.length:=by omega
     clear J f;go_wp2_with fail;go_roundw
     case rel=>exact⟨k+2,by go_num,q,V,M.out⟩
     case measure=>simp[intOf];omega
  ·have i1:¬ (k:Int)<(l.length:Int):=by omega
   have M:Hid (R=sv):=by
    rw[Hid,H.out]
    cases ok with
    | false=>rfl
    | true=>rw[List.drop_of_length_le (by have:=HE.out rfl;omega)];rfl
   have N:=F.out.trans (V.mono F.out.size);go_wp2_with fail;refine (HR.out _ N).mono ?_;rintro e w3 ⟨rfl,o⟩;go_wp2_with fail;go_ret;exact⟨by rw[M.out];rfl,E.out.trans ((N.trans (o.mono N.size)).mono E.out.size)⟩
theorem jjW (s:ByteArray):(jbo s).1.size<=s.size/\(jbo s).2.size<=s.size:=by
 unfold jbo;split
 ·exact jhX s
 ·exact⟨Nat.zero_le _,Nat.zero_le _⟩
theorem jv7 {xs:List jb4} {k:Nat} {x:jb4} (A:ByteArray) (h:xs[k]? = some x):jp7 A (xs.drop k)=(jdH (jbo x.1).1&&jcz (jbo x.1).2 && !decide (0<=jdi A.data.toList (jbo x.1).1.data.toList)&&jp7 (jbo x.1).1 (xs.drop (k+1))):=by
 rw[jat h];rfl
theorem jeO (s:jb4) (w:World):CR 31 #[.string s.1] w (.bool (jce s)):=by
 have S:Hid (jce s=(s.1.size==0||(jp7 (⟨#[]⟩:ByteArray) (jbC s)&&decide ((jbC s).length<=4)))):=rfl;have G:=Lib.hid (jeP s w);obtain⟨xs,l⟩:∃ xs,jbC s=xs:=⟨_,rfl⟩;rw[l] at S G;have ae:=s.2;obtain⟨t,ht⟩:=s;generalize jce ⟨t,ht⟩=R at S ⊢;dsimp only at S G ⊢;clear l ae
 cases O:(t.size==0) with
 | true =>
  have o:t.size=0:=beq_iff_eq.1 O
  have he:t=⟨#[]⟩:=by
   apply ByteArray.ext;apply Array.ext';have:=Array.length_toList (xs:=t.data);have h2:t.data.toList.length=0:=this.trans o;exact List.eq_nil_of_length_eq_zero h2
  have F:Hid (R=true):=by rw[Hid,S.out,O];rfl
  subst he;clear O o S G;go_enter Tryz.func31,Tryz.ntmps31;go_wp2_with fail;go_ret;exact⟨by rw[F.out];rfl,Below.refl _ _⟩
 | false =>
  have he:(t.toList==(⟨#[]⟩:ByteArray).toList)=false:=by
   rw[jc0,decide_eq_false_iff_not];intro e;rw[e] at O
   cases O
  have ah:t.toList.isEmpty=false:=by rw[jbr];exact O
  have z:Hid (R=(jp7 (⟨#[]⟩:ByteArray) (xs.drop 0)&&decide (xs.length<=4))):=by rw[Hid,S.out,O];rfl
  clear O S he;go_enter Tryz.func31,Tryz.ntmps31;go_wp2_with fail;refine G.out.mono ?_;rintro e r ⟨a,cap,rfl,c,h⟩;have V:(xs.map (·.1)).length=xs.length:=List.length_map ..;have aa:xs.length<=maxLen:=by rw[<- V];exact Nat.le_trans c.2.1 c.2.2.1
  unfold maxLen at aa;rw[V] at c ⊢;have HS:=Lib.hid c;have C:=Lib.hid h;clear c h G V;go_wp2_with fail;go_loopw [4,5] (fun lv i wr=>∃ (k:Nat) (A:ByteArray),i=.int .i64 k/\lv=.string A/\k<=xs.length/\A.size<4294967281/\Bw r wr/\Hid (R=(jp7 A (xs.drop k)&&decide (xs.length<=4)))) (fun _ i _=>xs.length-(intOf i).toNat)
  case atStart=>exact⟨0,⟨#[]⟩,rfl,rfl,Nat.zero_le _,by decide,Below.refl _ _,z.out⟩
  case round =>
   obtain⟨k,A,rfl,rfl,hk,ai,u,v⟩:=hrel;have i0:(0:Int)<=(k:Int):=by omega
   by_cases ab:k<xs.length
   ·obtain⟨x,hx⟩:∃ x,xs[k]? = some x:=⟨_,List.getElem?_eq_getElem ab⟩
    obtain⟨b,off,rfl,ag,hc⟩:=(HS.out.1.below u).2 k x.1 (by rw[List.getElem?_map,hx];rfl);have c0:wr.cell? ⟨b,off+k*1+0,none⟩=some (.string x.1):=hc 0 (by omega);simp only[Nat.mul_one,Nat.add_zero] at c0;have i1:(k:Int)<(xs.length:Int):=by omega
    have L:Hid (R=(jdH (jbo x.1).1&&jcz (jbo x.1).2 && !decide (0<=jdi A.data.toList (jbo x.1).1.data.toList)&&jp7 (jbo x.1).1 (xs.drop (k+1))&&decide (xs.length<=4))):=by rw[Hid,v.out,jv7 A hx]
    have T:=Lib.hid (fun W=>jfu x.1 W x.2);obtain⟨z1,z2⟩:=jjW x.1;have z3:=x.2;obtain⟨n,hn⟩:∃ n,(jbo x.1).1=n:=⟨_,rfl⟩;obtain⟨p,hp⟩:∃ p,(jbo x.1).2=p:=⟨_,rfl⟩;rw[hn] at z1 L T;rw[hp] at z2 L T;have j:n.size<4294967281:=by omega
    have ac:p.size<4294967281:=by omega
    have J:Hid (∀ W,CR 69 #[.string p] W (.bool (jcz p))):=fun W=>jdu p W ac
    have P:Hid (∀ W,Calls Tryz.prog 70 #[.string A,.string n] W fun e w'=>e=.returned (.int .i64 (jdi A.data.toList n.data.toList))/\∃ m,w'=W.drewN m):=fun W=>jcv A n W (by omega)
    have Q:Hid (∀ (W:World) (g:Nat),W.heap[g]? = some (.cells #[.string n,.string ⟨#[]⟩] 57 (0,0))->CR 64 #[.slice (some ⟨g,0,none⟩) 1 1] W (.bool (jdH n))):=fun W g hg =>
     jcw _ 1 1 [⟨n,⟨#[]⟩⟩] W (jkX (enc:=Lab.enc) (k:=2) (x:=(⟨n,⟨#[]⟩⟩:Lab)) hg).1 (fun y hy=>by rw[List.mem_singleton] at hy;subst hy;exact⟨j,by show (0:Nat)<4294967281;omega⟩) (by decide)
    obtain⟨cm,H⟩:∃ cm,jdi A.data.toList n.data.toList=cm:=⟨_,rfl⟩;rw[H] at L P;generalize jdH n=b1 at L Q;generalize jcz p=b2 at L J;clear hc hx hn hp z1 z2 z3 v H;go_wp2_with fail;refine (T.out _).mono ?_;rintro e w2 ⟨rfl,m2,rfl⟩;have M:Bw r (wr.drewN m2):=bDr u m2;obtain⟨W2,d⟩:∃ W2,wr.drewN m2=W2:=⟨_,rfl⟩;rw[d] at M ⊢;obtain⟨W3,af,f,Z,ad⟩:=jaf W2 #[.string n,.string ⟨#[]⟩] 57;have D:Hid (Bw r W3):=M.trans (Z.mono M.size);have I:=Lib.hid (Q.out W3 _ f);clear d f Z ad M u Q c0
    cases b1 with
    | false =>
     have F:Hid (R=false):=L.out.trans (by simp);go_wp2_with fail;refine I.out.mono ?_;rintro e X ⟨rfl,B⟩;go_wp2_with fail;go_ret;exact⟨by rw[F.out];rfl,C.out.trans ((D.out.trans (B.mono D.out.size)).mono C.out.size)⟩
    | true =>
     cases b2 with
     | false =>
      have F:Hid (R=false):=L.out.trans (by simp);go_wp2_with fail;refine I.out.mono ?_;rintro e X ⟨rfl,B⟩;go_wp2_with fail;refine (J.out X).mono ?_;rintro e Y ⟨rfl,E⟩;go_wp2_with fail;go_ret;exact⟨by rw[F.out];rfl,C.out.trans ((D.out.trans ((B.trans (E.mono B.size)).mono D.out.size)).mono C.out.size)⟩
     | true =>
      by_cases H:0<=cm
      ·have F:Hid (R=false):=L.out.trans (by simp[H])
       go_wp2_with fail;refine I.out.mono ?_;rintro e X ⟨rfl,B⟩;go_wp2_with fail;refine (J.out X).mono ?_;rintro e Y ⟨rfl,E⟩;go_wp2_with fail;refine (P.out Y).mono ?_;rintro e w6 ⟨rfl,q,rfl⟩;have N:=D.out.trans ((B.trans (E.mono B.size)).mono D.out.size);have U:Bw r (Y.drewN q):=bDr N q;go_wp2_with fail;go_ret;exact⟨by rw[F.out];rfl,C.out.trans (U.mono C.out.size)⟩
      ·have F:Hid (R=(jp7 n (xs.drop (k+1))&&decide (xs.length<=4))):=L.out.trans (by simp[H])
       go_wp2_with fail;refine I.out.mono ?_;rintro e X ⟨rfl,B⟩;go_wp2_with fail;refine (J.out X).mono ?_;rintro e Y ⟨rfl,E⟩;go_wp2_with fail;refine (P.out Y).mono ?_;rintro e w6 ⟨rfl,q,rfl⟩;have N:=D.out.trans ((B.trans (E.mono B.size)).mono D.out.size);have U:Bw r (Y.drewN q):=bDr N q;clear N B E;go_wp2_with fail;go_roundw
       case rel=>exact⟨k+1,n,by go_num,rfl,by omega,j,U,F.out⟩
       case measure=>simp[intOf];omega
   ·have i1:¬ (k:Int)<(xs.length:Int):=by omega
    have F:Hid (R=decide (xs.length<=4)):=by
     rw[Hid,v.out,List.drop_of_length_le (by omega)];rfl
    have h4:decide ((xs.length:Int)<=4)=decide (xs.length<=4):=decide_eq_decide.2 (by omega);go_wp2_with fail;go_ret;exact⟨by rw[F.out];first | rfl | (simp only[h4];rfl),C.out.trans (u.mono C.out.size)⟩
def BoolsAt (W:World) (g:Nat) (l:List Bool):Prop:=W.heap[g]? = some (.cells (l.map Value.bool).toArray 4 (0,0))
theorem BoolsAt.lt {W:World} {g:Nat} {l:List Bool} (h:BoolsAt W g l):g<W.heap.size:=(Array.getElem?_eq_some_iff.1 h).1
theorem BoolsAt.cell {W:World} {g:Nat} {l:List Bool} (h:BoolsAt W g l) {j:Nat} {b:Bool} (A:l[j]? = some b):W.cell? ⟨g,j,none⟩=some (.bool b):=by
 rw[cCc h];simp[A]
theorem BoolsAt.frozen {W:World} {g:Nat} {l:List Bool} (h:BoolsAt W g l) (j:Nat):W.frozen? ⟨g,j,none⟩=false:=cFz h j
theorem BoolsAt.block {W A:World} {g:Nat} {l:List Bool} (h:BoolsAt W g l) (B:A.heap[g]? = W.heap[g]?):BoolsAt A g l:=B.trans h
theorem BoolsAt.set {W:World} {g:Nat} {l:List Bool} (h:BoolsAt W g l) (p:Nat) (x:Bool):BoolsAt (W.setCell ⟨g,p,none⟩ (.bool x)) g (l.set p x):=by
 have A:=hSk (i:=p) h (Value.bool x);unfold BoolsAt;rw[A];congr 2;apply Array.ext';simp[List.map_set]
theorem jso:Tryz.prog.underlying 172=some (.slice 4):=by kernel_rfl
theorem jq9:(Tryz.prog.info? 4).map (fun i=>(i.zero,i.size,i.bytes))=some (some (.bool false),1,1):=by kernel_rfl
theorem jjH (w:World) (len:Nat) (h:len<=1000):∃ B,(Instr.makeSlice 172 (.int .i64 (len:Int)) (.int .i64 (len:Int))).run Tryz.prog w=.ok (.slice (some ⟨w.heap.size,0,none⟩) len len) B/\BoolsAt B w.heap.size (List.replicate len false)/\Bw w B/\B.heap.size=w.heap.size+1:=by
 obtain⟨i,D,E,A,C⟩:=info_parts jq9;have hr:=run_makeSlice (P:=Tryz.prog) (w:=w) 172 4 i _ jso D E .i64 .i64 (len:Int) (len:Int) (by omega) (Int.le_refl _) (by rw[A];omega) (by rw[C];omega) (by omega);rw[Int.toNat_natCast] at hr;refine⟨_,hr,?_,(Below.refl _ w).alloc (Nat.le_refl _) _,by simp⟩
 have e:madeCells (Value.bool false).cells (len*i.size)=((List.replicate len false).map Value.bool).toArray:=by
  rw[A,Nat.mul_one];apply Array.ext
  ·rw[size_madeCells];simp
  ·intro j F G
   simp[madeCells,Value.cells,Nat.mod_one]
 rw[e];exact World.alloc_heap_new _ _
def jfS (n:Nat) (f:Nat->Bool):List Bool:=(List.range (n+1)).map f
def jb3 (n k:Nat) (f:Nat->Bool):List Bool:=(List.range (n+1)).map fun q=>decide (q<k)&&f q
theorem jbX {n k:Nat} (f:Nat->Bool) (h:k<=n):(jfS n f)[k]? = some (f k):=by
 unfold jfS;rw[List.getElem?_map,List.getElem?_range (by omega)];rfl
theorem jep {n k q:Nat} (f:Nat->Bool) (h:q<k) (A:q<=n):(jb3 n k f)[q]? = some (f q):=by
 unfold jb3;rw[List.getElem?_map,List.getElem?_range (by omega)];simp[h]
theorem jds {n k:Nat} (f:Nat->Bool) (h:k<=n):(jb3 n k f).set k (f k)=jb3 n (k+1) f:=by
 unfold jb3;apply List.ext_getElem?;intro q;rw[List.getElem?_set,List.length_map,List.length_range];by_cases A:k=q
 ·subst A
  rw[if_pos rfl,if_pos (by omega),List.getElem?_map,List.getElem?_range (by omega)];simp
 ·rw[if_neg A,List.getElem?_map,List.getElem?_map]
  by_cases B:q<n+1
  ·rw[List.getElem?_range B]
   have:decide (q<k)=decide (q<k+1):=decide_eq_decide.2 (by omega);simp only[Option.map_some,this]
  ·rw[List.getElem?_eq_none (by rw[List.length_range];omega)]
   rfl
theorem jpI (n:Nat) (f:Nat->Bool):jb3 n 0 f=List.replicate (n+1) false:=by
 unfold jb3;apply List.ext_getElem?;intro q;rw[List.getElem?_map];by_cases A:q<n+1
 ·rw[List.getElem?_range A,List.getElem?_replicate,if_pos A]
  simp
 ·rw[List.getElem?_eq_none (by rw[List.length_range];omega),List.getElem?_replicate,if_neg A]
  rfl
theorem jd5 {n:Nat} (f:Nat->Bool) (h:f 0=false):jb3 n 1 f=jb3 n 0 f:=by
 unfold jb3;apply List.map_congr_left;intro q _;by_cases A:q=0
 ·subst A;simp[h]
 ·have:¬ q<1:=by omega
  simp[this]
theorem jdr (n:Nat) (f:Nat->Bool):jb3 n (n+1) f=jfS n f:=by
 unfold jb3 jfS;apply List.map_congr_left;intro q A;have:=List.mem_range.1 A;simp[this]
theorem juw (S:List Sign) (vs:List Int) (n:Nat):(List.replicate (n+1) false).set 0 true=jfS n (mat S vs 0):=by
 apply List.ext_getElem?;intro q;rw[List.getElem?_set];by_cases A:q=0
 ·subst A
  rw[if_pos rfl,jbX _ (Nat.zero_le _)];simp[mat]
 ·rw[if_neg (fun e=>A e.symm)]
  obtain⟨r,rfl⟩:∃ r,q=r+1:=⟨q-1,by omega⟩;by_cases B:r+1<=n
  ·rw[jbX _ B,List.getElem?_replicate,if_pos (by omega)]
   simp[mat]
  ·rw[List.getElem?_replicate,if_neg (by omega)]
   unfold jfS;rw[List.getElem?_map,List.getElem?_eq_none (by rw[List.length_range];omega)];rfl
theorem jpt {S:List Sign} {vs:List Int} {j:Nat} (h:S[j]? = some .any):mat S vs (j+1) 0=mat S vs j 0/\∀ k,mat S vs (j+1) (k+1)=(mat S vs j (k+1)||mat S vs (j+1) k):=by
 refine⟨by rw[mat,h],fun k=>by rw[mat,h]⟩
theorem jpu {S:List Sign} {vs:List Int} {j:Nat} (h:S[j]? = some .one):mat S vs (j+1) 0=false/\∀ k,mat S vs (j+1) (k+1)=mat S vs j k:=by
 refine⟨by rw[mat,h],fun k=>by rw[mat,h]⟩
theorem jip {S:List Sign} {vs:List Int} {j:Nat} {c:Int} (h:S[j]? = some (.that c)):mat S vs (j+1) 0=false/\∀ (k:Nat) (d:Int),vs[k]? = some d->mat S vs (j+1) (k+1)=(mat S vs j k&&(c==d)):=by
 refine⟨by rw[mat,h],fun k d B=>?_⟩;rw[mat,h];dsimp only;rw[B];congr 1;show (d==c)=(c==d);by_cases A:c=d
 ·subst A;rfl
 ·rw[beq_eq_false_iff_ne.2 (fun e=>A e.symm),beq_eq_false_iff_ne.2 A]
theorem juy {c:Int} (cs:List Int) (h:(c==126)=false):jar false (c::cs)=((if c==42 then Sign.any else if c==63 then Sign.one else Sign.that c)::(jar false cs).1,(jar false cs).2):=by
 simp only[jar];split
 ·rfl
 ·split
  ·rfl
  ·rw[h];rfl
theorem jsF {i:Nat} (h:i+1<=9223372036854775807):wrap64 ((i:Int)+1)=((i+1:Nat):Int):=by
 rw[show ((i:Int)+1)=((i+1:Nat):Int) by omega];exact IntWalk.wrap64_in _ (by omega)
theorem jpP (A:Int) (cs:List Int):jar false (126::A::cs)=(Sign.that A::(jar false cs).1,(jar false cs).2):=rfl
theorem jf5 {S:List Sign} {j:Nat} {x:Sign} {r:List Sign} (h:x::r=S.drop j):S[j]? = some x/\r=S.drop (j+1):=by
 have A:(S.drop j)[0]? = some x:=by rw[<- h];rfl
 rw[List.getElem?_drop,Nat.add_zero] at A;refine⟨A,?_⟩;rw[jat A] at h;exact (List.cons.inj h).2
theorem joF {u A:List UInt8} (C:u≠[]) (D:jfo u=false) (E:A≠[]) (F:jfo A=false):(jej u==jej A)=(((Lib.decodeL u).1:Int)==((Lib.decodeL A).1:Int)):=by
 have h:=jlG u A C E D F;by_cases B:(Lib.decodeL u).1=(Lib.decodeL A).1
 ·rw[h.2 B,B];simp
 ·have G:¬ jej u=jej A:=fun e=>B (h.1 e)
  rw[beq_eq_false_iff_ne.2 G];symm;rw[beq_eq_false_iff_ne];omega
theorem jqX {p v:ByteArray} (A:jcz p=true) (G:jav v=true):jav p=true/\(jar false (jaJ p 0)).2=false/\jdM p v=mat (jar false (jaJ p 0)).1 (jaJ v 0) (jar false (jaJ p 0)).1.length (jaJ v 0).length:=by
 have C:=A;rw[jid] at C;unfold jgk at C;unfold jcz at A;rw[Bool.and_eq_true] at A;have B:=jjO A.2;have D:=A.1;rw[if_pos B] at D;have E:(jar false (jaJ p 0)).2=false:=by simpa using D
 refine⟨B,E,?_⟩
 have F:jbY p=some (jar false (jaJ p 0)).1:=by
  unfold jbY;rw[if_pos A.2,E];rfl
 unfold jdM;rw[F,G];exact jtH _ _
theorem jtG {p v:ByteArray} (h:(jav v&&jcz p)=false):jdM p v=false:=by
 unfold jdM
 cases A:jbY p with
 | none=>rfl
 | some l =>
  have:jcz p=true:=by rw[jid];unfold jgk;rw[A];rfl
  rw[this,Bool.and_true] at h;show (jav v&&_)=false;rw[h];rfl
theorem jjd (p v:ByteArray) (w:World) (hp:p.size<4294967281) (hv:v.size<4294967281) (hn:(jaJ v 0).length<=900) :
  CR 72 #[.string p,.string v] w (.bool (jdM p v)):=by
 have aI:=Lib.hid (jcQ p w hp);have aJ:Hid (∀ W,Calls Tryz.prog 122 #[.string v] W (jec v W)):=fun W=>jcQ v W hv
 have aK:Hid (∀ W,CR 69 #[.string p] W (.bool (jcz p))):=fun W=>jdu p W hp
 have aa:∀ (s:ByteArray) W e w',jec s W e w'=∃ a cap,∃ l:List ByteArray,e=.returned (.tuple #[.slice a l.length cap,.bool (jav s)])/\l.map (·.data.toList)=jey s/\SlC jf6 1 w'.heap.size w' a l.length cap l/\Bw W w':=fun _ _ _ _=>rfl
 have aa:=Lib.hid aa
 cases aE:(jav v&&jcz p) with
 | false =>
  have H9:Hid (jdM p v=false):=jtG aE;generalize jdM p v=R at H9 ⊢
  cases U:jav v with
  | false =>
   go_enter Tryz.func72,Tryz.ntmps72;go_wp2_with fail;refine aI.out.mono ?_;intro e w1 h;rw[aa.out] at h;obtain⟨a,cap,l,rfl,-,-,ac⟩:=h;generalize l.length=ll;go_wp2_with fail;refine (aJ.out w1).mono ?_;intro e w2 h;rw[aa.out] at h;obtain⟨a2,aU,l2,rfl,-,-,ad⟩:=h;rw[U];generalize l2.length=ll2;go_wp2_with fail;go_ret;exact⟨by rw[H9.out];rfl,ac.trans (ad.mono ac.size)⟩
  | true =>
   rw[U,Bool.true_and] at aE;rw[aE] at aK;go_enter Tryz.func72,Tryz.ntmps72;go_wp2_with fail;refine aI.out.mono ?_;intro e w1 h;rw[aa.out] at h;obtain⟨a,cap,l,rfl,-,-,ac⟩:=h;generalize l.length=ll;go_wp2_with fail;refine (aJ.out w1).mono ?_;intro e w2 h;rw[aa.out] at h;obtain⟨a2,aU,l2,rfl,-,-,ad⟩:=h;rw[U];generalize l2.length=ll2;go_wp2_with fail;refine (aK.out w2).mono ?_;rintro e w3 ⟨rfl,ak⟩;go_wp2_with fail;go_ret;exact⟨by rw[H9.out];rfl,ac.trans ((ad.trans (ak.mono ad.size)).mono ac.size)⟩
 | true =>
  obtain⟨U,bf⟩:=Bool.and_eq_true_iff.1 aE;obtain⟨bg,bh,aB⟩:=jqX (v:=v) bf U;rw[bf] at aK;have aZ:Hid (∀ l:List ByteArray,l.map (·.data.toList)=jey p->l.length=(jaJ p 0).length/\∀ (i:Nat) (t:ByteArray),l[i]? = some t->∃ u:List UInt8,u≠[]/\jfo u=false/\t.toList=jej u/\(jaJ p 0)[i]? = some ((Lib.decodeL u).1:Int)):=fun l hl=>⟨jnZ bg hl,fun i t ht=>jsg bg hl ht⟩
  have a0:Hid (∀ l:List ByteArray,l.map (·.data.toList)=jey v->l.length=(jaJ v 0).length/\∀ (i:Nat) (t:ByteArray),l[i]? = some t->∃ u:List UInt8,u≠[]/\jfo u=false/\t.toList=jej u/\(jaJ v 0)[i]? = some ((Lib.decodeL u).1:Int)):=fun l hl=>⟨jnZ U hl,fun i t ht=>jsg U hl ht⟩
  obtain⟨cs,bI⟩:∃ cs,jaJ p 0=cs:=⟨_,rfl⟩;obtain⟨vs,bQ⟩:∃ vs,jaJ v 0=vs:=⟨_,rfl⟩;rw[bI] at aZ bh aB;rw[bQ] at a0 aB hn;obtain⟨S,hS⟩:∃ S,(jar false cs).1=S:=⟨_,rfl⟩;rw[hS] at aB;have bo:=Lib.hid aB;have bs:Hid ((jar false (cs.drop 0)).1=S.drop 0/\(jar false (cs.drop 0)).2=false):=⟨hS,bh⟩;generalize jdM p v=R at bo ⊢;clear bI bQ hS aB bh aE bf bg;go_enter Tryz.func72,Tryz.ntmps72;go_wp2_with fail;refine aI.out.mono ?_;intro e w1 h;rw[aa.out] at h;obtain⟨a,cap,l,rfl,aP,aN,ac⟩:=h;generalize jav p=okp;go_wp2_with fail;refine (aJ.out w1).mono ?_;intro e w2 h;rw[aa.out] at h;obtain⟨a2,aU,l2,rfl,bL,a6,ad⟩:=h;rw[U];obtain⟨aY,bB⟩:=aZ.out l aP;obtain⟨aC,bC⟩:=a0.out l2 bL;have bM:l.length<=maxLen:=Nat.le_trans aN.2.1 aN.2.2.1;unfold maxLen at bM;obtain⟨n,be⟩:∃ n,l2.length=n:=⟨_,rfl⟩;rw[be] at a6 aC ⊢;have bX:n<=900:=by omega
  have aR:=Lib.hid aY;have bq:=Lib.hid aC;have aS:=Lib.hid bB;have aT:=Lib.hid bC;have bu:=Lib.hid (aN.go ad);have bw:=Lib.hid a6;have br:=Lib.hid be;have aQ:Hid (Bw w w2):=ac.trans (ad.mono ac.size);clear aP bL aN a6 ac ad aY aC bB bC aZ a0 aI aJ aa U be hn;go_wp2_with fail;refine (aK.out w2).mono ?_;rintro e w3 ⟨rfl,ak⟩;obtain⟨W4,aD,aO,bA,bT⟩:=jjH w3 (n+1) (by omega);rw[show ((n+1:Nat):Int)=(n:Int)+1 by omega] at aD;have z0:W4.cell? ⟨w3.heap.size,0,none⟩=some (.bool false):=aO.cell (by rw[List.getElem?_replicate,if_pos (by omega)]);have z1:=aO.frozen 0;have bt:Hid (BoolsAt (W4.setCell ⟨w3.heap.size,0,none⟩ (.bool true)) w3.heap.size (jfS n (mat S vs 0))):=by rw[Hid,<- juw];exact aO.set 0 true
  have bn:Hid (Bw w2 (W4.setCell ⟨w3.heap.size,0,none⟩ (.bool true))):=(ak.trans (bA.mono ak.size)).setCell (p:=⟨w3.heap.size,0,none⟩) ak.size _;have bp:Hid (w2.heap.size<=w3.heap.size):=ak.size;have bR:w3.heap.size<W4.heap.size:=by omega
  generalize w3.heap.size=g3 at *;go_wp2_with fail;go_loopw [9,10] (fun av iv wr=>∃ (i j g:Nat),iv=.int .i64 i/\av=.slice (some ⟨g,0,none⟩) (n+1) (n+1)/\i<=l.length/\j<=S.length/\Bw w2 wr/\w2.heap.size<=g/\Hid (BoolsAt wr g (jfS n (mat S vs j)))/\Hid ((jar false (cs.drop i)).1=S.drop j/\(jar false (cs.drop i)).2=false)) (fun _ iv _=>l.length-(intOf iv).toNat)
  case atStart=>exact⟨0,0,g3,rfl,rfl,Nat.zero_le _,Nat.zero_le _,bn.out,bp.out,bt.out,bs.out⟩
  case round =>
   obtain⟨i,j,g,rfl,rfl,hi,hj,hB,hg,an,HQ⟩:=hrel;clear bn bt bs aD aO bA bT z0 z1 bp bR ak;have i0:(0:Int)<=(i:Int):=by omega
   by_cases bS:i<l.length
   ·obtain⟨t,ht⟩:∃ t,l[i]? = some t:=⟨_,List.getElem?_eq_getElem bS⟩
    obtain⟨u,aF,aG,aH,bj⟩:=aS.out i t ht;obtain⟨c,hc⟩:∃ c,((Lib.decodeL u).1:Int)=c:=⟨_,rfl⟩;rw[hc] at bj;have a3:(t.toList==[42])=(c==42):=by rw[aH,<- hc];exact jgw aF aG 42 (by decide)
    have aM:(t.toList==[63])=(c==63):=by rw[aH,<- hc];exact jgw aF aG 63 (by decide)
    have aV:(t.toList==[126])=(c==126):=by rw[aH,<- hc];exact jgw aF aG 126 (by decide)
    have aL:Hid (∀ (q:Nat) (tv:ByteArray),l2[q]? = some tv->∃ d,vs[q]? = some d/\(t.toList==tv.toList)=(c==d)):=fun q tv H=>by
     obtain⟨u',F,o,z,h4⟩:=aT.out q tv H;exact⟨_,h4,by rw[aH,z,<- hc];exact joF aF aG F o⟩
    have HD:Hid (cs.drop i=c::cs.drop (i+1)):=jat bj;have i1:(i:Int)<(l.length:Int):=by omega
    obtain⟨b,off,ea,bE,bG⟩:=bu.out.1.2 i t ht
    have aq:Hid (∀ W,Bw w2 W->W.cell? ⟨b,off+i,none⟩=some (.string t)):=fun W h=>by
     have F:=(h.cell (p:=⟨b,off+i*1+0,none⟩) bE).trans (bG 0 (by omega));simp only[Nat.mul_one,Nat.add_zero] at F;exact F
    have ar:Hid (∀ W,Bw w2 W->∀ t2,l[i+1]? = some t2->W.cell? ⟨b,off+(i+1),none⟩=some (.string t2)):=fun W h t2 o=>by
     obtain⟨b',bW,bz,bF,bH⟩:=bu.out.1.2 (i+1) t2 o;rw[ea] at bz
     cases bz
     have F:=(h.cell (p:=⟨b,off+(i+1)*1+0,none⟩) bF).trans (bH 0 (by omega));simp only[Nat.mul_one,Nat.add_zero] at F;exact F
    have au:=Lib.hid (aS.out (i+1));subst ea;have bb:=an.out.lt;obtain⟨W1,aD,bD,a5,bN⟩:=jjH wr (n+1) (by omega);rw[show ((n+1:Nat):Int)=(n:Int)+1 by omega] at aD;have ao:Hid (Bw w2 W1):=hB.trans (a5.mono hB.size);have c0:=aq.out W1 ao.out;have L:Hid (BoolsAt W1 g (jfS n (mat S vs j))):=an.out.block (a5.block g bb);have ab:Hid (BoolsAt W1 wr.heap.size (jb3 n 0 (mat S vs (j+1)))):=by rw[Hid,jpI];exact bD
    obtain⟨C,ba⟩:∃ C,wr.heap.size=C:=⟨_,rfl⟩;rw[ba] at aD ab bb bN;have bJ:g≠C:=by omega
    have aX:w2.heap.size<=C:=by rw[<- ba];exact hB.size
    have T:=Lib.hid (And.intro bJ aX);have bY:(0:Int)<=(n:Int):=Int.natCast_nonneg _;clear bG bE bD a5 ba ht aF aG aH bj hc bb bJ aX bN an;by_cases Y:(c==126)=true
    ·have a8:c=126:=beq_iff_eq.1 Y
     have bc:i+1<l.length:=by
      have F:=HQ.out.2;rw[HD.out,a8] at F;have o:=aR.out;by_cases z:i+1<l.length
      ·exact z
      ·rw[List.drop_of_length_le (i:=i+1) (by omega),ju6] at F
       exact absurd F (by decide)
     obtain⟨t2,bi⟩:∃ t,l[i+1]? = some t:=⟨_,List.getElem?_eq_getElem bc⟩;obtain⟨u2,U,bO,bP,bk⟩:=au.out t2 bi;obtain⟨c2,a7⟩:∃ c,((Lib.decodeL u2).1:Int)=c:=⟨_,rfl⟩;rw[a7] at bk
     have bx:Hid (∀ (q:Nat) (tv:ByteArray),l2[q]? = some tv->∃ d,vs[q]? = some d/\(t2.toList==tv.toList)=(c2==d)):=fun q tv H=>by
      obtain⟨u',F,o,z,h4⟩:=aT.out q tv H;exact⟨_,h4,by rw[bP,z,<- a7];exact joF U bO F o⟩
     have c1:=ar.out W1 ao.out t2 bi;have H:=HQ.out;rw[HD.out,a8,jat bk,jpP] at H;obtain⟨Q,m⟩:=jf5 (x:=Sign.that c2) (r:=(jar false (cs.drop (i+2))).1) H.1;have ag:Hid ((jar false (cs.drop (i+2))).1=S.drop (j+1)/\(jar false (cs.drop (i+2))).2=false):=⟨m,H.2⟩;have al:j+1<=S.length:=(List.getElem?_eq_some_iff.1 Q).1;obtain⟨D,E⟩:=jip (vs:=vs) Q;have D:=Lib.hid D;have E:=Lib.hid E;rw[Y] at aV;have i4:((i+1:Nat):Int)<(l.length:Int):=Int.ofNat_lt.2 bc;have i2:(i:Int)+1<(l.length:Int):=i4;have i3:(0:Int)<=(i:Int)+1:=Int.natCast_nonneg (i+1);have i5:(0:Int)<=((i+1:Nat):Int):=Int.natCast_nonneg _;have n3:wrap64 ((i:Int)+1)=((i+1:Nat):Int):=jsF (Nat.le_trans (Nat.le_of_lt bc) bM);clear bi U bO bP bk a7 H Q m Y a8 aq ar au aL a3 aM HQ HD
     cases bU:(t2.toList==[42])<;>cases bV:(t2.toList==[63])
     all_goals
      obtain⟨J,N⟩:∃ J,mat S vs j=J:=⟨_,rfl⟩;obtain⟨B,O⟩:∃ B,mat S vs (j+1)=B:=⟨_,rfl⟩;rw[N] at L E
      try rw[N] at D
      rw[O] at ab D E;have af:=Lib.hid O;clear N O;go_wp2_with fail;go_loopw [14] (fun kv wr=>∃ (k:Nat),kv=.int .i64 k/\k<=n+1/\Bw w2 wr/\Hid (BoolsAt wr g (jfS n J))/\Hid (BoolsAt wr C (jb3 n k B))) (fun kv _=>n+1-(intOf kv).toNat)
      case atStart=>exact⟨0,rfl,Nat.zero_le _,ao.out,L.out,ab.out⟩
      case round =>
       obtain⟨k,rfl,hk,M,I,A⟩:=hrel;have k0:(0:Int)<=(k:Int):=Int.natCast_nonneg k;by_cases P:k<=n
       ·have kn:(k:Int)<=(n:Int):=Int.ofNat_le.2 P
        have bl:(k:Int)<(n:Int)+1:=Int.lt_add_one_of_le kn;have f2:=A.out.frozen k;have d2:wr.cell? ⟨C,k,none⟩=some (.bool (decide (k<k)&&B k)):=A.out.cell (by unfold jb3;rw[List.getElem?_map,List.getElem?_range (by omega)];rfl);have aw:wr.cell? ⟨g,k,none⟩=some (.bool (J k)):=I.out.cell (jbX _ P)
        have X:Hid (∀ b:Bool,b=B k->BoolsAt (wr.setCell ⟨C,k,none⟩ (.bool b)) g (jfS n J)/\BoolsAt (wr.setCell ⟨C,k,none⟩ (.bool b)) C (jb3 n (k+1) B)/\Bw w2 (wr.setCell ⟨C,k,none⟩ (.bool b))):=fun b hb=>by
         refine⟨I.out.block (jae (p:=⟨C,k,none⟩) (fun e=>T.out.1 e.symm) _),?_,M.setCell (p:=⟨C,k,none⟩) T.out.2 _⟩;have:=A.out.set k b;rw[hb,jds B P] at this;rw[hb];exact this
        rcases Nat.eq_zero_or_pos k with G | G
        ·have g1:decide ((0:Int)<(k:Int))=false:=by rw[decide_eq_false_iff_not];omega
         have g0:¬ (0:Int)<(k:Int):=by omega
         have y:=Lib.hid G;clear G;go_wp2_with fail;go_roundw
         case rel=>exact⟨k+1,by go_num,by omega,M,I.out,by
          have F:=A.out;rw[y.out,<- jd5 B D.out] at F;rw[Hid,y.out];exact F⟩
         case measure=>simp[intOf];omega
        ·have g1:decide ((0:Int)<(k:Int))=true:=by rw[decide_eq_true_iff];omega
         have g0:(0:Int)<(k:Int):=by omega
         obtain⟨q,H⟩:∃ q,k=q+1:=⟨k-1,by omega⟩;have f:q<=n:=by omega
         have cq:wr.cell? ⟨g,q,none⟩=some (.bool (J q)):=I.out.cell (jbX _ f);have a1:wr.cell? ⟨C,q,none⟩=some (.bool (B q)):=A.out.cell (jep _ (by omega) f);have bm:wrap64 ((k:Int)-1)=(q:Int):=by rw[show ((k:Int)-1)=(q:Int) by omega];exact IntWalk.wrap64_in _ (by omega)
         have q0:(0:Int)<=(q:Int):=Int.natCast_nonneg q;have q1:(q:Int)<(n:Int)+1:=by omega
         have q2:(q:Int)<(n:Int):=by omega
         have q3:(k:Int)-1=(q:Int):=by omega
         have ah:Hid (k=q+1):=H;clear H G;obtain⟨tv,am⟩:∃ tv,l2[q]? = some tv:=⟨_,List.getElem?_eq_getElem (by have:=br.out;omega)⟩;obtain⟨d,aA,a9⟩:=bx.out q tv am;obtain⟨bv,ae,a4,ay,az⟩:=bw.out.1.2 q tv am
         have cv:wr.cell? ⟨bv,ae+q,none⟩=some (.string tv):=by
          have F:=(M.cell (p:=⟨bv,ae+q*1+0,none⟩) ay).trans (az 0 (by omega));simp only[Nat.mul_one,Nat.add_zero] at F;exact F
         have HE:Hid (B k=(J q&&(c2==d))):=by rw[Hid,ah.out];exact E.out q d aA
         subst a4;generalize (c2==d)=bd at a9 HE;generalize J q=b0 at cq HE;clear aA am az ay
         cases b0 with
         | false =>
          have V:Hid (false=B k):=by rw[Hid,HE.out];rfl
          go_wp2_with fail;go_roundw
          case rel =>
           obtain⟨F,o,z⟩:=X.out _ V.out;exact⟨k+1,by go_num,by omega,z,F,o⟩
          case measure=>simp[intOf];omega
         | true =>
          have V:Hid (bd=B k):=by rw[Hid,HE.out,Bool.true_and]
          go_wp2_with fail;go_roundw
          case rel =>
           obtain⟨F,o,z⟩:=X.out _ V.out;exact⟨k+1,by go_num,by omega,z,F,o⟩
          case measure=>simp[intOf];omega
       ·have kn:¬ (k:Int)<=(n:Int):=by omega
        have ai:Hid (BoolsAt wr C (jfS n (mat S vs (j+1)))):=by
         have:=A.out;rw[show k=n+1 by omega,jdr] at this;rw[Hid,af.out];exact this
        go_wp2_with fail;go_roundw
        case rel=>exact⟨i+2,j+1,C,by go_num,rfl,by omega,al,M,T.out.2,ai.out,ag.out⟩
        case measure=>simp[intOf];omega
    ·have Z:(c==126)=false:=by simpa using Y
     rw[Z] at aV;have H:=HQ.out;rw[HD.out,juy _ Z] at H;by_cases aj:(c==42)=true
     ·rw[if_pos aj] at H
      obtain⟨Q,m⟩:=jf5 (x:=Sign.any) (r:=(jar false (cs.drop (i+1))).1) H.1;have ag:Hid ((jar false (cs.drop (i+1))).1=S.drop (j+1)/\(jar false (cs.drop (i+1))).2=false):=⟨m,H.2⟩;have al:j+1<=S.length:=(List.getElem?_eq_some_iff.1 Q).1;obtain⟨D,E⟩:=jpt (vs:=vs) Q;have D:=Lib.hid D;have E:=Lib.hid E;rw[aj] at a3;clear H Q m Y Z aj aq ar au aL aM HQ HD;obtain⟨J,N⟩:∃ J,mat S vs j=J:=⟨_,rfl⟩;obtain⟨B,O⟩:∃ B,mat S vs (j+1)=B:=⟨_,rfl⟩;rw[N] at L E
      try rw[N] at D
      rw[O] at ab D E;have af:=Lib.hid O;clear N O;go_wp2_with fail;go_loopw [14] (fun kv wr=>∃ (k:Nat),kv=.int .i64 k/\k<=n+1/\Bw w2 wr/\Hid (BoolsAt wr g (jfS n J))/\Hid (BoolsAt wr C (jb3 n k B))) (fun kv _=>n+1-(intOf kv).toNat)
      case atStart=>exact⟨0,rfl,Nat.zero_le _,ao.out,L.out,ab.out⟩
      case round =>
       obtain⟨k,rfl,hk,M,I,A⟩:=hrel;have k0:(0:Int)<=(k:Int):=Int.natCast_nonneg k;by_cases P:k<=n
       ·have kn:(k:Int)<=(n:Int):=Int.ofNat_le.2 P
        have bl:(k:Int)<(n:Int)+1:=Int.lt_add_one_of_le kn;have f2:=A.out.frozen k;have d2:wr.cell? ⟨C,k,none⟩=some (.bool (decide (k<k)&&B k)):=A.out.cell (by unfold jb3;rw[List.getElem?_map,List.getElem?_range (by omega)];rfl);have aw:wr.cell? ⟨g,k,none⟩=some (.bool (J k)):=I.out.cell (jbX _ P)
        have X:Hid (∀ b:Bool,b=B k->BoolsAt (wr.setCell ⟨C,k,none⟩ (.bool b)) g (jfS n J)/\BoolsAt (wr.setCell ⟨C,k,none⟩ (.bool b)) C (jb3 n (k+1) B)/\Bw w2 (wr.setCell ⟨C,k,none⟩ (.bool b))):=fun b hb=>by
         refine⟨I.out.block (jae (p:=⟨C,k,none⟩) (fun e=>T.out.1 e.symm) _),?_,M.setCell (p:=⟨C,k,none⟩) T.out.2 _⟩;have:=A.out.set k b;rw[hb,jds B P] at this;rw[hb];exact this
        rcases Nat.eq_zero_or_pos k with G | G
        ·have g1:decide ((0:Int)<(k:Int))=false:=by rw[decide_eq_false_iff_not];omega
         have g0:¬ (0:Int)<(k:Int):=by omega
         have y:=Lib.hid G;clear G;have HE:Hid (J k=B k):=by rw[Hid,y.out];exact D.out.symm
         generalize J k=b0 at aw HE
         cases b0
         all_goals
          go_wp2_with fail;go_roundw
          case rel =>
           obtain⟨F,o,z⟩:=X.out _ HE.out;exact⟨k+1,by go_num,by omega,z,F,o⟩
          case measure=>simp[intOf];omega
        ·have g1:decide ((0:Int)<(k:Int))=true:=by rw[decide_eq_true_iff];omega
         have g0:(0:Int)<(k:Int):=by omega
         obtain⟨q,H⟩:∃ q,k=q+1:=⟨k-1,by omega⟩;have f:q<=n:=by omega
         have cq:wr.cell? ⟨g,q,none⟩=some (.bool (J q)):=I.out.cell (jbX _ f);have a1:wr.cell? ⟨C,q,none⟩=some (.bool (B q)):=A.out.cell (jep _ (by omega) f);have bm:wrap64 ((k:Int)-1)=(q:Int):=by rw[show ((k:Int)-1)=(q:Int) by omega];exact IntWalk.wrap64_in _ (by omega)
         have q0:(0:Int)<=(q:Int):=Int.natCast_nonneg q;have q1:(q:Int)<(n:Int)+1:=by omega
         have q2:(q:Int)<(n:Int):=by omega
         have q3:(k:Int)-1=(q:Int):=by omega
         have ah:Hid (k=q+1):=H;clear H G;have HE:Hid (B k=(J k||B q)):=by rw[Hid,ah.out];exact E.out q
         generalize J k=b0 at aw HE
         cases b0 with
         | true =>
          have V:Hid (true=B k):=by rw[Hid,HE.out];rfl
          go_wp2_with fail;go_roundw
          case rel =>
           obtain⟨F,o,z⟩:=X.out _ V.out;exact⟨k+1,by go_num,by omega,z,F,o⟩
          case measure=>simp[intOf];omega
         | false =>
          have V:Hid (B q=B k):=by rw[Hid,HE.out];rfl
          go_wp2_with fail;go_roundw
          case rel =>
           obtain⟨F,o,z⟩:=X.out _ V.out;exact⟨k+1,by go_num,by omega,z,F,o⟩
          case measure=>simp[intOf];omega
       ·have kn:¬ (k:Int)<=(n:Int):=by omega
        have ai:Hid (BoolsAt wr C (jfS n (mat S vs (j+1)))):=by
         have:=A.out;rw[show k=n+1 by omega,jdr] at this;rw[Hid,af.out];exact this
        go_wp2_with fail;go_roundw
        case rel=>exact⟨i+1,j+1,C,by go_num,rfl,by omega,al,M,T.out.2,ai.out,ag.out⟩
        case measure=>simp[intOf];omega
     ·have ax:(c==42)=false:=by simpa using aj
      rw[if_neg aj] at H;rw[ax] at a3;by_cases ap:(c==63)=true
      ·rw[if_pos ap] at H
       obtain⟨Q,m⟩:=jf5 (x:=Sign.one) (r:=(jar false (cs.drop (i+1))).1) H.1;have ag:Hid ((jar false (cs.drop (i+1))).1=S.drop (j+1)/\(jar false (cs.drop (i+1))).2=false):=⟨m,H.2⟩;have al:j+1<=S.length:=(List.getElem?_eq_some_iff.1 Q).1;obtain⟨D,E⟩:=jpu (vs:=vs) Q;have D:=Lib.hid D;have E:=Lib.hid E;rw[ap] at aM;clear H Q m Y Z aj ax ap aq ar au aL HQ HD;obtain⟨J,N⟩:∃ J,mat S vs j=J:=⟨_,rfl⟩;obtain⟨B,O⟩:∃ B,mat S vs (j+1)=B:=⟨_,rfl⟩;rw[N] at L E
       try rw[N] at D
       rw[O] at ab D E;have af:=Lib.hid O;clear N O;go_wp2_with fail;go_loopw [14] (fun kv wr=>∃ (k:Nat),kv=.int .i64 k/\k<=n+1/\Bw w2 wr/\Hid (BoolsAt wr g (jfS n J))/\Hid (BoolsAt wr C (jb3 n k B))) (fun kv _=>n+1-(intOf kv).toNat)
       case atStart=>exact⟨0,rfl,Nat.zero_le _,ao.out,L.out,ab.out⟩
       case round =>
        obtain⟨k,rfl,hk,M,I,A⟩:=hrel;have k0:(0:Int)<=(k:Int):=Int.natCast_nonneg k;by_cases P:k<=n
        ·have kn:(k:Int)<=(n:Int):=Int.ofNat_le.2 P
         have bl:(k:Int)<(n:Int)+1:=Int.lt_add_one_of_le kn;have f2:=A.out.frozen k;have d2:wr.cell? ⟨C,k,none⟩=some (.bool (decide (k<k)&&B k)):=A.out.cell (by unfold jb3;rw[List.getElem?_map,List.getElem?_range (by omega)];rfl);have aw:wr.cell? ⟨g,k,none⟩=some (.bool (J k)):=I.out.cell (jbX _ P)
         have X:Hid (∀ b:Bool,b=B k->BoolsAt (wr.setCell ⟨C,k,none⟩ (.bool b)) g (jfS n J)/\BoolsAt (wr.setCell ⟨C,k,none⟩ (.bool b)) C (jb3 n (k+1) B)/\Bw w2 (wr.setCell ⟨C,k,none⟩ (.bool b))):=fun b hb=>by
          refine⟨I.out.block (jae (p:=⟨C,k,none⟩) (fun e=>T.out.1 e.symm) _),?_,M.setCell (p:=⟨C,k,none⟩) T.out.2 _⟩;have:=A.out.set k b;rw[hb,jds B P] at this;rw[hb];exact this
         rcases Nat.eq_zero_or_pos k with G | G
         ·have g1:decide ((0:Int)<(k:Int))=false:=by rw[decide_eq_false_iff_not];omega
          have g0:¬ (0:Int)<(k:Int):=by omega
          have y:=Lib.hid G;clear G;go_wp2_with fail;go_roundw
          case rel=>exact⟨k+1,by go_num,by omega,M,I.out,by
           have F:=A.out;rw[y.out,<- jd5 B D.out] at F;rw[Hid,y.out];exact F⟩
          case measure=>simp[intOf];omega
         ·have g1:decide ((0:Int)<(k:Int))=true:=by rw[decide_eq_true_iff];omega
          have g0:(0:Int)<(k:Int):=by omega
          obtain⟨q,H⟩:∃ q,k=q+1:=⟨k-1,by omega⟩;have f:q<=n:=by omega
          have cq:wr.cell? ⟨g,q,none⟩=some (.bool (J q)):=I.out.cell (jbX _ f);have a1:wr.cell? ⟨C,q,none⟩=some (.bool (B q)):=A.out.cell (jep _ (by omega) f);have bm:wrap64 ((k:Int)-1)=(q:Int):=by rw[show ((k:Int)-1)=(q:Int) by omega];exact IntWalk.wrap64_in _ (by omega)
          have q0:(0:Int)<=(q:Int):=Int.natCast_nonneg q;have q1:(q:Int)<(n:Int)+1:=by omega
          have q2:(q:Int)<(n:Int):=by omega
          have q3:(k:Int)-1=(q:Int):=by omega
          have ah:Hid (k=q+1):=H;clear H G;have HE:Hid (J q=B k):=by rw[Hid,ah.out];exact (E.out q).symm
          go_wp2_with fail;go_roundw
          case rel =>
           obtain⟨F,o,z⟩:=X.out _ HE.out;exact⟨k+1,by go_num,by omega,z,F,o⟩
          case measure=>simp[intOf];omega
        ·have kn:¬ (k:Int)<=(n:Int):=by omega
         have ai:Hid (BoolsAt wr C (jfS n (mat S vs (j+1)))):=by
          have:=A.out;rw[show k=n+1 by omega,jdr] at this;rw[Hid,af.out];exact this
         go_wp2_with fail;go_roundw
         case rel=>exact⟨i+1,j+1,C,by go_num,rfl,by omega,al,M,T.out.2,ai.out,ag.out⟩
         case measure=>simp[intOf];omega
      ·have aW:(c==63)=false:=by simpa using ap
       rw[if_neg ap] at H;rw[aW] at aM;obtain⟨Q,m⟩:=jf5 (x:=Sign.that c) (r:=(jar false (cs.drop (i+1))).1) H.1;have ag:Hid ((jar false (cs.drop (i+1))).1=S.drop (j+1)/\(jar false (cs.drop (i+1))).2=false):=⟨m,H.2⟩;have al:j+1<=S.length:=(List.getElem?_eq_some_iff.1 Q).1;obtain⟨D,E⟩:=jip (vs:=vs) Q;have D:=Lib.hid D;have E:=Lib.hid E;clear H Q m Y Z aj ax ap aW aq ar au HQ HD;obtain⟨J,N⟩:∃ J,mat S vs j=J:=⟨_,rfl⟩;obtain⟨B,O⟩:∃ B,mat S vs (j+1)=B:=⟨_,rfl⟩;rw[N] at L E
       try rw[N] at D
       rw[O] at ab D E;have af:=Lib.hid O;clear N O;go_wp2_with fail;go_loopw [14] (fun kv wr=>∃ (k:Nat),kv=.int .i64 k/\k<=n+1/\Bw w2 wr/\Hid (BoolsAt wr g (jfS n J))/\Hid (BoolsAt wr C (jb3 n k B))) (fun kv _=>n+1-(intOf kv).toNat)
       case atStart=>exact⟨0,rfl,Nat.zero_le _,ao.out,L.out,ab.out⟩
       case round =>
        obtain⟨k,rfl,hk,M,I,A⟩:=hrel;have k0:(0:Int)<=(k:Int):=Int.natCast_nonneg k;by_cases P:k<=n
        ·have kn:(k:Int)<=(n:Int):=Int.ofNat_le.2 P
         have bl:(k:Int)<(n:Int)+1:=Int.lt_add_one_of_le kn;have f2:=A.out.frozen k;have d2:wr.cell? ⟨C,k,none⟩=some (.bool (decide (k<k)&&B k)):=A.out.cell (by unfold jb3;rw[List.getElem?_map,List.getElem?_range (by omega)];rfl);have aw:wr.cell? ⟨g,k,none⟩=some (.bool (J k)):=I.out.cell (jbX _ P)
         have X:Hid (∀ b:Bool,b=B k->BoolsAt (wr.setCell ⟨C,k,none⟩ (.bool b)) g (jfS n J)/\BoolsAt (wr.setCell ⟨C,k,none⟩ (.bool b)) C (jb3 n (k+1) B)/\Bw w2 (wr.setCell ⟨C,k,none⟩ (.bool b))):=fun b hb=>by
          refine⟨I.out.block (jae (p:=⟨C,k,none⟩) (fun e=>T.out.1 e.symm) _),?_,M.setCell (p:=⟨C,k,none⟩) T.out.2 _⟩;have:=A.out.set k b;rw[hb,jds B P] at this;rw[hb];exact this
         rcases Nat.eq_zero_or_pos k with G | G
         ·have g1:decide ((0:Int)<(k:Int))=false:=by rw[decide_eq_false_iff_not];omega
          have g0:¬ (0:Int)<(k:Int):=by omega
          have y:=Lib.hid G;clear G;go_wp2_with fail;go_roundw
          case rel=>exact⟨k+1,by go_num,by omega,M,I.out,by
           have F:=A.out;rw[y.out,<- jd5 B D.out] at F;rw[Hid,y.out];exact F⟩
          case measure=>simp[intOf];omega
         ·have g1:decide ((0:Int)<(k:Int))=true:=by rw[decide_eq_true_iff];omega
          have g0:(0:Int)<(k:Int):=by omega
          obtain⟨q,H⟩:∃ q,k=q+1:=⟨k-1,by omega⟩;have f:q<=n:=by omega
          have cq:wr.cell? ⟨g,q,none⟩=some (.bool (J q)):=I.out.cell (jbX _ f);have a1:wr.cell? ⟨C,q,none⟩=some (.bool (B q)):=A.out.cell (jep _ (by omega) f);have bm:wrap64 ((k:Int)-1)=(q:Int):=by rw[show ((k:Int)-1)=(q:Int) by omega];exact IntWalk.wrap64_in _ (by omega)
          have q0:(0:Int)<=(q:Int):=Int.natCast_nonneg q;have q1:(q:Int)<(n:Int)+1:=by omega
          have q2:(q:Int)<(n:Int):=by omega
          have q3:(k:Int)-1=(q:Int):=by omega
          have ah:Hid (k=q+1):=H;clear H G;obtain⟨tv,am⟩:∃ tv,l2[q]? = some tv:=⟨_,List.getElem?_eq_getElem (by have:=br.out;omega)⟩;obtain⟨d,aA,a9⟩:=aL.out q tv am;obtain⟨bv,ae,a4,ay,az⟩:=bw.out.1.2 q tv am
          have cv:wr.cell? ⟨bv,ae+q,none⟩=some (.string tv):=by
           have F:=(M.cell (p:=⟨bv,ae+q*1+0,none⟩) ay).trans (az 0 (by omega));simp only[Nat.mul_one,Nat.add_zero] at F;exact F
          have HE:Hid (B k=(J q&&(c==d))):=by rw[Hid,ah.out];exact E.out q d aA
          subst a4;generalize (c==d)=bd at a9 HE;generalize J q=b0 at cq HE;clear aA am az ay
          cases b0 with
          | false =>
           have V:Hid (false=B k):=by rw[Hid,HE.out];rfl
           go_wp2_with fail;go_roundw
           case rel =>
            obtain⟨F,o,z⟩:=X.out _ V.out;exact⟨k+1,by go_num,by omega,z,F,o⟩
           case measure=>simp[intOf];omega
          | true =>
           have V:Hid (bd=B k):=by rw[Hid,HE.out,Bool.true_and]
           go_wp2_with fail;go_roundw
           case rel =>
            obtain⟨F,o,z⟩:=X.out _ V.out;exact⟨k+1,by go_num,by omega,z,F,o⟩
           case measure=>simp[intOf];omega
        ·have kn:¬ (k:Int)<=(n:Int):=by omega
         have ai:Hid (BoolsAt wr C (jfS n (mat S vs (j+1)))):=by
          have:=A.out;rw[show k=n+1 by omega,jdr] at this;rw[Hid,af.out];exact this
         go_wp2_with fail;go_roundw
         case rel=>exact⟨i+1,j+1,C,by go_num,rfl,by omega,al,M,T.out.2,ai.out,ag.out⟩
         case measure=>simp[intOf];omega
   ·have i1:¬ (i:Int)<(l.length:Int):=by omega
    have H:=HQ.out;have aP:=aR.out;rw[List.drop_of_length_le (i:=i) (by omega)] at H
    have bK:j=S.length:=by
     have F:S.drop j=[]:=H.1.symm;rw[List.drop_eq_nil_iff] at F;omega
    have H9:Hid (R=mat S vs j n):=by rw[Hid,bo.out,bK,bq.out]
    have c0:wr.cell? ⟨g,n,none⟩=some (.bool (mat S vs j n)):=an.out.cell (jbX _ (Nat.le_refl n));rw[<- H9.out] at c0;have n4:(n:Int)<((n+1:Nat):Int):=by omega
    have n5:(0:Int)<=(n:Int):=Int.natCast_nonneg _;clear H aP bK;go_wp2_with fail;go_ret;exact⟨rfl,aQ.out.trans (hB.mono aQ.out.size)⟩
end Go.Proofs.YtafhpamnegmilaaGreatDoor

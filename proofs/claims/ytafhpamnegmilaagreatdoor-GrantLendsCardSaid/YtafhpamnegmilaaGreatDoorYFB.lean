/- The reference of layer 7: New, Place, Add, Of, Merge, Lower, Count, at registers that are right. Package hist: Merge. The references' answers in plain data: ranks, greater registers, sums of counters, counters lowered. No program in sight. The reference of layer 8: Add, Merge, Lower, at counters that are right. Printed by gen_de.py. What a pattern stands for, place by place, as the reference of layer 5 finds it: the same as by sets of places. No program in sight. -/
import Derived.Test.YtafhpamnegmilaaGreatDoorYRE
set_option maxHeartbeats 4000000
set_option maxRecDepth 100000
namespace Go.Proofs.YtafhpamnegmilaaGreatDoor
open Go Go.RowKit
section
open Go.Shelf
theorem jeS (b:Nat) (C:3<=b) (D:b<=8) (w:World):Calls Tryz.prog 155 #[.int .i64 b] w fun e w'=>e=.returned (.bool true)/\w'=w :=
 (jc3 b w).mono fun e w' ⟨A,B⟩=>⟨by rw[A];simp[jbP];omega,B⟩
theorem jcR (b:Nat) (r:List Nat) (w:World) (A:3<=b) (B:b<=8) (C:r.length=2^b) (hr:∀ i,r.getD i 0<=65-b) :
  CR 119 #[.agg #[.int .i64 b,.string (jap r)]] w (.bool true) :=
 (jeR b (jap r) w).mono fun e w' h=>⟨by rw[h.1,jdo b r A B C hr],h.2⟩
def jcd (b:Nat) (r:List Nat) (w:World) (e:Ending) (w':World):Prop:=e=.returned (.tuple #[.agg #[.int .i64 b,.string (jap r)],.int .i64 0])/\Bw w w'
theorem jjU {W:World} {b:Nat} {x y:Value} {t:TypeId} (u v:Value) (h:W.heap[b]? = some (.cells #[x,y] t (0,0))) :
  ∃ V,(W.setCell ⟨b,0,none⟩ u).setCell ⟨b,1,none⟩ v=V/\V.heap[b]? = some (.cells #[u,v] t (0,0))/\(∀ n B,Below n B W->n<=b->Below n B V) :=
 ⟨_,rfl,hSk (hSk h _) _,fun _ _ C A=>(C.setCell (p:=⟨b,0,none⟩) A _).setCell (p:=⟨b,1,none⟩) A _⟩
theorem jkL (b:Nat) (w:World) (R:3<=b) (O:b<=8):Calls Tryz.prog 165 #[.int .i64 b] w (jcd b (jaY b) w):=by
 have I:=Lib.hid (fun w=>jeS b R O w);have L:2^b<=2^8:=Nat.pow_le_pow_right (by omega) O
 have U:IntKind.i64.wrap (2^b)=((2^b:Nat):Int):=by
  have S:∀ n:Nat,n<=256->IntKind.i64.wrap (n:Int)=n:=fun n h=>IntWalk.i64_in _ (by omega)
  simpa using S (2^b) L
 unfold jaY jcd;generalize 2^b=len at L U ⊢;obtain⟨Q,T,E,B,M⟩:=jaf w #[.int .i64 0,.string ⟨#[]⟩] 34;obtain⟨Z,J,H,C,N⟩:=jnj Q len (by omega);have A:=(C.block _ (by omega)).trans E;have G:=je5 (cap:=len) H (List.length_replicate ..);rw[M] at J G;generalize jap (List.replicate len 0)=out at G ⊢;obtain⟨a,c⟩:=cl2 A;obtain⟨d,f⟩:=cz2 A;obtain⟨V,g,F,D⟩:=jjU (.int .i64 b) (.string out) A;obtain⟨X,Y⟩:=cl2 F;have P:Hid (Bw w V):=D _ _ (B.trans (C.mono B.size)) (Nat.le_refl _);clear L E A H B C N F D;go_enter Tryz.func165,Tryz.ntmps165;go_wp2_with (go_at_call 155;refine (I.out _).mono ?_;rintro e w' ⟨rfl,rfl⟩);exact bodyPost_ret (v:=.tuple #[.agg #[.int .i64 b,.string out],.int .i64 0]) (by simp[results,Tryz.f165,go_sem,X,Y]) rfl ⟨rfl,P.out⟩
theorem jix (b n:Nat) (w:World) (r:3<=b) (Z:b<=8) (m:n<2^64):Calls Tryz.prog 186 #[.int .i64 b,.int .u64 n] w fun e w'=>e=.returned (.tuple #[.int .i64 (jna b n:Nat),.int .i64 (jcU b n:Nat)])/\w'=w:=by
 have g:=Lib.hid (fun w=>jeS b r Z w);have D:Hid (3<=b/\b<=8):=⟨r,Z⟩;have p:Hid (n<2^64):=m;have u:=Lib.hid (jkm b n Z m);have L:Hid (jna b n=n / 2^(64-b)):=rfl;have x:=Lib.hid (fun k=>jvr n k);have v:=Lib.hid (fun k=>jua b n k);have X:=Lib.hid (jrr b n (by omega));have N:=Lib.hid (fun k=>juq b n k);have M:=Lib.hid (jrP b n (by omega));have S:Hid (∀ j,n / 2^j % 2=0\/n / 2^j % 2=1):=fun j=>by have:=Nat.mod_lt (n / 2^j) (show 0<2 by omega);omega
 generalize jna b n=at_ at u L ⊢;generalize jcU b n=rk at N M ⊢;have ib:(b:Int)<=8:=by omega
 have af:(3:Int)<=b:=by omega
 clear m;go_enter Tryz.func186,Tryz.ntmps186;go_wp2_with (go_at_call 155;refine (g.out _).mono ?_;rintro e w' ⟨rfl,h9⟩;subst w');go_loopw [6,7,8] (fun y rv i wr=>∃ (k A R:Nat),i=.int .i64 ((63:Int)-k)/\k<=64/\y=.int .i64 A/\rv=.int .i64 R/\A<=255/\R<=70/\Hid (k<=b->A=n / 2^(64-k)/\R=1)/\Hid (b<=k->A=at_/\R=1+(k-b)/\jrp b n k)/\wr=w) (fun _ _ i _=>(intOf i+1).toNat)
 case atStart=>exact⟨0,0,1,rfl,Nat.zero_le _,rfl,rfl,by omega,by omega,fun _=>⟨(Nat.div_eq_of_lt p.out).symm,rfl⟩,fun h=>by have:=D.out.1;omega,rfl⟩
 case round =>
  obtain⟨k,A,R,rfl,P,rfl,rfl,hA,hR,t,o,rfl⟩:=hrel;by_cases C:k<64
  ·obtain⟨j,hj⟩:∃ j:Nat,63-k=j:=⟨_,rfl⟩
   have Y:(63:Int)-(k:Int)=(j:Int):=by omega
   have s:j<=63:=by omega
   obtain⟨d,c⟩:∃ d,n / 2^j % 2=d:=⟨_,rfl⟩;have ad:d<=1:=by rcases S.out j with h | h<;>omega
   have H:=Lib.hid c;have f:((n:Int) / 2^j % 2)=(d:Int):=by rw[<- c];simp
   have ae:((n:Int) / 2^j).tmod 2=(d:Int):=by rw[Int.tmod_eq_emod_of_nonneg (Int.ediv_nonneg (by omega) (Int.le_of_lt (by exact Int.pow_pos (by decide))))];exact f
   rw[Y];have U:=Lib.hid hj;have j0:(0:Int)<=(j:Int):=by omega
   clear c;by_cases O:k<b
   ·have z:(64:Int)-(b:Int)<=(j:Int):=by omega
    have G:=Lib.hid O;have I:=Lib.hid C;clear O C P;go_wp2_with fail;go_roundw
    case rel =>
     obtain⟨E,F⟩:=t.out (Nat.le_of_lt G.out);have Q:=x.out k I.out;rw[U.out,H.out,<- E] at Q
     have a:2*A+d<=255:=by
      rw[<- Q];have ab:=D.out.2;have ac:=G.out
      have hp:n<2^(64-(k+1))*2^8:=by
       refine Nat.lt_of_lt_of_le p.out ?_;rw[<- Nat.pow_add];exact Nat.pow_le_pow_right (by omega) (by omega)
      have:=Nat.div_lt_of_lt_mul hp;omega
     refine⟨k+1,2*A+d,R,by first | go_num | (congr 1;omega),by have:=I.out;omega,by first | go_num | (congr 1;omega),rfl,a,hR,fun _=>⟨Q.symm,F⟩,fun h=>?_,by first | rfl | trivial⟩;have l:k+1=b:=by have:=G.out;omega
     subst l;exact⟨by rw[<- Q,L.out],by omega,X.out⟩
    case measure=>simp[intOf];try omega
   ·have z:¬ (64:Int)-(b:Int)<=(j:Int):=by omega
    have G:Hid (b<=k):=by rw[Hid];omega
    have I:=Lib.hid C;obtain⟨E,F,J⟩:=o.out (by omega);have q:=Lib.hid J;rcases (by omega:d=0\/d=1) with rfl | rfl
    ·have V:=Lib.hid (v.out k G.out I.out q.out (by rw[U.out];exact H.out))
     have B:Hid (A=at_/\R=1+(k-b)):=⟨E,F⟩;have aa:R<=69:=by have:=D.out.1;omega
     clear O C P E F J;go_wp2_with fail;go_roundw
     case rel =>
      refine⟨k+1,A,R+1,by first | go_num | (congr 1;omega),by have:=I.out;omega,rfl,by first | go_num | (congr 1;omega),hA,by omega,fun h=>by have:=G.out;omega,fun _=>⟨B.out.1,by have:=B.out.2;have:=G.out;omega,V.out⟩,by first | rfl | trivial⟩
     case measure=>simp[intOf];try omega
    ·have T:=Lib.hid (N.out k G.out I.out q.out (by rw[U.out];exact H.out))
     have B:Hid (A=at_/\R=1+(k-b)):=⟨E,F⟩;clear O C P E F J;go_wp2_with fail;go_ret2;exact⟨by rw[B.out.1,B.out.2,T.out];rfl,rfl⟩
  ·obtain rfl:k=64:=by omega
   obtain⟨E,F,J⟩:=o.out (by have:=D.out.2;omega);have T:=Lib.hid (M.out J);have B:Hid (A=at_/\R=1+(64-b)):=⟨E,F⟩;have Y:(63:Int)-((64:Nat):Int) = -1:=rfl;rw[Y];clear E F J P C;go_wp2_with fail;go_ret2;exact⟨by rw[B.out.1,B.out.2,T.out,show 1+(64-b)=65-b by have:=D.out.2;omega];rfl,rfl⟩
theorem jkK (b:Nat) (r:List Nat) (n:Nat) (w:World) (h1:3<=b) (T:b<=8) (hl:r.length=2^b) (hr:∀ i,r.getD i 0<=65-b) (hn:n<2^64) :
  Calls Tryz.prog 166 #[.agg #[.int .i64 b,.string (jap r)],.int .u64 n] w (jcd b (jib b r n) w):=by
 have hR:=Lib.hid (fun P=>jcR b r P h1 T hl hr);have J:=Lib.hid (fun P=>jix b n P h1 T hn);have hp:=jkm b n T hn;have ab:jcU b n<=65:=by unfold jcU;split<;>omega
 have o:=hr (jna b n);have E:=jdk r (fun x o=>by have:=jeH hr x o;omega);have hz:=jbz r;have ah:2^b<=2^8:=Nat.pow_le_pow_right (by omega) T;unfold jib jcd;generalize jna b n=p at J hp o ⊢;generalize jcU b n=k at J ab ⊢;obtain⟨x,N⟩:∃ x,r.getD p 0=x:=⟨_,rfl⟩;have l:r[p]? = some x:=by rw[<- N,List.getD_eq_getElem?_getD,List.getElem?_eq_getElem (by omega)];rfl
 have ac:x<=65:=by omega
 unfold jbg;rw[N];obtain⟨m,hm⟩:∃ m,max x k=m:=⟨_,rfl⟩;have ag:max (x:Int) (k:Int)=(m:Int):=by omega
 have af:IntKind.u8.wrap (m:Int)=(m:Int):=by
  have:m<256:=by omega
  simp[IntKind.wrap,IntKind.bits,IntKind.signed];omega
 rw[hm];obtain⟨H,F⟩:∃ H,jap (r.set p m)=H:=⟨_,rfl⟩;rw[F];have R:=Lib.hid F;have S:=Lib.hid l;have HL:=Lib.hid hl;generalize jap r=s at hR E hz ⊢;have HN:=Lib.hid E;have j:s.size=2^b:=by omega
 obtain⟨W0,ad,L,c,U,ai⟩:=jaI w #[.int .i64 b,.string s] 34 #[.int .i64 0,.string ⟨#[]⟩] 34;have y:=Lib.hid L;have z:=Lib.hid c;have Q:=Lib.hid U;obtain⟨c0,c1⟩:=cl2 L;have u:=Lib.hid j;have pi:(p:Int)<((2^b:Nat):Int):=by omega
 clear L c U E hz j F l hl hr o N h1 T hn hm;go_enter Tryz.func166,Tryz.ntmps166;go_wp2_with fail;refine (hR.out _).mono ?_;rintro e P ⟨rfl,D⟩;have M:=jab D (Nat.le_refl _) y.out;have I:=jab D (Nat.le_refl _) z.out;obtain⟨d0,d1⟩:=cl2 M;have q:=Lib.hid D;obtain⟨W2,cap,d,B,C,h⟩:=jeY P s;rw[HN.out] at B;rw[u.out] at d;generalize hg:P.heap.size=g at d B C h;have ae:w.heap.size+1<g:=by rw[<- hg];have:=D.size;omega
 have q0:=B.cell S.out;have q1:=B.frozen S.out;obtain⟨O,G⟩:∃ O,W2.setCell ⟨g,p,none⟩ (.int .u8 (m:Int))=O:=⟨_,rfl⟩;have f:RegsAt O g (r.set p m):=by rw[<- G];exact B.set p m
 have Z:O.heap[w.heap.size]? = some (.cells #[.int .i64 b,.string s] 34 (0,0)):=by
  rw[<- G];exact (jae (p:=⟨g,p,none⟩) (by show g≠_;omega) _).trans ((C.block _ (by omega)).trans M)
 have A:O.heap[w.heap.size+1]? = some (.cells #[.int .i64 0,.string ⟨#[]⟩] 34 (0,0)):=by
  rw[<- G];exact (jae (p:=⟨g,p,none⟩) (by show g≠_;omega) _).trans ((C.block _ (by omega)).trans I)
 have X:Bw w O:=by
  rw[<- G];exact ((Q.out.trans (q.out.mono Q.out.size)).trans (C.mono (by omega))).setCell (p:=⟨g,p,none⟩) (by show w.heap.size<=g;omega) _
 have aa:=je5 (cap:=cap) f (List.length_set.trans HL.out);rw[R.out] at aa;obtain⟨u0,u1⟩:=cl2 Z;obtain⟨y0,y1⟩:=cl2 A;obtain⟨f0,f1⟩:=cz2 A;obtain⟨V,hV,a,Y⟩:=jjU (.int .i64 b) (.string H) A;obtain⟨k0,k1⟩:=cl2 a;have t:Hid (Bw w V):=Y _ _ X (by omega);clear M I hg B C h f Z A X a Y D;go_wp2_with (go_at_call 186;refine (J.out _).mono ?_;rintro e w' ⟨rfl,h9⟩;subst w');exact bodyPost_ret (v:=.tuple #[.agg #[.int .i64 b,.string H],.int .i64 0]) (by simp[results,Tryz.f166,go_sem,k0,k1]) rfl ⟨rfl,t.out⟩
def mxK (r r2:List Nat) (k:Nat):List Nat:=(List.range r.length).map fun i=>if i<k then max (r.getD i 0) (r2.getD i 0) else r.getD i 0
theorem jfF (r A:List Nat) (k:Nat):(mxK r A k).length=r.length:=by simp[mxK]
theorem jl2 (r A:List Nat) (k i:Nat) (B:i<r.length):(mxK r A k)[i]? = some (if i<k then max (r.getD i 0) (A.getD i 0) else r.getD i 0):=by simp[mxK,B]
theorem jxm (r B:List Nat):mxK r B 0=r:=by
 apply List.ext_getElem?;intro i;by_cases A:i<r.length
 ·rw[jl2 r B 0 i A,if_neg (by omega),List.getD_eq_getElem?_getD,List.getElem?_eq_getElem A];rfl
 ·rw[List.getElem?_eq_none (by rw[jfF];omega),List.getElem?_eq_none (by omega)]
theorem jui (r A:List Nat) (k:Nat):(mxK r A k).set k (max (r.getD k 0) (A.getD k 0))=mxK r A (k+1):=by
 apply List.ext_getElem?;intro i;rw[List.getElem?_set];by_cases C:i<r.length
 ·by_cases B:k=i
  ·subst B
   rw[if_pos rfl,if_pos (by rw[jfF];exact C),jl2 r A (k+1) k C,if_pos (by omega)]
  ·rw[if_neg B,jl2 r A k i C,jl2 r A (k+1) i C]
   by_cases D:i<k
   ·rw[if_pos D,if_pos (by omega)]
   ·rw[if_neg D,if_neg (by omega)]
 ·rw[List.getElem?_eq_none (by rw[jfF];omega)]
  by_cases B:k=i
  ·rw[if_pos B,if_neg (by rw[jfF];omega),List.getElem?_eq_none (by rw[jfF];omega)]
  ·rw[if_neg B,List.getElem?_eq_none (by rw[jfF];omega)]
theorem jiw (b:Nat) (r B:List Nat) (w:World) (h1:3<=b) (h2:b<=8) (hl:r.length=2^b) (hr:∀ i,r.getD i 0<=65-b) (a:B.length=2^b) (I:∀ i,B.getD i 0<=65-b) :
  Calls Tryz.prog 81 #[.agg #[.int .i64 b,.string (jap r)],.agg #[.int .i64 b,.string (jap B)]] w (jcd b (mxK r B (2^b)) w):=by
 have hR:=Lib.hid (fun w1=>jcR b r w1 h1 h2 hl hr);have q:=Lib.hid (fun w1=>jcR b B w1 h1 h2 a I);have E:=jdk r (fun x S=>by have:=jeH hr x S;omega);have hz:=jbz r;have ad:Hid (∀ (i:Nat) (hi:i<(jap B).size),((jap B)[i]'hi).toNat=B.getD i 0):=fun i hi=>jkZ B (fun x S=>by have:=jeH I x S;omega) i hi
 have L:=jbz B;have af:2^b<=2^8:=Nat.pow_le_pow_right (by omega) h2;unfold jcd;obtain⟨M,F⟩:∃ M,jap (mxK r B (2^b))=M:=⟨_,rfl⟩;rw[F];have P:=Lib.hid F;have O:=Lib.hid (fun k=>(jfF r B k).trans hl);have ap:=Lib.hid (fun k=>jui r B k);have c:=Lib.hid (fun k (hk:k<2^b)=>jl2 r B k k (by omega));have HL:=Lib.hid hl;have an:=Lib.hid hr;have j:=Lib.hid I;generalize jap r=s at hR E hz ⊢;generalize jap B=s2 at q ad L ⊢;rw[hl] at hz;rw[a] at L;have HN:=Lib.hid E;obtain⟨W0,au,T,z,u,n,ax⟩:=jbJ w #[.int .i64 b,.string s] 34 #[.int .i64 b,.string s2] 34 #[.int .i64 0,.string ⟨#[]⟩] 34;have HX:Hid (∀ W,Bw W0 W->W.heap[w.heap.size]? = some (.cells #[.int .i64 b,.string s] 34 (0,0))/\W.heap[w.heap.size+1]? = some (.cells #[.int .i64 b,.string s2] 34 (0,0))/\W.heap[w.heap.size+2]? = some (.cells #[.int .i64 0,.string ⟨#[]⟩] 34 (0,0))):=fun W hb=>⟨jab hb (Nat.le_refl _) T,jab hb (Nat.le_refl _) z,jab hb (Nat.le_refl _) u⟩
 have d:=Lib.hid n;obtain⟨c0,c1⟩:=cl2 T;have ao:=Lib.hid hz;have Q:=Lib.hid L;have l:2^b<=256:=af;clear T z u n E hz L F hl hr a I h1 h2 af;go_enter Tryz.func81,Tryz.ntmps81;go_wp2_with fail;refine (hR.out _).mono ?_;rintro e w1 ⟨rfl,Y⟩;obtain⟨-,aa,-⟩:=HX.out w1 Y;obtain⟨d0,d1⟩:=cl2 aa;have f:=Lib.hid Y;clear aa Y;go_wp2_with fail;refine (q.out _).mono ?_;rintro e w2 ⟨rfl,ac⟩;have C:=f.out.trans (ac.mono f.out.size);obtain⟨U,X,R⟩:=HX.out w2 C;obtain⟨x0,x1⟩:=cl2 U;obtain⟨y0,y1⟩:=cl2 X;obtain⟨W3,cap,Z,J,D,ag⟩:=jeY w2 s;rw[HN.out] at J;rw[ao.out] at Z;generalize hg:w2.heap.size=g at Z J D ag;have aj:=C.size;have av:w.heap.size+2<g:=by omega
 have HK:Hid (∀ W,OnlyAt g W3 W->W.heap[w.heap.size]? = some (.cells #[.int .i64 b,.string s] 34 (0,0))/\W.heap[w.heap.size+1]? = some (.cells #[.int .i64 b,.string s2] 34 (0,0))/\W.heap[w.heap.size+2]? = some (.cells #[.int .i64 0,.string ⟨#[]⟩] 34 (0,0))):=fun W ho =>
  ⟨(ho.2 _ (by omega)).trans ((D.block _ (by omega)).trans U),(ho.2 _ (by omega)).trans ((D.block _ (by omega)).trans X),(ho.2 _ (by omega)).trans ((D.block _ (by omega)).trans R)⟩
 have ak:Hid (Bw w W3):=(d.out.trans (C.mono d.out.size)).trans (D.mono (by omega));have am:Hid (RegsAt W3 g (mxK r B 0)):=by rw[jxm];exact J
 clear U X R J D ag ac C hg aj;generalize 2^b=N at Z l Q O c P;go_wp2_with fail;go_loopw [7] (fun i wr=>∃ k:Nat,i=.int .i64 k/\k<=N/\Hid (OnlyAt g W3 wr)/\Hid (RegsAt wr g (mxK r B k))/\Hid (Bw w wr)) (fun i _=>N-(intOf i).toNat)
 case atStart=>exact⟨0,rfl,Nat.zero_le _,OnlyAt.refl _ _,am,ak⟩
 case round =>
  obtain⟨k,rfl,hk,HO,G,h⟩:=hrel;by_cases ae:k<N
  ·have S:=c.out k ae
   rw[if_neg (by omega)] at S;have q0:=G.out.cell S;have q1:=G.out.frozen S;have ar:k<s2.size:=by rw[Q.out];exact ae
   have ey:=ad.out k ar;have ah:=an.out k;have ai:=j.out k;have HS:=Lib.hid (ap.out k);obtain⟨H,ab,A⟩:=HK.out wr HO.out;obtain⟨u0,u1⟩:=cl2 ab;generalize r.getD k 0=x at q0 HS ah;generalize B.getD k 0=y at ey HS ai;obtain⟨m,hm⟩:∃ m,max x y=m:=⟨_,rfl⟩;have aw:max (x:Int) (y:Int)=(m:Int):=by omega
   rw[hm] at HS;have i0:(0:Int)<=(k:Int):=Int.natCast_nonneg _;have i1:(k:Int)<(N:Int):=by omega
   clear H ab A S hm ah ai;go_wp2_with fail;go_region;go_wp2_with fail
   all_goals go_roundw
   case rel =>
    refine⟨k+1,by go_num,by omega,⟨(HO.out.set k _).1,(HO.out.set k _).2⟩,?_,(h.out.setCell (p:=⟨g,k,none⟩) (by show w.heap.size<=g;omega) _).drew⟩;rw[Hid,<- HS.out];exact (G.out.set k m).block rfl
   case measure=>simp[intOf];try omega
  ·obtain rfl:k=N:=by omega
   have aq:=je5 (cap:=cap) G.out (O.out k);rw[P.out] at aq;obtain⟨H,-,A⟩:=HK.out wr HO.out;obtain⟨u0,u1⟩:=cl2 H;obtain⟨t0,t1⟩:=cl2 A;obtain⟨f0,f1⟩:=cz2 A;obtain⟨V,hV,t,o⟩:=jjU (.int .i64 b) (.string M) A;obtain⟨k0,k1⟩:=cl2 t;have al:Hid (Bw w V):=o _ _ h.out (by omega);clear H A t o;go_wp2_with fail;exact bodyPost_ret (v:=.tuple #[.agg #[.int .i64 b,.string M],.int .i64 0]) (by simp[results,Tryz.f81,go_sem,k0,k1]) rfl ⟨rfl,al.out⟩
theorem jnb (b:Nat) (r:List Nat) (l:List Nat) (n:Nat):jcn b r (l++[n])=jib b (jcn b r l) n:=by unfold jcn;rw[List.foldl_append];rfl
theorem jmh (b:Nat) (l:List Int) (a:Option Addr) (len cap:Nat) (w:World) (M:3<=b) (f:b<=8) (hL:SlE jaG 1 w.heap.size w a len l) (hu:jc8 l) (ag:len<=1000) :
  Calls Tryz.prog 133 #[.int .i64 b,.slice a len cap] w (jcd b (jcn b (jaY b) (l.map Int.toNat)) w):=by
 have Z:=hL.1;obtain⟨W0,ah,B,J,ak⟩:=jaf w #[.int .i64 0,.string ⟨#[]⟩] 34;have HL:=Lib.hid (hL.go J);have HN:Hid (∀ W,Calls Tryz.prog 165 #[.int .i64 b] W (jcd b (jaY b) W)):=fun W=>jkL b W M f
 have HA:Hid (∀ (r:List Nat) (n:Nat) W,r.length=2^b->(∀ i,r.getD i 0<=65-b)->n<2^64->Calls Tryz.prog 166 #[.agg #[.int .i64 b,.string (jap r)],.int .u64 n] W (jcd b (jib b r n) W)):=fun r n W hl hr hn=>jkK b r n W M f hl hr hn
 have s:Hid (∀ m:List Nat,(jcn b (jaY b) m).length=2^b):=fun m=>by rw[jeE];exact List.length_replicate ..
 have q:Hid (∀ (m:List Nat) i,(jcn b (jaY b) m).getD i 0<=65-b):=fun m=>jkn b f m _ (jlI b _)
 have t:Hid (jcn b (jaY b) ((l.take 0).map Int.toNat)=jaY b):=rfl;have y:Hid (∀ (k:Nat) (x:Int),l[k]? = some x->jcn b (jaY b) ((l.take (k+1)).map Int.toNat)=jib b (jcn b (jaY b) ((l.take k).map Int.toNat)) x.toNat):=fun k x N=>by rw[jai N,List.map_append];exact jnb ..
 obtain⟨S,hS⟩:∃ S:Nat->List Nat,∀ k,S k=jcn b (jaY b) ((l.take k).map Int.toNat):=⟨_,fun _=>rfl⟩;have R:=Lib.hid hS;have j:Hid (S len=jcn b (jaY b) (l.map Int.toNat)):=by rw[Hid,hS,List.take_of_length_le (by omega)]
 have HU:=Lib.hid hu;have o:=Lib.hid Z;have ab:=Lib.hid B;have P:=Lib.hid J;unfold jcd;rw[<- j.out];obtain⟨G,C⟩:∃ G,jap (S len)=G:=⟨_,rfl⟩;rw[C];have Q:=Lib.hid C;clear B J hL Z hu M f hS C;go_enter Tryz.func133,Tryz.ntmps133;go_wp2_with fail;refine (HN.out _).mono ?_;rintro e c ⟨rfl,F⟩;obtain⟨W2,ai,X,T,ae⟩:=jaf c #[.int .i64 b,.string (jap (jaY b))] 34;have af:=F.size;have H:=F.trans (T.mono F.size);have z:Hid (W2.heap[c.heap.size]? = some (.cells #[.int .i64 b,.string (jap (S 0))] 34 (0,0))):=by rw[Hid,R.out,t.out];exact X
 have g:=Lib.hid H;clear X T ae F H;go_wp2_with fail;go_loopw [7,8] (fun ev i wr=>∃ k:Nat,ev=.int .i64 0/\i=.int .i64 k/\k<=len/\Hid (wr.heap[c.heap.size]? = some (.cells #[.int .i64 b,.string (jap (S k))] 34 (0,0)))/\Hid (Bw W0 wr)) (fun _ i _=>len-(intOf i).toNat)
 case atStart=>exact⟨0,rfl,rfl,Nat.zero_le _,z,g⟩
 case round =>
  obtain⟨k,rfl,rfl,hk,d,I⟩:=hrel;have i0:(0:Int)<=(k:Int):=Int.natCast_nonneg _;have A:=d.out;obtain⟨c0,c1⟩:=cl2 A;by_cases ad:k<len
  ·obtain⟨x,N⟩:∃ x,l[k]? = some x:=⟨_,List.getElem?_eq_getElem (by rw[<- o.out];exact ad)⟩
   obtain⟨bb,off,rfl,ac,hc⟩:=HL.out.2 k x N
   have aj:wr.cell? ⟨bb,off+k,none⟩=some (.int .u64 x):=by
    have M:=hc 0 (by omega);simp only[Nat.mul_one,Nat.add_zero] at M;exact (I.out.cell (p:=⟨bb,off+k,none⟩) ac).trans M
   obtain⟨x0,x1⟩:=HU.out x (List.mem_of_getElem? N);obtain⟨n,rfl⟩:=Int.eq_ofNat_of_zero_le x0;have u:Hid (S (k+1)=jib b (S k) n):=by rw[Hid,R.out,R.out,y.out k _ N,Int.toNat_natCast]
   have O:=Lib.hid (HA.out (S k) n wr.drew (by rw[R.out];exact s.out _) (by rw[R.out];exact q.out _) (by omega));have i1:(k:Int)<(len:Int):=by omega
   obtain⟨f0,f1⟩:=cz2 A;generalize jap (S k)=sk at A c1 O d;have aa:Hid (wr.drew.heap[c.heap.size]? = some (.cells #[.int .i64 b,.string sk] 34 (0,0))):=A;have U:Bw W0 wr.drew:=I.out.drew;have I:=Lib.hid U;clear hc N A d x0 x1 U;have HZ:Hid (W0.heap.size<=c.heap.size):=af;go_wp2_with fail
   -- region Of
   refine wp_region_any (by kernel_rfl) ?_;change wpAny _ _ _ _ _ _ _ (World.drew _)
   ·
    refine ta 1 ?_;refine ta 2 ?_;refine ta 3 ?_;refine rd [0,4] (.cons rfl (fun K hK=>?_) (.cons rfl (fun K hK=>?_) .nil))
    all_goals go_simp
    all_goals (refine hK _ _ ?_;clear hK K)
    all_goals first
     | (refine rq [4] (.cons rfl (fun K hK=>?_) .nil))
     | (refine rq [0] (.cons rfl (fun K hK=>?_) .nil))
    all_goals go_simp
    all_goals (refine hK _ _ ?_;clear hK K)
    all_goals (refine rd [5] (.cons rfl (fun K hK=>?_) .nil))
    all_goals go_simp
    all_goals
     refine O.out.mono ?_;rintro e w3 ⟨rfl,Y⟩;have L:=jab Y (Nat.le_refl _) aa.out;obtain⟨g0,g1⟩:=cz2 L;obtain⟨d0,d1⟩:=cl2 L;obtain⟨V,hV,E,D⟩:=jjU (.int .i64 b) (.string (jap (jib b (S k) n))) L;refine hK _ _ ?_;clear hK K
    all_goals (refine ta 6 ?_;refine ta 7 ?_;refine ta 8 ?_;refine rd [9] (.cons rfl (fun K hK=>?_) .nil))
    all_goals go_simp
    all_goals (refine hK _ _ ?_;clear hK K)
    all_goals (refine rd [10] (.cons rfl (fun K hK=>?_) .nil))
    all_goals go_simp
    all_goals (refine hK _ _ ?_;clear hK K)
    all_goals (refine wpAny_done (by kernel_rfl) ?_ _)
    all_goals
     go_wp2_with fail
     all_goals go_roundw
     case rel=>exact⟨k+1,rfl,by go_num,by omega,by rw[Hid,u.out];exact E,D _ _ (I.out.trans (Y.mono I.out.size)) HZ.out⟩
     case measure=>simp[intOf];try omega
   -- end
  ·obtain rfl:k=len:=by omega
   rw[Q.out] at A c1;have B:wr.heap[w.heap.size]? = some (.cells #[.int .i64 0,.string ⟨#[]⟩] 34 (0,0)):=jab I.out (Nat.le_refl _) ab.out;obtain⟨t0,t1⟩:=cl2 B;obtain⟨f0,f1⟩:=cz2 B;obtain⟨V,hV,E,D⟩:=jjU (.int .i64 b) (.string G) B;obtain⟨v0,v1⟩:=cl2 E;have h:Hid (Bw w V):=D _ _ (P.out.trans (I.out.mono P.out.size)) (Nat.le_refl _);clear B E D A d;go_wp2_with fail;exact bodyPost_ret (v:=.tuple #[.agg #[.int .i64 b,.string G],.int .i64 0]) (by simp[results,Tryz.f133,go_sem,v0,v1]) rfl ⟨rfl,h.out⟩
theorem jiv (b:Nat) (r:List Nat) (w:World) (h1:4<=b) (h2:b<=8) (hl:r.length=2^b) (hr:∀ i,r.getD i 0<=65-b) :
  Calls Tryz.prog 134 #[.agg #[.int .i64 b,.string (jap r)]] w (jcd (b-1) (jfC b r) w):=by
 have hR:=Lib.hid (fun w1=>jcR b r w1 (by omega) h2 hl hr);have Z:Hid (∀ (i:Nat) (hi:i<(jap r).size),((jap r)[i]'hi).toNat=r.getD i 0):=fun i hi=>jkZ r (fun x hx=>by have:=jeH hr x hx;omega) i hi
 have hz:=jbz r;rw[hl] at hz;unfold jcd;rw[show (((b-1:Nat)):Int)=(b:Int)-1 by omega];obtain⟨J,E⟩:∃ J,jap (jfC b r)=J:=⟨_,rfl⟩;rw[E];have ab:=Lib.hid E;have au:=Lib.hid hr;have ap:=Lib.hid (ju0 b r);have q:=Lib.hid (joq b r);have M:=Lib.hid (fun k=>jde b r k);have aq:=Lib.hid (fun k=>jlW b r k);have t:=Lib.hid (fun k i (hi:i<2^(b-1))=>jin b r k i hi);have R:2^(b-1)<=2^7:=Nat.pow_le_pow_right (by omega) (by omega);have I:(jap r).size=2*2^(b-1):=by rw[hz,<- Nat.pow_succ',show (b-1).succ=b by omega]
 have z:Hid (jaY (b-1)=List.replicate (2^(b-1)) 0):=rfl;generalize jap r=s at hR Z I ⊢;generalize 2^(b-1)=N at R I q M t z;have av:N<=128:=R;obtain⟨W0,aG,U,aj,ae,aN⟩:=jaI w #[.int .i64 b,.string s] 34 #[.int .i64 0,.string ⟨#[]⟩] 34;have HX:Hid (∀ W,Bw W0 W->W.heap[w.heap.size]? = some (.cells #[.int .i64 b,.string s] 34 (0,0))/\W.heap[w.heap.size+1]? = some (.cells #[.int .i64 0,.string ⟨#[]⟩] 34 (0,0))):=fun W hb=>⟨jab hb (Nat.le_refl _) U,jab hb (Nat.le_refl _) aj⟩
 have n:=Lib.hid ae;obtain⟨c0,c1⟩:=cl2 U;have ad:=Lib.hid I;have aH:((b:Int)==3)=false:=by rw[beq_eq_false_iff_ne];omega
 have aA:(s.size:Int) / 2=(N:Int):=by omega
 have aM:(s.size:Int).tdiv 2=(N:Int):=by rw[Int.tdiv_eq_ediv_of_nonneg (Int.natCast_nonneg _)];exact aA
 have aJ:(b:Int)<=8:=by omega
 have aI:(4:Int)<=b:=by omega
 clear U aj ae hz E hl hr I R;go_enter Tryz.func134,Tryz.ntmps134;go_wp2_with fail;refine (hR.out _).mono ?_;rintro e w1 ⟨rfl,H⟩;obtain⟨X,L⟩:=HX.out w1 H;obtain⟨x0,x1⟩:=cl2 X;obtain⟨W3,ay,d,D,ak⟩:=jnj w1 N (by omega);generalize hg:w1.heap.size=g at ay d D ak;have am:=H.size;have aK:w.heap.size+1<g:=by omega
 have HK:Hid (∀ W,OnlyAt g W3 W->W.heap[w.heap.size]? = some (.cells #[.int .i64 b,.string s] 34 (0,0))/\W.heap[w.heap.size+1]? = some (.cells #[.int .i64 0,.string ⟨#[]⟩] 34 (0,0))):=fun W ho =>
  ⟨(ho.2 _ (by omega)).trans ((D.block _ (by omega)).trans X),(ho.2 _ (by omega)).trans ((D.block _ (by omega)).trans L)⟩
 have an:Hid (Bw w W3):=(n.out.trans (H.mono n.out.size)).trans (D.mono (by omega));have ar:Hid (RegsAt W3 g (jpr b r 0)):=by rw[ap.out,z.out];exact d
 clear X L d D ak H hg am;go_wp2_with fail;go_loopw [5] (fun i wr=>∃ k:Nat,i=.int .i64 k/\k<=N/\Hid (OnlyAt g W3 wr)/\Hid (RegsAt wr g (jpr b r k))/\Hid (Bw w wr)) (fun i _=>N-(intOf i).toNat)
 case atStart=>exact⟨0,rfl,Nat.zero_le _,OnlyAt.refl _ _,ar,an⟩
 case round =>
  obtain⟨k,rfl,hk,HO,B,F⟩:=hrel;obtain⟨Y,A⟩:=HK.out wr HO.out;obtain⟨u0,u1⟩:=cl2 Y;have i0:(0:Int)<=(k:Int):=Int.natCast_nonneg _;by_cases ax:k<N
  ·have aB:2*k<s.size:=by rw[ad.out];omega
   have aC:2*k+1<s.size:=by rw[ad.out];omega
   have ex:=Z.out (2*k) aB;have ey:=Z.out (2*k+1) aC;have O:=Lib.hid (aq.out k);have aE:=au.out (2*k);have C:=t.out k k ax;rw[if_neg (by omega)] at C;have a:=M.out k;generalize r.getD (2*k) 0=x at ex O aE;generalize r.getD (2*k+1) 0=y at ey O;generalize jpr b r k=r0 at B O C a
   have h:r0[k]? = some 0:=by
    rw[List.getD_eq_getElem?_getD] at C;rw[List.getElem?_eq_getElem (by omega)] at C ⊢;exact congrArg some C
   have q0:=B.out.cell h;have q1:=B.out.frozen h;have i1:(k:Int)<(N:Int):=by omega
   have HG:Hid (w.heap.size<=g):=by show w.heap.size<=g;omega
   have ht:∀ m,jbg r0 k m=r0.set k m:=fun m=>by unfold jbg;rw[C,Nat.zero_max]
   have HT:=Lib.hid ht;have c:r0.length=N:=a;clear Y A C a h ht;by_cases hx:x=0
   ·subst hx
    by_cases j:y=0
    ·subst j
     go_wp2_with fail
     all_goals go_roundw
     case rel=>exact⟨k+1,by go_num,by omega,HO.out,by rw[Hid,<- O.out];show RegsAt _ g (jbg (jbg r0 k 0) k 0);rw[jcX,jcX];exact B.out,F.out⟩
     case measure=>simp[intOf];try omega
    ·have aF:(0:Int)<(y:Int):=by omega
     have Q:Hid (jp6 y=1):=if_neg j;have az:max (0:Int) 1=1:=rfl;clear j;go_wp2_with fail
     all_goals go_roundw
     case rel=>exact⟨k+1,by go_num,by omega,HO.out.set k _,by rw[Hid,<- O.out,show upR 0=0 from rfl,jcX,Q.out,HT.out];exact B.out.set k 1,F.out.setCell (p:=⟨g,k,none⟩) HG.out _⟩
     case measure=>simp[intOf];try omega
   ·have aO:(0:Int)<(x:Int):=by omega
    have al:Hid (upR x=x+1):=if_neg hx;have hm:((x:Int)+1) % 256=(x:Int)+1:=by omega
    have aL:IntKind.u8.wrap ((x:Int)+1)=(x:Int)+1:=by simp[IntKind.wrap,IntKind.bits,IntKind.signed];omega
    have az:max ((x:Int)+1) 1=(x:Int)+1:=by omega
    have aD:Hid (∀ (l:List Nat),(l.set k (x+1)).length=N->(jbg (l.set k (x+1)) k 1)=(l.set k (x+1)).set k (x+1)):=fun l hl=>by
     unfold jbg;rw[List.length_set] at hl;rw[List.getD_eq_getElem?_getD,List.getElem?_set,if_pos rfl,if_pos (by omega)];simp
    have u:Hid ((r0.set k (x+1)).length=N):=by rw[Hid,List.length_set,c]
    clear hx;obtain⟨P,T⟩:∃ P,wr.setCell ⟨g,k,none⟩ (.int .u8 ((x:Int)+1))=P:=⟨_,rfl⟩;have S:OnlyAt g W3 P:=by rw[<- T];exact HO.out.set k _
    have G:RegsAt P g (r0.set k (x+1)):=by rw[<- T];exact B.out.set k (x+1)
    have af:Bw w P:=by rw[<- T];exact F.out.setCell (p:=⟨g,k,none⟩) HG.out _
    obtain⟨ah,-⟩:=HK.out P S;obtain⟨z0,z1⟩:=cl2 ah
    have f:(r0.set k (x+1))[k]? = some (x+1):=by
     have:=u.out;rw[List.length_set] at this;rw[List.getElem?_set,if_pos rfl,if_pos (by omega)]
    have q2:P.cell? ⟨g,k,none⟩=some (.int .u8 ((x:Int)+1)):=G.cell f;have q3:=G.frozen f;have aa:=Lib.hid S;have ac:=Lib.hid G;have o:=Lib.hid af;clear ah f S G af;by_cases j:y=0
    ·subst j
     go_wp2_with fail
     all_goals go_roundw
     case rel=>exact⟨k+1,by go_num,by omega,aa.out,by rw[Hid,<- O.out,al.out,HT.out];show RegsAt _ g (jbg (r0.set k (x+1)) k 0);rw[jcX];exact ac.out,o.out⟩
     case measure=>simp[intOf];try omega
    ·have aF:(0:Int)<(y:Int):=by omega
     have Q:Hid (jp6 y=1):=if_neg j;clear j;go_wp2_with fail
     all_goals go_roundw
     case rel=>exact⟨k+1,by go_num,by omega,aa.out.set k _,by rw[Hid,<- O.out,al.out,HT.out,Q.out,aD.out _ u.out];exact ac.out.set k (x+1),o.out.setCell (p:=⟨g,k,none⟩) HG.out _⟩
     case measure=>simp[intOf];try omega
  ·obtain rfl:k=N:=by omega
   have aw:=je5 (cap:=k) B.out (M.out k);rw[q.out,ab.out] at aw;obtain⟨t0,t1⟩:=cl2 A;obtain⟨f0,f1⟩:=cz2 A;obtain⟨V,hV,ai,ag⟩:=jjU (.int .i64 ((b:Int)-1)) (.string J) A;obtain⟨v0,v1⟩:=cl2 ai;have ao:Hid (Bw w V):=ag _ _ F.out (by omega);clear Y A ai ag;go_wp2_with fail;exact bodyPost_ret (v:=.tuple #[.agg #[.int .i64 ((b:Int)-1),.string J],.int .i64 0]) (by simp[results,Tryz.f134,go_sem,v0,v1]) rfl ⟨rfl,ao.out⟩
end
section
open Go.Shelf Go.Maps
theorem jq6 {w w6 w7:World} {b rb:Nat} {a:Option Addr} {len cap:Nat} {l:List (Int × Int)} (f:Int) (E:w.heap.size<=rb) (J:rb<b) (B:w6.heap[rb]? = some (.cells #[.int .i64 0,.slice none 0 0] 39 (0,0))) (A:Bw w w6) (G:SlC jbO 2 w7.heap.size w7 a len cap l) (H:∀ x,a=some x->w6.heap.size<=x.block) (D:w6.grownBy w7 (some b)) :
  w7.heap[rb]? = some (.cells #[.int .i64 0,.slice none 0 0] 39 (0,0))/\∃ V,(w7.setCell ⟨rb,0,none⟩ (.int .i64 f)).setCell ⟨rb,1,none⟩ (.slice a len cap)=V/\V.heap[rb]? = some (.cells #[.int .i64 f,.slice a len cap] 39 (0,0))/\SlC jbO 2 V.heap.size V a len cap l/\Bw w V:=by
 have L:=(Array.getElem?_eq_some_iff.1 B).1;have C:=(D.block _ L (fun e=>by cases e;omega)).trans B;refine⟨C,_,rfl,jbB C,?_,?_⟩
 ·have I:((w7.setCell ⟨rb,0,none⟩ (.int .i64 f)).setCell ⟨rb,1,none⟩ (.slice a len cap)).heap.size=w7.heap.size:=by simp
  rw[I];refine jms G fun x M=>?_
  have:=H x M;exact (Below.heap_setCell _ _ _ _ (fun e=>by simp at e;omega)).trans (Below.heap_setCell _ _ _ _ (fun e=>by simp at e;omega))
 ·have F:Bw w w7:=A.grown D A.size (fun k e=>by cases e;omega)
  exact (F.setCell (p:=⟨rb,0,none⟩) E _).setCell (p:=⟨rb,1,none⟩) E _
theorem jrN (l m:List (Int × Int)) (x:Int × Int):jaB l (m++[x])=jaC (jaB l m) x.1 x.2:=by
 unfold jaB;rw[List.foldl_append];rfl
theorem jm9 (f:Nat) (l m:List (Int × Int)) (a:Option Addr) (len cap:Nat) (a2:Option Addr) (A F:Nat) (w:World) (hf:f<=3) (hL:SlE jbO 2 w.heap.size w a len l) (hr:jaP f l=true) (hu:jb5 l) (g:jbj l) (T:len<=1000) (hp:∀ b∈l,I64 b.1)
  (hM:SlE jbO 2 w.heap.size w a2 A m) (au:jaP f m=true) (ar:jbj m) (L:A<=1000) (o:∀ b∈m,I64 b.1) :
  Calls Tryz.prog 286 #[.agg #[.int .i64 f,.slice a len cap],.agg #[.int .i64 f,.slice a2 A F]] w fun e w'=>∃ p C B,e=.returned (.tuple #[.agg #[.int .i64 f,.slice p C B],.int .i64 0])/\SlC jbO 2 w'.heap.size w' p C B (ja7 (jaB l m))/\Bw w w':=by
 obtain⟨z,aN,Z,al,ag,H,aQ⟩:=jbJ w #[.int .i64 f,.slice a len cap] 39 #[.int .i64 f,.slice a2 A F] 39 #[.int .i64 0,.slice none 0 0] 39;obtain⟨z0,z1⟩:=cl2 Z;have aE:=jm6 f l a len cap z hf ((hL.below H).mono H.size) hr hu g T hp (by unfold maxLen;omega);have HR:Hid (∀ W,Bw z W->CR 179 #[.agg #[.int .i64 f,.slice a2 A F]] W (.bool true)):=fun W hB=>(jcN f m a2 A F W (((hM.below H).mono H.size).go hB) (by unfold maxLen;omega) (fun b hb=>(o b hb).2)).mono fun e w' h=>⟨by rw[h.1,au],h.2⟩
 have aA:=Lib.hid ag;have u:=Lib.hid al;have aC:=Lib.hid Z;have r:=Lib.hid H;have HM:=Lib.hid hM;have E:Hid (jb5 l/\jbj l/\(∀ b∈l,I64 b.1)/\jbj m/\(∀ b∈m,I64 b.1)/\l.length<=1000/\A<=1000/\A=m.length):=⟨hu,g,hp,ar,o,by have:=hL.1;omega,L,hM.1⟩;have aI:=L;clear hL hr hu g hp ag al Z H hM au ar o T hf;go_enter Tryz.func286,Tryz.ntmps286;go_wp2_with fail;refine aE.mono ?_;rintro e w1 ⟨b,rfl,n,aH,M⟩;obtain⟨W2,aO,ah,U,aS⟩:=jaf w1 #[.map (some b),.int .i64 f] 348;have aq:MapIs W2 b l.length l:=n.kept (jaK U none) (by simp);have aL:=n.lt;have G:Bw z W2:=M.trans (U.mono M.size);have am:=jab G (Nat.le_refl _) u.out;have az:=Lib.hid (HR.out W2 G);obtain⟨y0,y1⟩:=cl2 am;have aR:z.heap.size<=w1.heap.size:=M.size;have Q:=Lib.hid G;have aB:=Lib.hid ah;have ay:=Lib.hid aq;clear am M U n aq ah G;go_wp2_with fail;refine az.out.mono ?_;rintro e w3 ⟨rfl,J⟩;have D:Bw z w3:=Q.out.trans (J.mono Q.out.size);have ac:=jab D (Nat.le_refl _) aC.out;have an:=jab D (Nat.le_refl _) u.out;have ad:=jab D (Nat.le_refl _) aA.out;have ai:=jab J (Nat.le_refl _) aB.out;have aK:MapIs w3 b l.length l:=ay.out.kept (jaK J none) (by simp);have aM:=J.size;have R:Bw w w3:=r.out.trans (D.mono r.out.size);obtain⟨p0,p1⟩:=cl2 ac;obtain⟨q0,q1⟩:=cl2 an;have s:=Lib.hid ad;have t:=Lib.hid ai;have P:=Lib.hid R;clear D ac an ad ai J R;go_wp2_with fail;go_loopw [9,39] (fun _ i wr=>∃ k:Nat,k<=A/\i=.int .i64 k/\MapIs wr b (l.length+k) (jaB l (m.take k))/\w3.grownBy wr (some b)) (fun _ i _=>A-(intOf i).toNat)
 case atStart=>exact⟨0,Nat.zero_le _,rfl,aK,World.grownBy.refl _ _⟩
 case round =>
  obtain⟨k,hk,rfl,I,q⟩:=hrel;have O:=(q.block _ (Array.getElem?_eq_some_iff.1 t.out).1 (fun e=>by cases e;omega)).trans t.out;have d:=(q.block _ (Array.getElem?_eq_some_iff.1 s.out).1 (fun e=>by cases e;omega)).trans s.out;have X:Bw w wr:=P.out.grown q P.out.size (fun j e=>by cases e;omega);by_cases aJ:k<A
  ·obtain⟨x,b1,o1,hx,ea,aH,p0,p1⟩:=jdU (HM.out.below X) aJ
   subst ea;have HX:=Lib.hid hx;have av:I64 x.1:=E.out.2.2.2.2.1 x (List.mem_of_getElem? hx);have aw:U64 x.2:=E.out.2.2.2.1 x (List.mem_of_getElem? hx);obtain⟨x1,x2⟩:=x;dsimp only at p0 p1 av aw;obtain⟨W4,aP,aj,N,aT⟩:=jaf wr #[.int .i64 x1,.int .u64 x2] 132;have ab:MapIs W4 b (l.length+k) (jaB l (m.take k)):=I.kept (jaK N none) (by simp);have S:=jab N (Nat.le_refl _) O;have hP:=jns b (l.length+k) f x1 x2 (jaB l (m.take k)) W4 ab av aw (by have:=E.out.2.2.2.2.2.1;omega) (jd0 _ _ E.out.1) (jcF _ _ E.out.2.1 (fun c hc=>E.out.2.2.2.1 c (List.mem_of_mem_take hc)));obtain⟨u0,u1⟩:=cl2 aj;obtain⟨v0,v1⟩:=cl2 S;have HG:=Lib.hid (q.trans (jaK N (some b)));have HP:=Lib.hid hP;clear hx O d aj S ab I N q hP;go_wp2_with fail;refine HP.out.mono ?_;rintro e w6 ⟨rfl,aG,aF⟩;go_wp2_with fail;go_roundw
   case rel=>exact⟨k+1,by omega,by simp,by rw[jai HX.out,jrN];exact aG,HG.out.trans aF⟩
   case measure=>simp[intOf];omega
  ·obtain rfl:k=A:=by omega
   rw[List.take_of_length_le (by rw[E.out.2.2.2.2.2.2.2];exact Nat.le_refl _)] at I
   have hD:=jjz b (l.length+k) f (jaB l m) wr I (jd0 _ _ E.out.1) (jcF _ _ E.out.2.1 E.out.2.2.2.1) (fun c hc=>by
     rcases jdZ m l c hc with h | ⟨y,hy,e⟩ | ⟨y,hy,e⟩
     ·exact E.out.2.2.1 c h
     ·rw[e];exact E.out.2.2.1 y hy
     ·rw[e];exact E.out.2.2.2.2.1 y hy) (by have:=jfe m l;have:=E.out.2.2.2.2.2.1;have:=E.out.2.2.2.2.2.2.2;omega) (by have:=E.out.2.2.2.2.2.1;omega)
   obtain⟨u0,u1⟩:=cl2 O;have HD:=Lib.hid hD;have aD:=Lib.hid d;have ax:=Lib.hid X;clear O d I q X hD;go_wp2_with fail;refine HD.out.mono ?_;rintro e w7 ⟨p,C,B,rfl,ae,ao,ap⟩;obtain⟨Y,V,hV,ak,af,aa⟩:=jq6 (rb:=w.heap.size+1+1) f (by omega) (by omega) aD.out ax.out ae ao ap;obtain⟨o0,o1⟩:=cl2 Y;obtain⟨g0,g1⟩:=cz2 Y;obtain⟨j0,j1⟩:=cl2 ak;have HE:Hid (SlC jbO 2 V.heap.size V p C B (ja7 (jaB l m))/\Bw w V):=⟨af,aa⟩;clear Y ak af aa ae ao ap;go_wp2_with fail;exact bodyPost_ret (v:=.tuple #[.agg #[.int .i64 f,.slice p C B],.int .i64 0]) (by simp[results,Tryz.f286,go_sem,j0,j1]) rfl ⟨p,C,B,rfl,HE.out.1,HE.out.2⟩
end
section
open Go.Shelf
theorem jvY (r A:List Nat) (n:Nat) (h:r.length=n):mxK r A n=jd2 r A:=by
 subst h;exact List.map_congr_left (fun i B=>if_pos (List.mem_range.1 B))
theorem jqA (l m:List Int) (k:Nat) (h:k<l.length):(jdE l m)[k]? = some (jdf (l.getD k 0) (m.getD k 0)):=by simp[jdE,h]
theorem jqy (c:Nat) (l:List Int) (r j:Nat) (hr:r=0\/r=1) (A:j<c / 2):(jdW c l)[r*(c / 2)+j]? = some (jdf (l.getD (r*c+j) 0) (l.getD (r*c+c / 2+j) 0)):=by
 have B:r*(c / 2)+j<c / 2+c / 2:=by rcases hr with rfl | rfl<;>omega
 have C:(r*(c / 2)+j) / (c / 2)=r:=by rw[Nat.mul_comm,Nat.mul_add_div (by omega),Nat.div_eq_of_lt A,Nat.add_zero]
 have D:(r*(c / 2)+j) % (c / 2)=j:=by rw[Nat.mul_comm,Nat.mul_add_mod,Nat.mod_eq_of_lt A]
 unfold jdW;rw[List.getElem?_map,List.getElem?_range B,Option.map_some,C,D,show r*c+j+c / 2=r*c+c / 2+j by omega]
end
section
open Go.Shelf
theorem jjJ {w:World} {A e B n:Nat} {v:Value} {xs:List Value} (h:w.ownsRow A e B v n xs):∃ a cap,v=.slice a n cap:=by
 rcases h.2 with⟨rfl,rfl⟩ | ⟨g,cap,C,rfl,_⟩
 ·exact⟨none,0,rfl⟩
 ·exact⟨_,cap,rfl⟩
theorem jgq {A B:World} {C e D n:Nat} {v:Value} {xs:List Value} (h:A.ownsRow C e D v n xs) (J:Bw A B):B.ownsRow C e D v n xs:=by
 refine⟨h.1,?_⟩;rcases h.2 with F | ⟨g,cap,E,rfl,G,H,I⟩
 ·exact .inl F
 ·exact .inr ⟨g,cap,E,rfl,G,jab J (Nat.le_refl _) H,I⟩
def GrowN (W:World) (base:Nat) (v:Value) (l:List Int):Prop:=W.ownsRow base 48 1 v l.length (l.map (Value.int .u64))
theorem GrowN.push {W F:World} {B A:Nat} {v:Value} {l:List Int} (h:GrowN W A v l) (M:Below B F W) (E:B<=A) (C:A<=W.heap.size) (N:l.length<4294967281) (x:Int) :
  ∃ g cap D,(Builtin.append_ #[30,30] 30 #[v,.slice (some ⟨W.heap.size,0,none⟩) 1 1]).run Tryz.prog (W.alloc (.cells #[.int .u64 x] 48))=.ok (.slice (some ⟨g,0,none⟩) (l.length+1) cap) D /\
   GrowN D A (.slice (some ⟨g,0,none⟩) (l.length+1) cap) (l++[x])/\Below B F D/\W.heap.size<D.heap.size/\(∀ k,k<A->D.heap[k]? = W.heap[k]?):=by
 obtain⟨g,cap,D,G,H,I,J,L,-⟩:=jaL Tryz.prog 30 jbs jbF rfl (by decide) (W:=W) h M E C [.int .u64 x] rfl (by simp[Value.oneCell']) N (by decide);refine⟨g,cap,D,G,?_,I,J,L⟩;unfold GrowN;rw[List.length_append,List.map_append];exact H
theorem GrowN.slC {W:World} {A:Nat} {v:Value} {l:List Int} (h:GrowN W A v l):∃ a cap,v=.slice a l.length cap/\SlC jaG 1 W.heap.size W a l.length cap l:=by
 have B:W.ownsRow A 48 1 v l.length (l.flatMap jaG):=by rw[jki];exact h
 obtain⟨a,cap,D,C,-⟩:=jaz (enc:=jaG) (fun _=>rfl) B;exact⟨a,cap,D,C⟩
theorem GrowN.form {W:World} {A:Nat} {v:Value} {l:List Int} (h:GrowN W A v l):∃ a cap,v=.slice a l.length cap:=jjJ h
theorem GrowN.go {A B:World} {C:Nat} {v:Value} {l:List Int} (h:GrowN A C v l) (D:Bw A B):GrowN B C v l:=jgq h D
attribute [-go_sem] Builtin.append_
end
def mat (l:List Sign) (v:List Int):Nat->Nat->Bool
 | 0,0=>true
 | 0,_+1=>false
 | i+1,0=>match l[i]? with
  | some .any=>mat l v i 0
  | _=>false
 | i+1,k+1=>match l[i]? with
  | some .any=>mat l v i (k+1)||mat l v (i+1) k
  | some .one=>mat l v i k
  | some (.that c)=>mat l v i k&&v[k]? == some c
  | none=>false
def jbh (l:List Sign) (i:Nat):Bool:=(l[i]?.map Sign.isAny).getD false
def plc (l:List Sign) (v:List Int) (i k:Nat):Bool:=if jbh l i then mat l v (i+1) k else mat l v i k
theorem jhM {l:List Sign} {i:Nat} (h:jbh l i=true):l[i]? = some .any:=by
 unfold jbh at h
 cases e:l[i]? with
 | none=>rw[e] at h;cases h
 | some x =>
  rw[e] at h
  cases x with
  | any=>rfl
  | one=>cases h
  | that c=>cases h
theorem jrB {l:List Sign} (v:List Int) {i:Nat} (h:jbh l i=true) (k:Nat) (A:mat l v i k=true):mat l v (i+1) k=true:=by
 have e:=jhM h
 cases k with
 | zero=>rw[mat,e];exact A
 | succ k=>rw[mat,e];simp[A]
theorem jue {l:List Sign} (v:List Int) {i:Nat} (h:jbh l i=true) (k:Nat) (A:mat l v (i+1) k=true):mat l v (i+1) (k+1)=true:=by
 have e:=jhM h;rw[mat,e];simp[A]
theorem jrM {l:List Sign} {v:List Int} {i k:Nat} (h:mat l v i k=true):plc l v i k=true:=by
 unfold plc;split
 ·rename_i ha;exact jrB v ha k h
 ·exact h
theorem jhO {l:List Sign} {i:Nat}:jhz l i=if jbh l i then jhz l (i+1)+1 else 0:=by
 unfold jbh
 cases e:l[i]? with
 | none=>rw[jn7 l i (List.getElem?_eq_none_iff.1 e)];rfl
 | some x =>
  cases A:x.isAny with
  | true=>rw[jn9 l i x e A];simp[A]
  | false=>rw[jqm l i x e A];simp[A]
theorem jn8 {l:List Sign} {i:Nat}:∀ d,d<jhz l i->jbh l (i+d)=true:=by
 intro d
 induction d generalizing i with
 | zero =>
  intro h;rw[jhO] at h;split at h
  ·rename_i A;exact A
  ·omega
 | succ d ih =>
  intro h;rw[jhO] at h;split at h
  ·have:=ih (i:=i+1) (by omega)
   rwa [show i+1+d=i+(d+1) by omega] at this
  ·omega
theorem jvT {l:List Sign} (v:List Int) {i k:Nat} (A:mat l v i k=true):∀ d,d<=jhz l i->mat l v (i+d) k=true:=by
 intro d
 induction d with
 | zero=>intro _;exact A
 | succ d ih=>intro h;exact jrB v (jn8 d (by omega)) k (ih (by omega))
theorem jfY {l:List Sign} {i j:Nat}:jhT l i (j:Int)=true↔i<=j/\j<=i+jhz l i:=by
 unfold jhT;rw[Bool.and_eq_true,decide_eq_true_iff,decide_eq_true_iff];omega
theorem jka (l:List Sign) (i:Nat):jhT l i (i:Int)=true:=jfY.2 ⟨Nat.le_refl _,by omega⟩
theorem jj9 {l:List Sign} {i j:Nat} (h:jhT l i (j:Int)=true) (ha:jbh l j=true):jhT l i ((j+1:Nat):Int)=true:=by
 obtain⟨E,C⟩:=jfY.1 h;refine jfY.2 ⟨by omega,?_⟩;rcases Nat.lt_or_eq_of_le C with B | B
 ·omega
 ·exfalso
  have e:∀ d m:Nat,m+d=j->jhz l m=d->False:=by
   intro d
   induction d with
   | zero =>
    intro m D A;have:m=j:=by omega
    subst this;rw[jhO,ha,if_pos rfl] at A;omega
   | succ d ih =>
    intro m D A;rw[jhO] at A;split at A
    ·exact ih (m+1) (by omega) (by omega)
    ·omega
  exact e (jhz l i) i B.symm rfl
theorem jmu {l:List Sign} {c:Int} {i j:Nat} (h:jdR l c i (j:Int)=true) (ha:jbh l j=true):jdR l c i ((j+1:Nat):Int)=true:=by
 unfold jdR at h ⊢
 cases e:l[i]? with
 | none=>rw[e] at h;cases h
 | some x =>
  rw[e] at h;dsimp only at h ⊢;by_cases A:x.isAny=true
  ·rw[if_pos A] at h ⊢;exact jj9 h ha
  ·rw[if_neg A] at h ⊢
   by_cases B:Sign.isFor c x=true
   ·rw[if_pos B] at h ⊢;exact jj9 h ha
   ·rw[if_neg B] at h;cases h
theorem joB {l:List Sign} (c:Int) {i:Nat} (h:jbh l i=true):jdR l c i (i:Int)=true:=by
 unfold jdR;rw[jhM h];exact jka l i
theorem jgL {l:List Sign} {v:List Int} {k:Nat} {c:Int} (C:v[k]? = some c):∀ j,mat l v j (k+1)=true->∃ i,i<=l.length/\plc l v i k=true/\jdR l c i (j:Int)=true
 | 0,h=>by rw[mat] at h;cases h
 | j+1,h=>by
  have F:=jgL C (l:=l) j;rw[mat] at h
  cases e:l[j]? with
  | none=>rw[e] at h;cases h
  | some x =>
   have G:j<l.length:=(List.getElem?_eq_some_iff.1 e).1;rw[e] at h
   cases x with
   | any =>
    have ha:jbh l j=true:=by unfold jbh;rw[e];rfl
    rcases Bool.or_eq_true_iff.1 h with A | A
    ·obtain⟨i,B,D,E⟩:=F A
     exact⟨i,B,D,jmu E ha⟩
    ·refine⟨j,by omega,?_,jmu (joB c ha) ha⟩
     unfold plc;rw[if_pos ha];exact A
   | one =>
    refine⟨j,by omega,jrM h,?_⟩;unfold jdR;rw[e];exact jka l (j+1)
   | that d =>
    obtain⟨A,B⟩:=Bool.and_eq_true_iff.1 h;refine⟨j,by omega,jrM A,?_⟩;rw[C] at B;have:c=d:=by simpa using B
    subst this;unfold jdR;rw[e];simp only[Sign.isAny,Sign.isFor,beq_self_eq_true,if_true];exact jka l (j+1)
theorem jpU {l:List Sign} {v:List Int} {k:Nat} {c:Int} (J:v[k]? = some c) {i j:Nat} (B:plc l v i k=true) (A:jdR l c i (j:Int)=true):plc l v j (k+1)=true:=by
 unfold jdR at A
 cases e:l[i]? with
 | none=>rw[e] at A;cases A
 | some x =>
  rw[e] at A
  have D:mat l v (i+1) (k+1)=true->i+1<=j->j<=i+1+jhz l (i+1)->plc l v j (k+1)=true:=by
   intro C E F;have:=jvT v C (j-(i+1)) (by omega);rw[show i+1+(j-(i+1))=j by omega] at this;exact jrM this
  cases x with
  | any =>
   have ha:jbh l i=true:=by unfold jbh;rw[e];rfl
   obtain⟨C,E⟩:=jfY.1 (by simpa [Sign.isAny] using A:jhT l i (j:Int)=true);unfold plc at B;rw[if_pos ha] at B;have F:=jue v ha k B;rw[jhO,if_pos ha] at E;rcases Nat.lt_or_eq_of_le C with I | I
   ·exact D F (by omega) (by omega)
   ·subst I
    unfold plc;rw[if_pos ha];exact F
  | one =>
   have ha:jbh l i=false:=by unfold jbh;rw[e];rfl
   obtain⟨C,E⟩:=jfY.1 (by simpa [Sign.isAny,Sign.isFor] using A:jhT l (i+1) (j:Int)=true);unfold plc at B;rw[if_neg (by rw[ha];decide)] at B;exact D (by rw[mat,e];exact B) C E
  | that d =>
   have ha:jbh l i=false:=by unfold jbh;rw[e];rfl
   unfold plc at B;rw[if_neg (by rw[ha];decide)] at B;simp only[Sign.isAny,Bool.false_eq_true,if_false] at A;by_cases G:Sign.isFor c (.that d)=true
   ·rw[if_pos G] at A
    obtain⟨C,E⟩:=jfY.1 A;have H:d=c:=beq_iff_eq.1 (show (d==c)=true from G);subst H;exact D (by rw[mat,e];dsimp only;rw[B,J];simp) C E
   ·rw[if_neg G] at A;cases A
theorem joY {l:List Sign} {v:List Int} {k:Nat} {c:Int} (C:v[k]? = some c) {S:Int->Bool} (D:∀ i:Nat,i<=l.length->S (i:Int)=plc l v i k) (j:Nat):jcZ l S c (j:Int)=plc l v j (k+1):=by
 rw[Bool.eq_iff_iff];unfold jcZ;rw[List.any_eq_true];constructor
 ·rintro⟨i,F,h⟩
  obtain⟨A,B⟩:=Bool.and_eq_true_iff.1 h;have:=List.mem_range.1 F;rw[D i (by omega)] at A;exact jpU C A B
 ·intro h
  have key:∃ i,i<=l.length/\plc l v i k=true/\jdR l c i (j:Int)=true:=by
   by_cases ha:jbh l j=true
   ·unfold plc at h
    rw[if_pos ha,mat,jhM ha] at h;have G:j<l.length:=(List.getElem?_eq_some_iff.1 (jhM ha)).1;rcases Bool.or_eq_true_iff.1 h with A | A
    ·exact jgL C j A
    ·refine⟨j,by omega,?_,joB c ha⟩
     unfold plc;rw[if_pos ha];exact A
   ·unfold plc at h
    rw[if_neg ha] at h;exact jgL C j h
  obtain⟨i,A,B,E⟩:=key;exact⟨i,List.mem_range.2 (by omega),by rw[D i A,B,E];rfl⟩
theorem jor (l:List Sign) (v:List Int) (j:Nat):mat l v j 0=decide (j<=jhz l 0):=by
 induction j with
 | zero=>simp[mat]
 | succ j ih =>
  rw[mat]
  cases e:l[j]? with
  | none =>
   have B:=List.getElem?_eq_none_iff.1 e;have D:=jql l 0 (Nat.zero_le _);symm;rw[decide_eq_false_iff_not];omega
  | some x =>
   have ha:jbh l j=x.isAny:=by unfold jbh;rw[e];rfl
   cases A:x.isAny with
   | true =>
    rw[A] at ha;have:x=.any:=by have:=jhM ha;rw[e] at this;injection this
    subst this;dsimp only;rw[ih];by_cases h:j<=jhz l 0
    ·rw[decide_eq_true h]
     have:=jfY.1 (jj9 (l:=l) (i:=0) (jfY.2 ⟨Nat.zero_le j,by omega⟩) ha);symm;rw[decide_eq_true_iff];omega
    ·rw[decide_eq_false h]
     symm;rw[decide_eq_false_iff_not];omega
   | false =>
    have C:¬ j<jhz l 0:=fun h=>by
     have:=jn8 j h;rw[Nat.zero_add,ha,A] at this
     cases this
    symm
    have B:decide (j+1<=jhz l 0)=false:=by rw[decide_eq_false_iff_not];omega
    rw[B]
    cases x with
    | any=>cases A
    | one=>rfl
    | that c=>rfl
theorem jup (l:List Sign) (v:List Int) (j:Nat):jhT l 0 (j:Int)=plc l v j 0:=by
 rw[Bool.eq_iff_iff,jfY];unfold plc;split
 ·rename_i ha
  rw[mat,jhM ha];dsimp only;rw[jor,decide_eq_true_iff];omega
 ·rw[jor,decide_eq_true_iff];omega
theorem jrW {l:List Sign} {v:List Int}:∀ (cs:List Int) (k:Nat) (S:Int->Bool),v.drop k=cs->(∀ i:Nat,i<=l.length->S (i:Int)=plc l v i k)->∀ j:Nat,j<=l.length->jdL l S cs (j:Int)=plc l v j (k+cs.length)
 | [],k,S,_,hS,j,hj=>hS j hj
 | c::cs,k,S,hv,hS,j,hj=>by
  have C:v[k]? = some c:=by
   have A:(v.drop k)[0]? = some c:=by rw[hv];rfl
   rwa [List.getElem?_drop,Nat.add_zero] at A
  have B:v.drop (k+1)=cs:=by rw[<- List.drop_drop,hv];rfl
  have D:=jrW cs (k+1) (jcZ l S c) B (fun i _=>joY C hS i) j hj;show jdL l (jcZ l S c) cs (j:Int)=_;rw[D,List.length_cons];congr 1;omega
theorem jtH (l:List Sign) (v:List Int):jdL l (jhT l 0) v (l.length:Int)=mat l v l.length v.length:=by
 rw[jrW (l:=l) (v:=v) v 0 (jhT l 0) rfl (fun i _=>jup l v i) l.length (Nat.le_refl _),Nat.zero_add];unfold plc;rw[if_neg];unfold jbh;rw[List.getElem?_eq_none (Nat.le_refl _)];decide
end Go.Proofs.YtafhpamnegmilaaGreatDoor

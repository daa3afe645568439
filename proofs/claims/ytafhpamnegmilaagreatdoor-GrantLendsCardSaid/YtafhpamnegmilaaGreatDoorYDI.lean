/- The reference of layer 8: Merge, Lower, at counters that are right. -/
import Derived.Test.YtafhpamnegmilaaGreatDoorYFB
set_option maxHeartbeats 8000000
set_option maxRecDepth 100000
namespace Go.Proofs.YtafhpamnegmilaaGreatDoor
open Go Go.RowKit Go.Shelf
section
theorem GrowN.formk {W:World} {A k:Nat} {v:Value} {l:List Int} (h:GrowN W A v l) (B:l.length=k):∃ a cap,v=.slice a k cap:=by
 obtain⟨a,cap,C⟩:=h.form;exact⟨a,cap,by rw[C,B]⟩
theorem GrowN.pushk {W F:World} {B A k:Nat} {v:Value} {l:List Int} (h:GrowN W A v l) (M:l.length=k) (L:Below B F W) (E:B<=A) (C:A<=W.heap.size) (N:k<4294967281) (x:Int) :
  ∃ g cap D,(Builtin.append_ #[30,30] 30 #[v,.slice (some ⟨W.heap.size,0,none⟩) 1 1]).run Tryz.prog (W.alloc (.cells #[.int .u64 x] 48))=.ok (.slice (some ⟨g,0,none⟩) (k+1) cap) D /\
   GrowN D A (.slice (some ⟨g,0,none⟩) (k+1) cap) (l++[x])/\Below B F D/\W.heap.size<D.heap.size:=by
 subst M;obtain⟨g,cap,D,G,H,I,J,-⟩:=h.push L E C N x;exact⟨g,cap,D,G,H,I,J⟩
theorem GrowN.drew {W:World} {A:Nat} {v:Value} {l:List Int} (h:GrowN W A v l):GrowN W.drew A v l:=h.go (Below.refl _ _).drew
theorem GrowN.block {A B:World} {C:Nat} {v:Value} {l:List Int} (h:GrowN A C v l) (I:∀ b,C<=b->B.heap[b]? = A.heap[b]?):GrowN B C v l:=by
 refine⟨h.1,?_⟩;rcases h.2 with G | ⟨g,c,D,rfl,E,F,H⟩
 ·exact .inl G
 ·exact .inr ⟨g,c,D,rfl,E,(I g E).trans F,H⟩
theorem jvQ {c h len D j A B C:Nat} (H:D<=c) (I:c<=h+h) (J:j<h) (L:h+h+(h+h)<=len) (M:len<=h+h+(h+h)) (N:h<=16) (E:D+j=A) (G:D+h=C) (F:C+j=B):A<len/\B<len/\A<1000/\B<1000/\C<1000:=by omega
theorem jgi {n:Nat} (h:n<1000):IntKind.i64.wrap (n:Int)=(n:Int):=IntWalk.i64_in _ (by omega)
theorem jub (j:Nat):Value.int .i64 ((j:Int)+1)=Value.int .i64 ((j+1:Nat):Int):=by rw[Int.natCast_add];rfl
theorem jrq {h j:Nat} (A:j<h):h-(intOf (Value.int .i64 ((j:Int)+1))).toNat<h-(intOf (Value.int .i64 (j:Int))).toNat:=by
 simp only[intOf];omega
theorem jt9 {j h:Nat} (B:j<h) (A:wrap64 ((j:Int)+1)=((j+1:Nat):Int)):h-(intOf (.int .i64 (wrap64 ((j:Int)+1)))).toNat<h-(intOf (.int .i64 (j:Int))).toNat:=by
 rw[A];simp only[intOf,Int.toNat_natCast];omega
theorem jxs {A j h tk:Nat} (B:A+j=tk) (C:A<=h) (D:j<h) (E:h<=16):tk<=h+h/\tk<4294967281:=by omega
attribute [-go_sem] Builtin.append_
theorem jiz (c:Nat) (l m:List Int) (a:Option Addr) (len cap:Nat) (o:Option Addr) (A C:Nat) (w:World) (hc:c=4\/c=8\/c=16\/c=32) (hS:SlC jaG 1 w.heap.size w a len cap l) (S:SlC jaG 1 w.heap.size w o A C m) (hn:l.length=c+c) (hm:m.length=c+c) (an:jc8 l) (ap:jc8 m) :
  Calls Tryz.prog 82 #[.agg #[.int .i64 2,.int .i64 c,.slice a len cap],.agg #[.int .i64 2,.int .i64 c,.slice o A C]] w (jp9 c (jdE l m) w):=by
 have M:=hS.1.1;have ao:=S.1.1;obtain⟨W0,aC,T,ai,ah,L,az⟩:=jbJ w #[.int .i64 2,.int .i64 c,.slice a len cap] 36 #[.int .i64 2,.int .i64 c,.slice o A C] 36 #[.int .i64 0,.int .i64 0,.slice none 0 0] 36;have ad:=jdQ c l a len cap W0 hc M hn;have y:Hid (∀ W,CR 120 #[.agg #[.int .i64 2,.int .i64 c,.slice o A C]] W (.bool true)):=fun W=>jdQ c m o A C W hc ao hm
 have HX:Hid (∀ W,Bw W0 W->W.heap[w.heap.size]? = some (.cells #[.int .i64 2,.int .i64 c,.slice a len cap] 36 (0,0))/\W.heap[w.heap.size+1]? = some (.cells #[.int .i64 2,.int .i64 c,.slice o A C] 36 (0,0))/\W.heap[w.heap.size+2]? = some (.cells #[.int .i64 0,.int .i64 0,.slice none 0 0] 36 (0,0))):=fun W r=>⟨jab r (Nat.le_refl _) T,jab r (Nat.le_refl _) ai,jab r (Nat.le_refl _) ah⟩
 have HS:=Lib.hid (And.intro (hS.go L) (S.go L));have u:=Lib.hid L;have aq:w.heap.size+3=W0.heap.size:=az.symm;have z:=Lib.hid aq;have B:Hid (l.length=len/\m.length=len/\A=len/\(jdE l m).length=len):=⟨M.symm,by omega,by omega,by rw[jf2];exact M.symm⟩;have HU:=Lib.hid (And.intro an ap);have HG:=Lib.hid (jqA l m);have aB:len<=64:=by omega
 have aD:0<len:=by omega
 obtain⟨d0,d1,d2⟩:=cl3 T;generalize jdE l m=R at B HG ⊢;clear T ai ah L hS S hn hm hc M ao an ap aq;go_enter Tryz.func82,Tryz.ntmps82;go_wp2_with fail;refine ad.mono ?_;rintro e w1 ⟨rfl,Z⟩;obtain⟨ae,aj,-⟩:=HX.out w1 Z;obtain⟨x0,x1,x2⟩:=cl3 ae;obtain⟨y0,y1,y2⟩:=cl3 aj;have x:=Lib.hid Z;clear ae aj Z ad d0 d1 d2;go_wp2_with fail;refine (y.out _).mono ?_;rintro e t ⟨rfl,al⟩;have G:=x.out.trans (al.mono x.out.size);obtain⟨af,ak,-⟩:=HX.out t G;obtain⟨p0,p1,p2⟩:=cl3 af;obtain⟨q0,q1,q2⟩:=cl3 ak;have ar:=G.size;have F:=Lib.hid ar;have H:=Lib.hid G;clear af ak al G x0 x1 x2 y0 y1 y2 ar;go_wp2_with fail;go_loopw [6,7] (fun ov i wr=>∃ k:Nat,i=.int .i64 k/\k<=len/\Hid (GrowN wr t.heap.size ov (R.take k))/\Hid (Bw t wr)) (fun _ i _=>len-(intOf i).toNat)
 case atStart=>exact⟨0,rfl,Nat.zero_le _,World.ownsRow_nil _ _ _ _,Below.refl _ _⟩
 case round =>
  obtain⟨k,rfl,hk,HO,N⟩:=hrel;obtain⟨oa,oc,rfl⟩:=HO.out.formk (k:=k) (by rw[List.length_take,B.out.2.2.2];omega);obtain⟨U,X,D⟩:=HX.out wr (H.out.trans (N.out.mono F.out));obtain⟨u0,u1,u2⟩:=cl3 U;obtain⟨v0,v1,v2⟩:=cl3 X;have i0:(0:Int)<=(k:Int):=Int.natCast_nonneg _;by_cases d:k<len
  ·obtain⟨b,off,rfl,am,j⟩:=jhF HS.out.1 (i:=k) (by rw[B.out.1];exact d)
   obtain⟨q,E,rfl,O,n⟩:=jhF HS.out.2 (i:=k) (by rw[B.out.2.1];exact d);have f:=jbT l HU.out.1 k;have h:=jbT m HU.out.2 k;have HT:Hid (R.take (k+1)=R.take k++[jdf (l.getD k 0) (m.getD k 0)]):=jai (HG.out k (by rw[B.out.1];exact d));generalize l.getD k 0=e0 at j f HT;generalize m.getD k 0=e1 at n h HT;have HP:Hid (∀ W,Calls Tryz.prog 137 #[.int .u64 e0,.int .u64 e1] W fun e w'=>e=.returned (.int .u64 (jdf e0 e1))/\w'=W):=fun W=>jdP e0 e1 W f h
   generalize jdf e0 e1=s at HP HT
   have Q:∀ W,Bw t W->W.cell? ⟨w.heap.size,2,none⟩=some (.slice (some ⟨b,off,none⟩) len cap)/\W.cell? ⟨w.heap.size+1,2,none⟩=some (.slice (some ⟨q,E,none⟩) A C)/\W.cell? ⟨b,off+k,none⟩=some (.int .u64 e0)/\W.cell? ⟨q,E+k,none⟩=some (.int .u64 e1):=fun W r=>by
    have Y:=H.out.trans (r.mono F.out);obtain⟨h1,h2,-⟩:=HX.out W Y;exact⟨cCc h1 2,cCc h2 2,(Y.cell (p:=⟨b,off+k,none⟩) am).trans j,(Y.cell (p:=⟨q,E+k,none⟩) O).trans n⟩
   obtain⟨k0,k1,k2,k3⟩:=Q wr N.out;obtain⟨g,I,w5,J,ab,P,aE⟩:=HO.out.drew.pushk (k:=k) (by rw[List.length_take,B.out.2.2.2];omega) N.out.drew (Nat.le_refl _) N.out.size (by omega) s;have J:(Builtin.append_ #[30,30] 30 #[.slice oa k oc,.slice (some ⟨wr.heap.size,0,none⟩) 1 1]).run Tryz.prog (wr.alloc (.cells #[.int .u64 s] 48)).drew=.ok (.slice (some ⟨g,0,none⟩) (k+1) I) w5:=J;obtain⟨m0,m1,m2,m3⟩:=Q w5 P;have aw:Hid (GrowN w5 t.heap.size (.slice (some ⟨g,0,none⟩) (k+1) I) (R.take (k+1))):=by rw[HT.out];exact ab
   have au:=Lib.hid P;have i1:(k:Int)<(len:Int):=by omega
   have e5:b<wr.heap.size:=by have:=N.out.size;have:=F.out;omega
   have e6:q<wr.heap.size:=by have:=N.out.size;have:=F.out;omega
   have e7:w.heap.size+1<wr.heap.size:=by have:=N.out.size;have:=F.out;have:=z.out;omega
   have i2:(k:Int)<(A:Int):=by have:=B.out.2.2.1;omega
   clear Q U X D j n f h ab P u0 u1 u2 v0 v1 v2 am O;go_wp2_with fail
   go_region_held3 (fun w'=>w'.cell? ⟨w.heap.size,2,none⟩=some (.slice (some ⟨b,off,none⟩) len cap)/\w'.cell? ⟨w.heap.size+1,2,none⟩=some (.slice (some ⟨q,E,none⟩) A C)/\w'.cell? ⟨b,off+k,none⟩=some (.int .u64 e0)/\w'.cell? ⟨q,E+k,none⟩=some (.int .u64 e1))
    (first
     | go_keep
     | exact⟨m0,m1,m2,m3⟩)
    (first
     | (refine jdS (v:=.slice oa k oc) (xv:=.slice (some ⟨wr.heap.size,0,none⟩) 1 1) (v':=.slice (some ⟨g,0,none⟩) (k+1) I) (w':=w5) rfl (.tmp 38) (.tmp 50) 30 rfl rfl rfl J ?_)
     | (go_at_call 137;refine (HP.out _).mono ?_;rintro e w' ⟨rfl,rfl⟩))
   all_goals go_wp2_with fail
   all_goals exact⟨⟨k+1,by go_num,by omega,aw.out,au.out⟩,by simp[intOf];omega⟩
  ·obtain rfl:k=len:=by omega
   have hT:R.take k=R:=List.take_of_length_le (by rw[B.out.2.2.2];exact Nat.le_refl _);rw[hT] at HO;obtain⟨t0,t1,t2⟩:=cl3 D;obtain⟨f0,f1,f2⟩:=cz3 D;obtain⟨V,hV,ag,ac,aa⟩:=jnR (.int .i64 2) (.int .i64 c) (.slice oa k oc) D;obtain⟨z0,z1,z2⟩:=cl3 ag;have av:Hid (Bw w V):=aa _ _ (u.out.trans ((H.out.trans (N.out.mono F.out)).mono u.out.size)) (by omega);have ax:Hid (GrowN V t.heap.size (.slice oa k oc) R):=HO.out.block (fun b r=>ac.2 _ (by have:=F.out;have:=z.out;omega));clear U X D ag ac aa hT;go_wp2_with fail;refine bodyPost_ret (v:=.tuple #[.agg #[.int .i64 2,.int .i64 c,.slice oa k oc],.int .i64 0]) (by simp[results,Tryz.f82,go_sem,z0,z1,z2]) rfl ?_;obtain⟨a',aA,hv,ay⟩:=ax.out.slC
   cases hv
   exact⟨_,_,rfl,ay,av.out⟩
theorem GrowN.slF {W:World} {A:Nat} {v:Value} {l:List Int} (h:GrowN W A v l):∃ a cap,v=.slice a l.length cap/\SlC jaG 1 W.heap.size W a l.length cap l/\∀ z,a=some z->A<=z.block :=
 jaz (enc:=jaG) (fun _=>rfl) (by rw[jki];exact h)
def jxu (c:Nat) (l:List Int) (w:World) (e:Ending) (w':World):Prop:=∃ a cap,e=.returned (.tuple #[.agg #[.int .i64 2,.int .i64 c,.slice a l.length cap],.int .i64 0])/\SlC jaG 1 w'.heap.size w' a l.length cap l/\(∀ z,a=some z->w.heap.size<=z.block)/\Bw w w'
theorem jhn (c:Nat) (l:List Int) (a:Option Addr) (len cap:Nat) (w:World) (hc:c=8\/c=16\/c=32) (hS:SlC jaG 1 w.heap.size w a len cap l) (hn:l.length=c+c) (aG:jc8 l) :
  Calls Tryz.prog 135 #[.agg #[.int .i64 2,.int .i64 c,.slice a len cap]] w (jxu (c / 2) (jdW c l) w):=by
 have aj:=hS.1.1;obtain⟨W0,aU,ag,aD,ac,aH⟩:=jaI w #[.int .i64 2,.int .i64 c,.slice a len cap] 36 #[.int .i64 0,.int .i64 0,.slice none 0 0] 36;have az:=jdQ c l a len cap W0 (by omega) aj hn;have HX:Hid (∀ W,Bw W0 W->W.heap[w.heap.size]? = some (.cells #[.int .i64 2,.int .i64 c,.slice a len cap] 36 (0,0))/\W.heap[w.heap.size+1]? = some (.cells #[.int .i64 0,.int .i64 0,.slice none 0 0] 36 (0,0))):=fun W hb=>⟨jab hb (Nat.le_refl _) ag,jab hb (Nat.le_refl _) aD⟩
 have HS:=Lib.hid (hS.go ac);have x:=Lib.hid ac;have av:=Lib.hid aH;obtain⟨h,hh⟩:∃ h,c / 2=h:=⟨_,rfl⟩;have HG:=Lib.hid (jqy c l);have F:=jf0 c l;rw[hh] at HG F ⊢;have A:Hid (l.length=len/\(jdW c l).length=h+h):=⟨aj.symm,F⟩;have HU:=Lib.hid aG;have o:c=h+h:=by omega
 have t:c<=h+h:=by omega
 have aF:h+h<=c:=by omega
 have hq:(c:Int) / 2=(h:Int):=by omega
 have aW:(c:Int).tdiv 2=(h:Int):=by rw[Int.tdiv_eq_ediv_of_nonneg (Int.natCast_nonneg _)];exact hq
 have L:h<=16:=by omega
 have a0:4<=h:=by omega
 have aV:((c:Int)==4)=false:=by rw[beq_eq_false_iff_ne];omega
 have M:len<=h+h+(h+h):=by omega
 have N:h+h+(h+h)<=len:=by omega
 obtain⟨d0,d1,d2⟩:=cl3 ag;generalize jdW c l=R at A HG ⊢;have aZ:=Lib.hid o;clear ag aD ac hS hn hc aj aG aH F o;go_enter Tryz.func135,Tryz.ntmps135;go_wp2_with fail;refine az.mono ?_;rintro e S ⟨rfl,d⟩;obtain⟨aB,-⟩:=HX.out S d;obtain⟨x0,x1,x2⟩:=cl3 aB;have T:=Lib.hid d;have B:Hid (W0.heap.size<=S.heap.size):=d.size;clear aB d az d0 d1 d2;go_wp2_with fail;go_loopw [5,6,7] (fun ov ri _ wr=>∃ r:Nat,ri=.int .i64 r/\r<=2/\Hid (GrowN wr S.heap.size ov (R.take (r*h)))/\Hid (Bw S wr)) (fun _ ri _ _=>2-(intOf ri).toNat)
 case atStart=>exact⟨0,rfl,Nat.zero_le _,by rw[Nat.zero_mul];exact World.ownsRow_nil _ _ _ _,Below.refl _ _⟩
 case round =>
  obtain⟨r,rfl,a1,H,y⟩:=hrel;clear hq aW aV aU;have i9:(0:Int)<=(r:Int):=Int.natCast_nonneg _;obtain⟨ah,C⟩:=HX.out wr (T.out.trans (y.out.mono B.out));obtain⟨z0,z1,z2⟩:=cl3 ah;by_cases a2:r<2
  ·have i8:(r:Int)<2:=by omega
   obtain⟨RH,Z⟩:∃ q,r*h=q:=⟨_,rfl⟩;have m:RH<=h:=by rcases (by omega:r=0\/r=1) with rfl | rfl<;>omega
   have aS:Hid ((r+1)*h=RH+h):=by rw[Hid,Nat.succ_mul,Z]
   rw[Z] at H;have aR:=Lib.hid Z;obtain⟨Q,af⟩:∃ q,r*c=q:=⟨_,rfl⟩;have i:Q<=c:=by rcases (by omega:r=0\/r=1) with rfl | rfl<;>omega
   have x0:(r:Int)*(c:Int)=(Q:Int):=by rw[<- af,Int.natCast_mul]
   have aQ:=Lib.hid af;have y0:wrap64 (Q:Int)=(Q:Int):=jeb (by omega);have y9:IntKind.i64.wrap (Q:Int)=(Q:Int):=jgi (by omega);clear Z af ah C;go_wp2_with fail;go_loopw [5,7] (fun ov ci wr=>∃ j:Nat,ci=.int .i64 j/\j<=h/\Hid (GrowN wr S.heap.size ov (R.take (RH+j)))/\Hid (Bw S wr)) (fun _ ci _=>h-(intOf ci).toNat)
   case atStart=>exact⟨0,rfl,Nat.zero_le _,H.out,y.out⟩
   case round =>
    obtain⟨j,rfl,hj,HO,u⟩:=hrel;obtain⟨tk,O⟩:∃ q,RH+j=q:=⟨_,rfl⟩;have ab:=Lib.hid O;rw[O] at HO;obtain⟨oa,oc,rfl⟩:=HO.out.formk (k:=tk) (by rw[List.length_take,A.out.2];omega);have aE:=T.out.trans (u.out.mono B.out);have i0:(0:Int)<=(j:Int):=Int.natCast_nonneg _;by_cases G:j<h
    ·obtain⟨D,U⟩:∃ P,Q+j=P:=⟨_,rfl⟩
     obtain⟨P3,Y⟩:∃ P,Q+h=P:=⟨_,rfl⟩;obtain⟨E,X⟩:∃ P,P3+j=P:=⟨_,rfl⟩
     have hG:R[tk]? = some (jdf (l.getD D 0) (l.getD E 0)):=by
      have:=HG.out r j (by omega) G;rw[aR.out,aQ.out,O,U,Y,X] at this;exact this
     have HT:Hid (R.take (tk+1)=R.take tk++[jdf (l.getD D 0) (l.getD E 0)]):=jai hG;obtain⟨ao,ap,aq,ar,au⟩:=jvQ i t G N M L U Y X;have q1:D<l.length:=by rw[A.out.1];exact ao
     have q2:E<l.length:=by rw[A.out.1];exact ap
     obtain⟨b,off,rfl,f,am⟩:=jhF HS.out q1;obtain⟨b2,aY,ee,-,an⟩:=jhF HS.out q2
     cases ee
     have ak:=jbT l HU.out D;have al:=jbT l HU.out E;generalize l.getD D 0=e0 at am ak HT hG;generalize l.getD E 0=e1 at an al HT hG;have HP:Hid (∀ W,Calls Tryz.prog 137 #[.int .u64 e0,.int .u64 e1] W fun e w'=>e=.returned (.int .u64 (jdf e0 e1))/\w'=W):=fun W=>jdP e0 e1 W ak al
     generalize jdf e0 e1=s at HP HT hG;have x1:(Q:Int)+(j:Int)=(D:Int):=by rw[<- U,Int.natCast_add]
     have x3:(Q:Int)+(h:Int)=(P3:Int):=by rw[<- Y,Int.natCast_add]
     have x2:(P3:Int)+(j:Int)=(E:Int):=by rw[<- X,Int.natCast_add]
     have y1:wrap64 (D:Int)=(D:Int):=jeb aq;have y2:wrap64 (E:Int)=(E:Int):=jeb ar;have y3:wrap64 (P3:Int)=(P3:Int):=jeb au;have y7:wrap64 ((j:Int)+1)=((j+1:Nat):Int):=by simpa using jeb (n:=j+1) (Nat.lt_of_le_of_lt (Nat.le_trans (Nat.succ_le_of_lt G) L) (by decide))
     have y4:IntKind.i64.wrap (D:Int)=(D:Int):=jgi aq;have y5:IntKind.i64.wrap (E:Int)=(E:Int):=jgi ar;have y6:IntKind.i64.wrap (P3:Int)=(P3:Int):=jgi au;have i1:(j:Int)<(h:Int):=Int.ofNat_lt.2 G;have i2:(D:Int)<(len:Int):=Int.ofNat_lt.2 ao;have i3:(E:Int)<(len:Int):=Int.ofNat_lt.2 ap;have e5:b<wr.heap.size:=Nat.lt_of_lt_of_le f (Nat.le_trans B.out u.out.size);have e7:w.heap.size<wr.heap.size:=Nat.lt_of_lt_of_le (show w.heap.size<W0.heap.size by rw[av.out];exact Nat.lt_succ_of_lt (Nat.lt_succ_self _)) (Nat.le_trans B.out u.out.size);obtain⟨aJ,aI⟩:=jxs ab.out m G L
     have ae:∀ W,Bw S W->W.cell? ⟨w.heap.size,2,none⟩=some (.slice (some ⟨b,off,none⟩) len cap)/\W.cell? ⟨w.heap.size,1,none⟩=some (.int .i64 c)/\W.cell? ⟨b,off+D,none⟩=some (.int .u64 e0)/\W.cell? ⟨b,off+E,none⟩=some (.int .u64 e1):=fun W hb=>by
      have ai:=T.out.trans (hb.mono B.out);obtain⟨h1,-⟩:=HX.out W ai;exact⟨cCc h1 2,cCc h1 1,(ai.cell (p:=⟨b,off+D,none⟩) f).trans am,(ai.cell (p:=⟨b,off+E,none⟩) f).trans an⟩
     obtain⟨k0,k1,k2,k3⟩:=ae wr u.out;obtain⟨g,I,w5,J,ax,ad,a3⟩:=HO.out.drew.pushk (k:=tk) (by rw[List.length_take,A.out.2];exact Nat.min_eq_left aJ) u.out.drew (Nat.le_refl _) u.out.size aI s;have J:(Builtin.append_ #[30,30] 30 #[.slice oa tk oc,.slice (some ⟨wr.heap.size,0,none⟩) 1 1]).run Tryz.prog (wr.alloc (.cells #[.int .u64 s] 48)).drew=.ok (.slice (some ⟨g,0,none⟩) (tk+1) I) w5:=J;obtain⟨m0,m1,m2,m3⟩:=ae w5 ad;have aN:Hid (GrowN w5 S.heap.size (.slice (some ⟨g,0,none⟩) (tk+1) I) (R.take (RH+(j+1)))):=by rw[show RH+(j+1)=tk+1 by rw[<- ab.out];rfl,HT.out];exact ax
     have aK:=Lib.hid ad;have i4:(0:Int)<=(D:Int):=Int.natCast_nonneg _;have i5:(0:Int)<=(E:Int):=Int.natCast_nonneg _;have aa:=Lib.hid G;clear ae am an ak al ax ad f hG aE q1 q2 U X Y O ao ap aq ar au aI aJ M N t aF m i;go_wp2_with fail
     go_region_held3 (fun w'=>w'.cell? ⟨w.heap.size,2,none⟩=some (.slice (some ⟨b,off,none⟩) len cap)/\w'.cell? ⟨w.heap.size,1,none⟩=some (.int .i64 c)/\w'.cell? ⟨b,off+D,none⟩=some (.int .u64 e0)/\w'.cell? ⟨b,off+E,none⟩=some (.int .u64 e1))
      (first
       | go_keep
       | exact⟨m0,m1,m2,m3⟩)
      (first
       | (refine jdS (v:=.slice oa tk oc) (xv:=.slice (some ⟨wr.heap.size,0,none⟩) 1 1) (v':=.slice (some ⟨g,0,none⟩) (tk+1) I) (w':=w5) rfl (.tmp 31) (.tmp 55) 30 rfl rfl rfl J ?_)
       | (go_at_call 137;refine (HP.out _).mono ?_;rintro e w' ⟨rfl,rfl⟩))
     all_goals go_wp2_with fail
     all_goals clear x0 x1 x2 x3 y0 y1 y2 y3 y4 y5 y6 y9 i2 i3 i4 i5 e5 e7 i8 i9
     all_goals exact⟨⟨j+1,(by first | rw[y7] | exact jub j),Nat.succ_le_of_lt aa.out,aN.out,aK.out⟩,(by first | exact jt9 aa.out y7 | exact jrq aa.out)⟩
    ·obtain rfl:h=j:=by omega
     have aO:Hid (GrowN wr S.heap.size (.slice oa tk oc) (R.take ((r+1)*h))):=by rw[aS.out,ab.out];exact HO.out
     have aL:=Lib.hid u.out;clear aE O;go_wp2_with fail;go_roundw
     case rel=>exact⟨r+1,by go_num,by omega,aO.out,aL.out⟩
     case measure=>simp[intOf];try omega
  ·obtain rfl:r=2:=by omega
   have hT:R.take (2*h)=R:=List.take_of_length_le (by rw[A.out.2];omega);rw[hT] at H;obtain⟨oa,oc,rfl⟩:=H.out.formk (k:=h+h) A.out.2;obtain⟨V,hV,aC,ay,aw⟩:=jnR (.int .i64 2) (.int .i64 h) (.slice oa (h+h) oc) C;obtain⟨t0,t1,t2⟩:=cl3 C;obtain⟨f0,f1,f2⟩:=cz3 C;obtain⟨q0,q1,q2⟩:=cl3 aC;have aM:Hid (Bw w V):=aw _ _ (x.out.trans ((T.out.trans (y.out.mono B.out)).mono x.out.size)) (by omega);have aP:Hid (GrowN V S.heap.size (.slice oa (h+h) oc) R):=H.out.block (fun b hb=>ay.2 _ (by have:=B.out;have:=av.out;omega));clear ah C aC ay aw hT;go_wp2_with fail;refine bodyPost_ret (v:=.tuple #[.agg #[.int .i64 2,.int .i64 h,.slice oa (h+h) oc],.int .i64 0]) (by simp[results,Tryz.f135,go_sem,q0,q1,q2]) rfl ?_;obtain⟨a',aX,hv,aA,aT⟩:=aP.out.slF;have F:R.length=h+h:=A.out.2;rw[F] at hv aA
   cases hv
   unfold jxu;rw[F];exact⟨_,_,rfl,aA,fun z hz=>Nat.le_trans (Nat.le_trans x.out.size B.out) (aT z hz),aM.out⟩
end
end Go.Proofs.YtafhpamnegmilaaGreatDoor

/- Package ladder: merged. Package ladder: Merge on sketches at work. A right sketch is that of a body at work. No program in sight. Sketches as bodies, in plain data. No program in sight. Package ladder at any sketch, told as plain data. A sketch cut by Few: of Go's sizes. Quota in plain data: a table's jsy, what is fitted. No program in sight. Sketches at work as plain data: in whatever order they are merged. No sketch of items is meant: any right bodies. -/
import Derived.Test.YtafhpamnegmilaaGreatDoorYMH
set_option maxHeartbeats 2000000
set_option maxRecDepth 100000
namespace Go.Proofs.YtafhpamnegmilaaGreatDoor
open Go Go.RowKit
section
open Go.Shelf
theorem jnm (v1 v2:Value) (Q B2 B:Bd) (A E L2 u:Nat) (w:World) (a:BdAt w v1 Q) (c:BdAt w v2 B2) (O:Q.Ok A E) (P:B2.Ok A L2) (hu:max E L2=u) (S:u<=jc1 A) (he:(jbk (E,Q) u).2.merge (jbk (L2,B2) u).2=some B) :
  Calls Tryz.prog 76 #[.agg #[v1,.int .i64 A,.int .i64 E],.agg #[v2,.int .i64 A,.int .i64 L2]] w fun e w'=>∃ v,e=.returned (.tuple #[.agg #[v,.int .i64 A,.int .i64 u],.nilIface])/\BdAt w' v B/\Bw w w':=by
 obtain⟨T1,m,rfl⟩:=ja6 a;obtain⟨T2,n,rfl⟩:=ja6 c
 have o1:(jbk (E,Q) u).2.Ok A u:=by
  have h:=jbb u S _ (E,Q) rfl O;have e:(jbk (E,Q) u).1=u:=h.2.trans (by show max E u=u;omega);have o:=h.1;rwa [e] at o
 have o2:(jbk (L2,B2) u).2.Ok A u:=by
  have h:=jbb u S _ (L2,B2) rfl P;have e:(jbk (L2,B2) u).1=u:=h.2.trans (by show max L2 u=u;omega);have o:=h.1;rwa [e] at o
 have I:Hid (∀ W,BdAt W (.iface T1 m) Q->BdAt W (.iface T2 n) B2->Calls Tryz.prog 129 #[.agg #[.iface T1 m,.int .i64 A,.int .i64 E],.agg #[.iface T2 n,.int .i64 A,.int .i64 L2],.int .i64 u] W fun e w'=>∃ u1 u2,e=.returned (.tuple #[.agg #[u1,.int .i64 A,.int .i64 u],.agg #[u2,.int .i64 A,.int .i64 u],.nilIface])/\BdAt w' u1 (jbk (E,Q) u).2/\BdAt w' u2 (jbk (L2,B2) u).2/\Bw W w'):=fun W o h2=>jkh _ _ Q B2 A E L2 u W o h2 O P (by omega) (by omega) S
 generalize (jbk (E,Q) u).2=D1 at I o1 he;generalize (jbk (L2,B2) u).2=D2 at I o2 he;obtain⟨W0,aA,Y,Z,al,R,aB⟩:=jbJ w #[.iface T1 m,.int .i64 A,.int .i64 E] 116 #[.iface T2 n,.int .i64 A,.int .i64 L2] 116 #[.nilIface,.int .i64 0,.int .i64 0] 116;obtain⟨c0,c1,c2⟩:=cl3 Y;obtain⟨d0,d1,d2⟩:=cl3 Z;have I:=Lib.hid (I.out W0 (a.go R) (c.go R));have aw:max (E:Int) (L2:Int)=(u:Int):=by omega
 have aq:=Lib.hid Y;have ar:=Lib.hid Z;have au:=Lib.hid al;have q:=Lib.hid R;have HO:Hid (D1.Ok A u/\D2.Ok A u):=⟨o1,o2⟩;have HM:=Lib.hid he;clear Y Z al R a c O P hu S he o1 o2;go_enter Tryz.func76,Tryz.ntmps76;go_wp2_with fail;refine I.out.mono ?_;rintro e w2 ⟨u1,u2,rfl,i,j,C⟩;obtain⟨S1,an,f,rfl,hm,av,hc⟩:=jeL i HO.out.1;obtain⟨S2,l,rfl⟩:=ja6 j;have G:=jab C (Nat.le_refl _) aq.out;have s:=jab C (Nat.le_refl _) ar.out;have ae:=jab C (Nat.le_refl _) au.out;obtain⟨p0,p1,p2⟩:=cl3 G;obtain⟨g0,g1,g2⟩:=cz3 G;obtain⟨V1,ax,ah,L,aa⟩:=jdz (.iface S1 an) (.int .i64 A) (.int .i64 u) G;have H:=(L.2 (w.heap.size+1) (by omega)).trans s;have ad:=(L.2 (w.heap.size+2) (by omega)).trans ae;obtain⟨q0,q1,q2⟩:=cl3 H;obtain⟨h0,o,h2⟩:=cz3 H;obtain⟨V2,ay,ai,M,ab⟩:=jdz (.iface S2 l) (.int .i64 A) (.int .i64 u) H;have V:=(M.2 w.heap.size (by omega)).trans ah;have af:=(M.2 (w.heap.size+2) (by omega)).trans ad;have y:Bw w V2:=ab _ _ (aa _ _ (q.out.trans (C.mono q.out.size)) (Nat.le_refl _)) (Nat.le_succ _);have k1:BdAt V2 (.iface S1 an) D1:=BdAt.set_work (BdAt.set_work i G (by simp) (by simp) (by simp) L) H (by simp) (by simp) (by simp) M;have k2:BdAt V2 (.iface S2 l) D2:=BdAt.set_work (BdAt.set_work j G (by simp) (by simp) (by simp) L) H (by simp) (by simp) (by simp) M;have hC:=hc V2 (.iface S2 l) D2 k1 k2 HO.out.2;rw[HM.out] at hC;have HC:=Lib.hid hC;obtain⟨x0,x1,x2⟩:=cl3 V;obtain⟨y0,y1,y2⟩:=cl3 ai;have ao:=Lib.hid V;have ap:=Lib.hid af;have r:=Lib.hid y
 clear hc hC G s ae ah L aa H ad ai M ab V af y k1 k2 i j C;go_wp2_with fail;refine HC.out.mono ?_;rintro e w3 ⟨d,v3,rfl,k⟩;obtain⟨T,D,rfl⟩:=ja6 k;have HF:=Lib.hid (jpm w3);go_wp2_with fail;refine HF.out.mono ?_;rintro e w4 ⟨rfl,g⟩;have F:=d.trans (g.mono d.size);have J:=jab F (Nat.le_refl _) ao.out;have ag:=jab F (Nat.le_refl _) ap.out;have t:=r.out.trans (F.mono r.out.size);obtain⟨r0,r1,r2⟩:=cl3 J;obtain⟨s0,s1,s2⟩:=cz3 J;obtain⟨U,hU⟩:∃ U,w4.setCell ⟨w.heap.size,0,none⟩ (.iface T D)=U:=⟨_,rfl⟩;have ak:U.heap[w.heap.size]? = some (.cells #[.iface T D,.int .i64 A,.int .i64 u] 116 (0,0)):=by rw[<- hU];exact hSk J (.iface T D)
 have X:OnlyAt w.heap.size w4 U:=by rw[<- hU];exact (OnlyAt.refl _ _).set _ _
 have x:Bw w U:=by rw[<- hU];exact t.setCell (p:=⟨w.heap.size,0,none⟩) (Nat.le_refl _) _
 have N:=(X.2 (w.heap.size+2) (by omega)).trans ag;have am:BdAt U (.iface T D) B:=BdAt.set_work (k.go g) J (by simp) (by simp) (by simp) X;obtain⟨l0,l1,l2⟩:=cl3 ak;obtain⟨n0,n1,n2⟩:=cl3 N;obtain⟨z0,z1,z2⟩:=cz3 N;obtain⟨V5,az,aj,z,ac⟩:=jdz (b:=w.heap.size+1+1) (.iface T D) (.int .i64 A) (.int .i64 u) N;obtain⟨k0,k1,k2⟩:=cl3 aj;have HE:Hid (BdAt V5 (.iface T D) B/\Bw w V5):=⟨BdAt.set_work am N (by simp) (by simp) (by simp) z,ac _ _ x (by omega)⟩;clear hm av J ag t F d g k ak X x N am aj z ac;go_wp2_with fail;exact bodyPost_ret (v:=.tuple #[.agg #[.iface T D,.int .i64 A,.int .i64 u],.nilIface]) (by simp[results,Tryz.f76,go_sem,k0,k1,k2]) rfl ⟨_,rfl,HE.out.1,HE.out.2⟩
theorem jnl (v1 v2:Value) (M B2 B:Bd) (A F L2 u:Nat) (w:World) (ac:BdAt w v1 M) (ad:BdAt w v2 B2) (V:M.Ok A F) (X:B2.Ok A L2) (hu:max F L2=u) (g:u<=jc1 A) (l:u<jc1 A) (hg:GT w) (he:(jbk (F,M) u).2.merge (jbk (L2,B2) u).2=none) (d:(jbk (F,M) u).2.low.merge (jbk (L2,B2) u).2.low=some B) :
  Calls Tryz.prog 76 #[.agg #[v1,.int .i64 A,.int .i64 F],.agg #[v2,.int .i64 A,.int .i64 L2]] w fun e w'=>∃ v,e=.returned (.tuple #[.agg #[v,.int .i64 A,.int .i64 ((u:Int)+1)],.nilIface])/\BdAt w' v B/\Bw w w':=by
 obtain⟨T1,al,rfl⟩:=ja6 ac;obtain⟨T2,am,rfl⟩:=ja6 ad
 have o1:(jbk (F,M) u).2.Ok A u:=by
  have h:=jbb u g _ (F,M) rfl V;have e:(jbk (F,M) u).1=u:=h.2.trans (by show max F u=u;omega);have h1:=h.1;rwa [e] at h1
 have o2:(jbk (L2,B2) u).2.Ok A u:=by
  have h:=jbb u g _ (L2,B2) rfl X;have e:(jbk (L2,B2) u).1=u:=h.2.trans (by show max L2 u=u;omega);have h1:=h.1;rwa [e] at h1
 have N:Hid (∀ W,BdAt W (.iface T1 al) M->BdAt W (.iface T2 am) B2->Calls Tryz.prog 129 #[.agg #[.iface T1 al,.int .i64 A,.int .i64 F],.agg #[.iface T2 am,.int .i64 A,.int .i64 L2],.int .i64 u] W fun e w'=>∃ u1 u2,e=.returned (.tuple #[.agg #[u1,.int .i64 A,.int .i64 u],.agg #[u2,.int .i64 A,.int .i64 u],.nilIface])/\BdAt w' u1 (jbk (F,M) u).2/\BdAt w' u2 (jbk (L2,B2) u).2/\Bw W w'):=fun W h1 h2=>jkh _ _ M B2 A F L2 u W h1 h2 V X (by omega) (by omega) g
 generalize (jbk (F,M) u).2=D1 at N o1 he d;generalize (jbk (L2,B2) u).2=D2 at N o2 he d;obtain⟨W0,bt,z,aa,aP,Z,bu⟩:=jbJ w #[.iface T1 al,.int .i64 A,.int .i64 F] 116 #[.iface T2 am,.int .i64 A,.int .i64 L2] 116 #[.nilIface,.int .i64 0,.int .i64 0] 116;obtain⟨c0,c1,c2⟩:=cl3 z;obtain⟨d0,d1,d2⟩:=cl3 aa;have N:=Lib.hid (N.out W0 (ac.go Z) (ad.go Z));have bn:max (F:Int) (L2:Int)=(u:Int):=by omega
 have bc:=Lib.hid z;have be:=Lib.hid aa;have bg:=Lib.hid aP;have an:=Lib.hid Z;have HO:Hid (D1.Ok A u/\D2.Ok A u):=⟨o1,o2⟩;have HM:=Lib.hid he;have a8:=Lib.hid d;have a5:=Lib.hid hg;have m:Hid (u<jc1 A):=l;have bv:u<=4:=by have:jc1 A<=4:=(by unfold jc1;split<;>omega);omega
 clear z aa aP Z ac ad V X hu g he d hg l o1 o2;go_enter Tryz.func76,Tryz.ntmps76;go_wp2_with fail;refine N.out.mono ?_;rintro e w2 ⟨u1,u2,rfl,ae,af,D⟩;obtain⟨S1,aj,f,rfl,hm,bj,hc⟩:=jeL ae HO.out.1;obtain⟨S2,i,rfl⟩:=ja6 af;have H:=jab D (Nat.le_refl _) bc.out;have ap:=jab D (Nat.le_refl _) be.out;have aD:=jab D (Nat.le_refl _) bg.out;obtain⟨p0,p1,p2⟩:=cl3 H;obtain⟨g0,g1,g2⟩:=cz3 H;obtain⟨V1,bo,aK,P,ax⟩:=jdz (.iface S1 aj) (.int .i64 A) (.int .i64 u) H;have J:=(P.2 (w.heap.size+1) (by omega)).trans ap;have aC:=(P.2 (w.heap.size+2) (by omega)).trans aD;obtain⟨q0,q1,q2⟩:=cl3 J;obtain⟨h0,h1,h2⟩:=cz3 J;obtain⟨V2,bp,y,Q,ay⟩:=jdz (.iface S2 i) (.int .i64 A) (.int .i64 u) J;have o:=(Q.2 w.heap.size (by omega)).trans aK;have aE:=(Q.2 (w.heap.size+2) (by omega)).trans aC;have av:Bw w V2:=ay _ _ (ax _ _ (an.out.trans (D.mono an.out.size)) (Nat.le_refl _)) (Nat.le_succ _);have k1:BdAt V2 (.iface S1 aj) D1:=BdAt.set_work (BdAt.set_work ae H (by simp) (by simp) (by simp) P) J (by simp) (by simp) (by simp) Q;have k2:BdAt V2 (.iface S2 i) D2:=BdAt.set_work (BdAt.set_work af H (by simp) (by simp) (by simp) P) J (by simp) (by simp) (by simp) Q;have hC:=hc V2 (.iface S2 i) D2 k1 k2 HO.out.2;rw[HM.out] at hC;have HC:=Lib.hid hC;obtain⟨x0,x1,x2⟩:=cl3 o;obtain⟨y0,y1,y2⟩:=cl3 y;have aX:=Lib.hid o;have bh:=Lib.hid y;have a9:=Lib.hid aE;have a6:=Lib.hid k1;have a7:=Lib.hid k2;have Y:=Lib.hid av;clear hc hC H ap aD aK P ax J aC y Q ay o aE av k1 k2 ae af D;go_wp2_with fail;refine HC.out.mono ?_
 rintro e w3 ⟨a,v3,rfl,aV⟩;have hF:CR 130 #[v3] w3 (.bool true):=jlO v3 60 w3 (a5.out.go (Y.out.trans (a.mono Y.out.size))) aV;have HF:=Lib.hid hF;obtain⟨bf,rfl,-⟩:=aV;clear hF hm bj;go_wp2_with fail;refine HF.out.mono ?_;rintro e w4 ⟨rfl,aR⟩;have C:=a.trans (aR.mono a.size);have q:=jab C (Nat.le_refl _) aX.out;have ab:=jab C (Nat.le_refl _) bh.out;have aF:=jab C (Nat.le_refl _) a9.out;have aq:=Y.out.trans (C.mono Y.out.size);have t:=jkh (.iface S1 aj) (.iface S2 i) D1 D2 A u u (u+1) w4 (a6.out.go C) (a7.out.go C) HO.out.1 HO.out.2 (Nat.le_succ _) (Nat.le_succ _) m.out;rw[show (jbk (u,D1) (u+1)).2=D1.low by unfold jbk;rw[show u+1-(u,D1).1=1 by show u+1-u=1;omega];rfl,show (jbk (u,D2) (u+1)).2=D2.low by unfold jbk;rw[show u+1-(u,D2).1=1 by show u+1-u=1;omega];rfl,Int.natCast_add] at t;have a4:=Lib.hid t;obtain⟨r0,r1,r2⟩:=cl3 q;obtain⟨s0,s1,s2⟩:=cl3 ab;have bl:wrap64 ((u:Int)+1)=(u:Int)+1:=by unfold wrap64;omega
 have bm:IntKind.i64.wrap ((u:Int)+1)=(u:Int)+1:=IntWalk.i64_in _ (by omega);have aY:=Lib.hid q;have bi:=Lib.hid ab;have ba:=Lib.hid aF;have ao:=Lib.hid aq;clear q ab aF aq C a aR t;go_wp2_with fail;refine a4.out.mono ?_;rintro e w5 ⟨u3,u4,rfl,ag,ah,E⟩;obtain⟨S3,aW,f3,rfl,bk,aU,aT⟩:=jeL ag (jco HO.out.1 m.out);obtain⟨S4,ak,rfl⟩:=ja6 ah;have I:=jab E (Nat.le_refl _) aY.out;have aQ:=jab E (Nat.le_refl _) bi.out;have aG:=jab E (Nat.le_refl _) ba.out;obtain⟨a0,a1,a2⟩:=cl3 I;obtain⟨b0,b1,b2⟩:=cz3 I;obtain⟨V3,bq,aL,R,az⟩:=jdz (.iface S3 aW) (.int .i64 A) (.int .i64 ((u:Int)+1)) I;have L:=(R.2 (w.heap.size+1) (by omega)).trans aQ;have aH:=(R.2 (w.heap.size+2) (by omega)).trans aG;obtain⟨m0,m1,m2⟩:=cl3 L;obtain⟨o0,o1,o2⟩:=cz3 L;obtain⟨V4,br,aM,S,aA⟩:=jdz (.iface S4 ak) (.int .i64 A) (.int .i64 ((u:Int)+1)) L;have r:=(S.2 w.heap.size (by omega)).trans aL;have aI:=(S.2 (w.heap.size+2) (by omega)).trans aH;have k:Bw w V4:=aA _ _ (az _ _ (ao.out.trans (E.mono ao.out.size)) (Nat.le_refl _)) (Nat.le_succ _);have k3:BdAt V4 (.iface S3 aW) D1.low:=BdAt.set_work (BdAt.set_work ag I (by simp) (by simp) (by simp) R) L (by simp) (by simp) (by simp) S;have k4:BdAt V4 (.iface S4 ak) D2.low:=BdAt.set_work (BdAt.set_work ah I (by simp) (by simp) (by simp) R) L (by simp) (by simp) (by simp) S;have s:=aT V4 (.iface S4 ak) D2.low k3 k4 (jco HO.out.2 m.out);rw[a8.out] at s;have a3:=Lib.hid s;obtain⟨t0,t1,t2⟩:=cl3 r;obtain⟨v0,v1,v2⟩:=cl3 aM;have aZ:=Lib.hid r;have bb:=Lib.hid aI;have j:=Lib.hid k
 clear aT s I aQ aG aL R az L aH aM S aA r aI k k3 k4 ag ah E;go_wp2_with fail;refine a3.out.mono ?_;rintro e w6 ⟨c,v6,rfl,ai⟩;obtain⟨n,G,rfl⟩:=ja6 ai;have O:=jab c (Nat.le_refl _) aZ.out;have aJ:=jab c (Nat.le_refl _) bb.out;have ar:=j.out.trans (c.mono j.out.size);obtain⟨i0,i1,i2⟩:=cl3 O;obtain⟨j0,j1,j2⟩:=cz3 O;obtain⟨U,hU⟩:∃ U,w6.setCell ⟨w.heap.size,0,none⟩ (.iface n G)=U:=⟨_,rfl⟩;have aO:U.heap[w.heap.size]? = some (.cells #[.iface n G,.int .i64 A,.int .i64 ((u:Int)+1)] 116 (0,0)):=by rw[<- hU];exact hSk O (.iface n G)
 have x:OnlyAt w.heap.size w6 U:=by rw[<- hU];exact (OnlyAt.refl _ _).set _ _
 have au:Bw w U:=by rw[<- hU];exact ar.setCell (p:=⟨w.heap.size,0,none⟩) (Nat.le_refl _) _
 have T:=(x.2 (w.heap.size+2) (by omega)).trans aJ;have aS:BdAt U (.iface n G) B:=BdAt.set_work ai O (by simp) (by simp) (by simp) x;obtain⟨l0,l1,l2⟩:=cl3 aO;obtain⟨n0,n1,n2⟩:=cl3 T;obtain⟨z0,z1,z2⟩:=cz3 T;obtain⟨V5,bs,aN,aw,aB⟩:=jdz (b:=w.heap.size+1+1) (.iface n G) (.int .i64 A) (.int .i64 ((u:Int)+1)) T;obtain⟨k0,k1,k2⟩:=cl3 aN;have HE:Hid (BdAt V5 (.iface n G) B/\Bw w V5):=⟨BdAt.set_work aS T (by simp) (by simp) (by simp) aw,aB _ _ au (by omega)⟩;clear bk aU O aJ ar c ai aO x au T aS aN aw aB;go_wp2_with fail;exact bodyPost_ret (v:=.tuple #[.agg #[.iface n G,.int .i64 A,.int .i64 ((u:Int)+1)],.nilIface]) (by simp[results,Tryz.f76,go_sem,k0,k1,k2]) rfl ⟨_,rfl,HE.out.1,HE.out.2⟩
theorem jft {k L:Nat} {x y:Bd} (A:x.Ok k L) (B:y.Ok k L) (C:x.merge y=none):L<jc1 k/\∃ z,x.low.merge y.low=some z:=by
 cases x with
 | num l =>
  cases y with
  | num m =>
   obtain⟨rfl,rfl,-⟩:=A;exact⟨by decide,_,rfl⟩
  | reg b r=>exact absurd B.2.1 (by have:=A.2.1;omega)
  | cnt c m=>exact absurd B.1 (by have:=A.1;omega)
  | bkt f m=>exact absurd B.1 (by have:=A.1;omega)
 | reg b r =>
  cases y with
  | num m=>exact absurd A.2.1 (by have:=B.2.1;omega)
  | reg b' s=>cases C
  | cnt c m=>exact absurd B.1 (by have:=A.1;omega)
  | bkt f m=>exact absurd B.1 (by have:=A.1;omega)
 | cnt c l =>
  cases y with
  | num m=>exact absurd B.1 (by have:=A.1;omega)
  | reg b' s=>exact absurd B.1 (by have:=A.1;omega)
  | cnt c m=>cases C
  | bkt f m=>exact absurd B.1 (by have:=A.1;omega)
 | bkt f l =>
  cases y with
  | num m=>exact absurd B.1 (by have:=A.1;omega)
  | reg b' s=>exact absurd B.1 (by have:=A.1;omega)
  | cnt c m=>exact absurd B.1 (by have:=A.1;omega)
  | bkt f m=>cases C
theorem jpz (v1 v2:Value) (F B2:Bd) (A C L2:Nat) (w:World) (H:BdAt w v1 F) (I:BdAt w v2 B2) (D:F.Ok A C) (E:B2.Ok A L2) (P:GT w) :
  Calls Tryz.prog 76 #[.agg #[v1,.int .i64 A,.int .i64 C],.agg #[v2,.int .i64 A,.int .i64 L2]] w fun e w'=>∃ v,e=.returned (.tuple #[.agg #[v,.int .i64 A,.int .i64 ((ja2 (C,F) (L2,B2)).1:Nat)],.nilIface])/\BdAt w' v (ja2 (C,F) (L2,B2)).2/\Bw w w':=by
 obtain⟨u,L⟩:∃ u,max C L2=u:=⟨_,rfl⟩;have G:u<=jc1 A:=by have:=jg6 D;have:=jg6 E;omega
 have Q:(jbk (C,F) u).2.Ok A u:=by
  have h:=jbb u G _ (C,F) rfl D;have e:(jbk (C,F) u).1=u:=h.2.trans (by show max C u=u;omega);have M:=h.1;rwa [e] at M
 have R:(jbk (L2,B2) u).2.Ok A u:=by
  have h:=jbb u G _ (L2,B2) rfl E;have e:(jbk (L2,B2) u).1=u:=h.2.trans (by show max L2 u=u;omega);have M:=h.1;rwa [e] at M
 cases J:(jbk (C,F) u).2.merge (jbk (L2,B2) u).2 with
 | some B =>
  have e:ja2 (C,F) (L2,B2)=(u,B):=by
   unfold ja2;simp only[L,J]
  rw[e];exact jnm v1 v2 F B2 B A C L2 u w H I D E L G J
 | none =>
  obtain⟨N,z,O⟩:=jft Q R J
  have e:ja2 (C,F) (L2,B2)=(u+1,z):=by
   unfold ja2;simp only[L,J,O,Option.getD_some]
  rw[e];exact jnl v1 v2 F B2 z A C L2 u w H I D E L G N P J O
theorem jjY {k:Nat} {s t:Nat × Bd} (F:s.2.Ok k s.1) (ht:t.2.Ok k t.1):(ja2 s t).2.Ok k (ja2 s t).1:=by
 have A:max s.1 t.1<=jc1 k:=by have:=jg6 F;have:=jg6 ht;omega
 have D:=(jbb (max s.1 t.1) A _ s rfl F).1;have E:=(jbb (max s.1 t.1) A _ t rfl ht).1;rw[(jbb (max s.1 t.1) A _ s rfl F).2,show max s.1 (max s.1 t.1)=max s.1 t.1 by omega] at D;rw[(jbb (max s.1 t.1) A _ t rfl ht).2,show max t.1 (max s.1 t.1)=max s.1 t.1 by omega] at E;unfold ja2
 cases G:(jbk s (max s.1 t.1)).2.merge (jbk t (max s.1 t.1)).2 with
 | some B=>exact jos D E G
 | none =>
  obtain⟨C,z,H⟩:=jft D E G;simp only[H,Option.getD_some];exact jos (jco D C) (jco E C) H
theorem jqc {k R L2:Nat} {T B2:Bd} {v1 v2:Value} {w:World} (H:T.Ok k R) (I:B2.Ok k L2) (hg:GT w) (aG:SkB w v1 k R T) (aH:SkB w v2 k L2 B2) :
  Calls Tryz.prog 34 #[v1,v2] w fun e w'=>∃ x,e=.returned (.tuple #[x,.int .i64 0])/\SkB w' x k (ja2 (R,T) (L2,B2)).1 (ja2 (R,T) (L2,B2)).2/\Bw w w':=by
 have q:=jjY (s:=(R,T)) (t:=(L2,B2)) H I;obtain⟨a,S,ao,rfl,aa⟩:=aG;obtain⟨E,D,ap,rfl,ab⟩:=aH;obtain⟨W0,aM,ak,al,am,J,aP⟩:=jbJ w #[.int .i64 a.kind,.int .i64 a.level,.slice S.ea S.el S.ec,.int .i64 a.hb,.string a.hr,.int .i64 a.cr,.int .i64 a.cc,.slice S.ca S.cl S.cc,.int .i64 a.gf,.slice S.ga S.gl S.gc] 41 #[.int .i64 E.kind,.int .i64 E.level,.slice D.ea D.el D.ec,.int .i64 E.hb,.string E.hr,.int .i64 E.cr,.int .i64 E.cc,.slice D.ca D.cl D.cc,.int .i64 E.gf,.slice D.ga D.gl D.gc] 41 #[.int .i64 0,.int .i64 0,.slice none 0 0,.int .i64 0,.string ⟨#[]⟩,.int .i64 0,.int .i64 0,.slice none 0 0,.int .i64 0,.slice none 0 0] 41;have ay:=Lib.hid (jir (w:=W0) H ⟨a,S,ao,rfl,aa.go J⟩);have c:Hid (∀ W,Bw W0 W->Calls Tryz.prog 74 #[.agg #[.int .i64 E.kind,.int .i64 E.level,.slice D.ea D.el D.ec,.int .i64 E.hb,.string E.hr,.int .i64 E.cr,.int .i64 E.cc,.slice D.ca D.cl D.cc,.int .i64 E.gf,.slice D.ga D.gl D.gc]] W fun e w'=>∃ b,e=.returned (.tuple #[.agg #[b,.int .i64 k,.int .i64 L2],.nilIface])/\BdAt w' b B2/\Bw W w'):=fun W hB=>jir I ⟨E,D,ap,rfl,(ab.go J).go hB⟩
 obtain⟨L,hL⟩:∃ L:Nat,(ja2 (R,T) (L2,B2)).1=L:=⟨_,rfl⟩;obtain⟨B,j⟩:∃ B:Bd,(ja2 (R,T) (L2,B2)).2=B:=⟨_,rfl⟩;rw[hL,j] at q ⊢
 have HT:Hid (∀ b1 b2 W,BdAt W b1 T->BdAt W b2 B2->GT W->Calls Tryz.prog 76 #[.agg #[b1,.int .i64 k,.int .i64 R],.agg #[b2,.int .i64 k,.int .i64 L2]] W fun e w'=>∃ v',e=.returned (.tuple #[.agg #[v',.int .i64 k,.int .i64 L],.nilIface])/\BdAt w' v' B/\Bw W w'):=by
  rw[<- j,<- hL];exact fun b1 b2 W h1 h2 aF=>jpz b1 b2 T B2 k R L2 W h1 h2 H I aF
 have HN:Hid (∀ b W,BdAt W b B->Calls Tryz.prog 75 #[.agg #[b,.int .i64 k,.int .i64 L],.nilIface] W fun e w'=>∃ x,e=.returned (.tuple #[x,.int .i64 0])/\SkB w' x k L B/\Bw W w'):=fun b W h=>juJ b B k L W h q
 obtain⟨c0,c1,c2,c3,c4,c5,c6,c7,c8,c9⟩:=jam ak;have av:=Lib.hid (hg.go J);have aD:=Lib.hid al;have aE:=Lib.hid am;have y:=Lib.hid J;clear ak al am J aa ab ao ap q H I hL j hg;go_enter Tryz.func34,Tryz.ntmps34;go_wp2_with fail;refine ay.out.mono ?_;rintro e w1 ⟨b1,rfl,m,X⟩;obtain⟨T1,aI,rfl⟩:=ja6 m;obtain⟨W2,aN,ai,f,aQ⟩:=jaf w1 #[.iface T1 aI,.int .i64 k,.int .i64 R] 116;have F:=X.trans (f.mono X.size);have c:=Lib.hid (c.out W2 F);have an:=jab F (Nat.le_refl _) aD.out;have aw:=Lib.hid (m.go f);have aC:=Lib.hid ai;have Y:=Lib.hid F;have aL:=X.size;obtain⟨d0,d1,d2,d3,d4,d5,d6,d7,d8,d9⟩:=jam an;clear m X ai f F an;go_wp2_with fail;refine c.out.mono ?_;rintro e w3 ⟨b2,rfl,n,Q⟩;obtain⟨T2,aJ,rfl⟩:=ja6 n;obtain⟨W4,aO,aj,g,aR⟩:=jaf w3 #[.iface T2 aJ,.int .i64 k,.int .i64 L2] 116;have G:=Q.trans (g.mono Q.size);have d:=jab G (Nat.le_refl _) aC.out;have O:Bw W0 W4:=Y.out.trans (G.mono Y.out.size);have aB:=Lib.hid (HT.out _ _ W4 (aw.out.go G) (n.go g) (av.out.go O));obtain⟨q0,q1,q2⟩:=cl3 d;obtain⟨x0,x1,x2⟩:=cl3 aj;have ar:=Lib.hid d;have Z:=Lib.hid O;clear n Q aj g G d O;go_wp2_with fail;refine aB.out.mono ?_;rintro e w5 ⟨b5,rfl,r,o⟩;obtain⟨T5,aK,rfl⟩:=ja6 r;have N:=jab o (Nat.le_refl _) ar.out;obtain⟨p0,p1,p2⟩:=cl3 N;obtain⟨g0,g1,g2⟩:=cz3 N;obtain⟨V,hV,ah,l,ag⟩:=jdz (.iface T5 aK) (.int .i64 k) (.int .i64 L) N;have ax:=Lib.hid (HN.out _ V (BdAt.set_work r N (by simp) (by simp) (by simp) l));have P:=Z.out.trans (o.mono Z.out.size)
 have z:Hid (Bw w V):=ag _ _ (y.out.trans (P.mono y.out.size)) (by omega);have az:Hid (V.heap[w.heap.size+2]? = some (.cells #[.int .i64 0,.int .i64 0,.slice none 0 0,.int .i64 0,.string ⟨#[]⟩,.int .i64 0,.int .i64 0,.slice none 0 0,.int .i64 0,.slice none 0 0] 41 (0,0))):=(l.2 _ (by omega)).trans (jab P (Nat.le_refl _) aE.out);obtain⟨r0,r1,r2⟩:=cl3 ah;clear N ah l ag r o P;go_wp2_with fail;refine ax.out.mono ?_;rintro e w6 ⟨x6,rfl,⟨C,A,aq,rfl,ac⟩,p⟩;have M:=jab p (Nat.le_refl _) az.out;obtain⟨z0,z1,z2,z3,z4,z5,z6,z7,z8,z9⟩:=jam M;obtain⟨f0,f1,f2,f3,f4,f5,f6,f7,f8,f9⟩:=jbL M;obtain⟨U,hU,af,ae,ad⟩:=jaD (.int .i64 C.kind) (.int .i64 C.level) (.slice A.ea A.el A.ec) (.int .i64 C.hb) (.string C.hr) (.int .i64 C.cr) (.int .i64 C.cc) (.slice A.ca A.cl A.cc) (.int .i64 C.gf) (.slice A.ga A.gl A.gc) M;obtain⟨k0,k1,k2,k3,k4,k5,k6,k7,k8,k9⟩:=jam af;have aA:Hid (SkB U (.agg #[.int .i64 C.kind,.int .i64 C.level,.slice A.ea A.el A.ec,.int .i64 C.hb,.string C.hr,.int .i64 C.cr,.int .i64 C.cc,.slice A.ca A.cl A.cc,.int .i64 C.gf,.slice A.ga A.gl A.gc]) k L B):=SkB.apart ⟨C,A,aq,rfl,ac⟩ M (fun i u=>jcP u) ae;have au:Hid (Bw w U):=ad _ _ (z.out.trans (p.mono z.out.size)) (by omega);clear M af ae ad aq ac p;go_wp2_with fail
 exact bodyPost_ret (v:=.tuple #[.agg #[.int .i64 C.kind,.int .i64 C.level,.slice A.ea A.el A.ec,.int .i64 C.hb,.string C.hr,.int .i64 C.cr,.int .i64 C.cc,.slice A.ca A.cl A.cc,.int .i64 C.gf,.slice A.ga A.gl A.gc],.int .i64 0]) (by simp[results,Tryz.f34,go_sem,k0,k1,k2,k3,k4,k5,k6,k7,k8,k9]) rfl ⟨_,rfl,aA.out,au.out⟩
theorem jxq {x y:Sk} (h:jaw x y=true):x=y:=by
 simp only[jaw,Bool.and_eq_true,beq_iff_eq] at h;obtain⟨⟨⟨⟨⟨D,E⟩,F,B⟩,G⟩,⟨H,I⟩,J⟩,L,A⟩:=h
 have C:x.hr=y.hr:=by
  rw[Lib.toList_data,Lib.toList_data] at B
  cases M:x.hr with | mk a=>cases N:y.hr with | mk b =>
  rw[M,N] at B;rw[show a=b from Array.toList_inj.1 B]
 cases x;cases y
 simp only at *;subst D E F C G H I J L A;rfl
def jcJ (s:ByteArray):List Nat:=s.data.toList.map (·.toNat)
theorem jnT (s:ByteArray):jap (jcJ s)=s:=by
 unfold jap jcJ
 have h:(strOfNums ((s.data.toList.map (·.toNat)).map fun (n:Nat)=>(n:Int))).data.toList=s.data.toList:=by
  rw[strOfNums_data,List.map_map,List.map_map]
  conv=>rhs;rw[<- List.map_id s.data.toList]
  refine List.map_congr_left (fun x _=>?_);simp
 generalize strOfNums ((s.data.toList.map (·.toNat)).map fun (n:Nat)=>(n:Int))=z at h
 cases z with | mk a=>cases s with | mk b =>
 have A:a.toList=b.toList:=h;rw[Array.toList_inj.1 A]
theorem jnS (s:ByteArray):(jcJ s).length=s.size:=by unfold jcJ;rw[List.length_map];exact Array.length_toList
theorem jpV (b:Nat) (s:ByteArray) (h:jcC b s=true):∀ i,(jcJ s).getD i 0<=65-b:=fun i=>by
 rw[List.getD_eq_getElem?_getD]
 cases D:(jcJ s)[i]? with
 | none=>exact Nat.zero_le _
 | some r =>
  have A:=List.mem_of_getElem? D;unfold jcJ at A;obtain⟨c,C,rfl⟩:=List.mem_map.1 A;unfold jcC at h;have B:=List.all_eq_true.1 h c C;have E:¬ (65-(b:Int)<(c.toNat:Int)):=by simpa using B
  show c.toNat<=65-b;omega
theorem jlH (f:Int):∀ (l:List (Int × Int)) (A:Int),(jb7 (jbw f) A l).isSome=true->jb5 l/\(∀ b∈l,A<b.1)/\(∀ b∈l,b.2≠0)/\∀ b∈l,jao f b.1=true
 | [],_,_=>⟨List.Pairwise.nil,(fun _ h=>by cases h),(fun _ h=>by cases h),fun _ h=>by cases h⟩
 | b::t,A,h=>by
  rw[jdj] at h
  cases C:jbw f A b with
  | none=>rw[C] at h;cases h
  | some z =>
   rw[C] at h
   have D:z=b.1/\b.2≠0/\jao f b.1=true/\A<b.1:=by
    unfold jbw at C;split at C
    ·cases C
    ·rename_i B
     simp only[Bool.or_eq_true,beq_iff_eq,Bool.not_eq_true',decide_eq_true_eq,not_or,Bool.not_eq_false] at B;exact⟨(Option.some.inj C).symm,B.1.1,B.1.2,by omega⟩
   obtain⟨rfl,F,G,H⟩:=D;obtain⟨I,E,J,L⟩:=jlH f t b.1 h;refine⟨List.pairwise_cons.2 ⟨E,I⟩,fun c B=>?_,fun c B=>?_,fun c B=>?_⟩
   ·rcases List.mem_cons.1 B with rfl | B
    ·exact H
    ·have:=E c B;omega
   ·rcases List.mem_cons.1 B with rfl | B
    ·exact F
    ·exact J c B
   ·rcases List.mem_cons.1 B with rfl | B
    ·exact G
    ·exact L c B
theorem jw3 (x:Sk) (h:jcc x=true) (l:jc8 x.e) (i:jc8 x.cl) (n:jbj x.gl):∃ (k L:Nat) (B:Bd),x=jbu k L B/\B.Ok k L:=by
 simp only[jcc,Bool.and_eq_true,decide_eq_true_eq] at h;obtain⟨⟨⟨p,q⟩,r,X⟩,C,U⟩:=h;have P:=jxq U;obtain⟨L,E⟩:∃ L:Nat,x.level=L:=⟨x.level.toNat,by omega⟩;rcases (by omega:x.kind=1\/x.kind=2\/x.kind=3) with A | A | A
 ·have F:jaF x.kind=4:=by rw[A];rfl
  rw[F,E] at X;by_cases g:L=0
  ·subst g
   have G:ja9 x=jaQ 1 0 x.e:=by unfold ja9;rw[A,E];rfl
   have H:jaH x.e=true:=by unfold jaM at C;rw[A,E] at C;exact C
   obtain⟨Y,a⟩:=jcE x.e H;exact⟨1,0,.num x.e,by rw[G] at P;exact P,rfl,rfl,Y,a,l⟩
  ·have O:((L:Int)==0)=false:=by simp;omega
   have G:ja9 x=jbl 1 L x.hb x.hr:=by
    unfold ja9;rw[A,E];show (if ((1:Int)==1) then if ((L:Int)==0) then _ else _ else _)=_;rw[O];rfl
   have H:(jaT x.hb x.hr&&(x.hb==8-(L:Int)))=true:=by
    unfold jaM at C;rw[A,E] at C;have J:(if ((L:Int)==0) then jaH x.e else jaT x.hb x.hr&&(x.hb==8-(L:Int)))=true:=C;rw[O] at J;exact J
   rw[Bool.and_eq_true,beq_iff_eq] at H;obtain⟨D,I⟩:=H;unfold jaT at D;rw[Bool.and_eq_true,Bool.and_eq_true,beq_iff_eq] at D;obtain⟨⟨R,Q⟩,Z⟩:=D;obtain⟨b,S⟩:∃ b:Nat,x.hb=b:=⟨x.hb.toNat,by omega⟩;rw[S] at I Q Z G
   have V:x.hr.size=2^b:=by
    rw[Int.toNat_natCast] at Q;have:((2:Int)^b)=((2^b:Nat):Int):=by simp
    omega
   refine⟨1,L,.reg b (jcJ x.hr),?_,rfl,by omega,by omega,by omega,by rw[jnS];exact V,jpV b x.hr Z⟩;show x=jbl 1 L b (jap (jcJ x.hr));rw[jnT];exact P.trans G
 ·have F:jaF x.kind=3:=by rw[A];rfl
  rw[F,E] at X;have G:ja9 x=jba 2 L x.cr x.cc x.cl:=by unfold ja9;rw[A,E];rfl
  have H:(jaN x.cr x.cc x.cl&&(x.cr==2)&&(x.cc==32 / 2^L))=true:=by
   unfold jaM at C;rw[A,E,Int.toNat_natCast] at C;exact C
  rw[Bool.and_eq_true,Bool.and_eq_true,beq_iff_eq,beq_iff_eq] at H;obtain⟨⟨D,I⟩,R⟩:=H;unfold jaN at D;rw[Bool.and_eq_true,beq_iff_eq] at D;have Q:=D.2;obtain⟨c,N⟩:∃ c:Nat,x.cc=c:=⟨32 / 2^L,by rw[R];simp⟩
  have M:c*2^L=32:=by
   have j:(c:Int)=((32 / 2^L:Nat):Int):=by rw[<- N,R];simp
   have T:c=32 / 2^L:=by omega
   rw[T];rcases (by omega:L=0\/L=1\/L=2\/L=3) with rfl | rfl | rfl | rfl<;>rfl
  rw[I,N] at Q G;refine⟨2,L,.cnt c x.cl,?_,rfl,by omega,M,by omega,i⟩;exact P.trans G
 ·have F:jaF x.kind=3:=by rw[A];rfl
  rw[F,E] at X;have G:ja9 x=jbv 3 L x.gf x.gl:=by unfold ja9;rw[A,E];rfl
  have H:(jaP x.gf x.gl&&(x.gf==3-(L:Int)))=true:=by
   unfold jaM at C;rw[A,E] at C;exact C
  rw[Bool.and_eq_true,beq_iff_eq] at H;obtain⟨D,I⟩:=H;unfold jaP at D;rw[Bool.and_eq_true] at D;obtain⟨Y,a,o,d⟩:=jlH x.gf x.gl (-1) D.2;obtain⟨f,m⟩:∃ f:Nat,x.gf=f:=⟨x.gf.toNat,by omega⟩;rw[m] at d I G;refine⟨3,L,.bkt f x.gl,P.trans G,rfl,by omega,by omega,Y,o,n,d⟩
def jsX (x:Sk):Bd:=if x.kind==1 then (if x.level==0 then .num x.e else .reg x.hb.toNat (jcJ x.hr)) else if x.kind==2 then .cnt x.cc.toNat x.cl else .bkt x.gf.toNat x.gl
theorem jut (r:List Nat) (h:∀ i,r.getD i 0<=255):jcJ (jap r)=r:=by
 unfold jcJ jap;rw[strOfNums_data,List.map_map,List.map_map]
 conv=>rhs;rw[<- List.map_id r]
 refine List.map_congr_left (fun x C=>?_);obtain⟨i,B⟩:=List.mem_iff_getElem?.1 C;have A:=h i;rw[List.getD_eq_getElem?_getD,B,Option.getD_some] at A;show (UInt8.ofNat ((x:Int)).toNat).toNat=x;rw[Int.toNat_natCast];simp;omega
theorem jhR {k L:Nat} {B:Bd} (h:B.Ok k L):jsX (jbu k L B)=B:=by
 cases B with
 | num l=>obtain⟨rfl,rfl,-⟩:=h;rfl
 | reg b r =>
  obtain⟨rfl,D,-,E,-,C⟩:=h;have A:(((L:Nat):Int)==0)=false:=by simp;omega
  show (if (((1:Nat):Int)==1) then (if ((L:Int)==0) then _ else Bd.reg ((b:Int)).toNat (jcJ (jap r))) else _)=_;rw[A,Int.toNat_natCast,jut r (fun i=>by have:=C i;omega)];rfl
 | cnt c l=>obtain⟨rfl,-⟩:=h;rfl
 | bkt f l=>obtain⟨rfl,-⟩:=h;rfl
def jwc (x:Sk):Sk:=jbu x.kind.toNat (x.level.toNat+1) (jsX x).low
def jwp (x:Sk) (t:Nat):Sk:=jbu x.kind.toNat (jbk (x.level.toNat,jsX x) t).1 (jbk (x.level.toNat,jsX x) t).2
def SkGood (x:Sk):Prop:=∃ k L B,x=jbu k L B/\Bd.Ok k L B
theorem juD {k L:Nat} {B:Bd} (h:B.Ok k L):jwc (jbu k L B)=jbu k (L+1) B.low:=by
 unfold jwc;rw[jhR h,(jak k L B).1,(jak k L B).2,Int.toNat_natCast,Int.toNat_natCast]
theorem jr5 {k L:Nat} {B:Bd} (h:B.Ok k L) (t:Nat):jwp (jbu k L B) t=jbu k (jbk (L,B) t).1 (jbk (L,B) t).2:=by
 unfold jwp;rw[jhR h,(jak k L B).1,(jak k L B).2,Int.toNat_natCast,Int.toNat_natCast]
theorem SkGood.of {x:Sk} (h:jcc x=true) (B:jc8 x.e) (A:jc8 x.cl) (C:jbj x.gl):SkGood x:=jw3 x h B A C
theorem SkGood.ok {x:Sk} (h:SkGood x):jcc x=true:=by obtain⟨k,L,B,rfl,h⟩:=h;exact jgV h
structure Sk.lim (x:Sk):Prop where
 e:jc8 x.e
 c:jc8 x.cl
 g:jsG x.gl
 cc:I64 x.cc
 fit:x.fit
 el:x.e.length<2147483648
 cl:x.cl.length<2147483648
 gl:x.gl.length<2147483648
theorem Sk.lim.short {x:Sk} (h:x.lim) {s:SS} {n:Nat} {w:World} (A:s.At n w x):s.Short:=⟨by rw[A.e.1.1];exact h.el,by rw[A.c.1.1];exact h.cl,by rw[A.g.1.1];exact h.gl⟩
theorem Sk.lim.bd {x:Sk} (h:x.lim) (ok:jcc x=true):∃ k L B,x=jbu k L B/\Bd.Ok k L B:=jw3 x ok h.e h.c (fun b A=>(h.g b A).2)
def zsk:Sk:=jaQ 0 0 []
def SkP (r:Sk × Int) (w:World) (e:Ending) (w':World):Prop:=∃ s:SS,e=.returned (.tuple #[.agg #[.int .i64 r.1.kind,.int .i64 r.1.level,.slice s.ea s.el s.ec,.int .i64 r.1.hb,.string r.1.hr,.int .i64 r.1.cr,.int .i64 r.1.cc,.slice s.ca s.cl s.cc,.int .i64 r.1.gf,.slice s.ga s.gl s.gc],.int .i64 r.2])/\s.At w'.heap.size w' r.1/\Bw w w'
theorem SkP.good {k L:Nat} {B:Bd} {w w':World} {e:Ending} (h:∃ x,e=.returned (.tuple #[x,.int .i64 0])/\SkB w' x k L B/\Bw w w'):SkP (jbu k L B,0) w e w':=by
 obtain⟨x,D,⟨y,s,rfl,rfl,A⟩,C⟩:=h;exact⟨s,D,A,C⟩
theorem SkP.zero {E:Int} {w w':World} {e:Ending} (h:e=.returned (.tuple #[.agg #[.int .i64 0,.int .i64 0,.slice none 0 0,.int .i64 0,.string ⟨#[]⟩,.int .i64 0,.int .i64 0,.slice none 0 0,.int .i64 0,.slice none 0 0],.int .i64 E])/\Bw w w'):SkP (zsk,E) w e w':=⟨⟨none,0,0,none,0,0,none,0,0⟩,h.1,⟨SlC.nil,SlC.nil,SlC.nil⟩,h.2⟩
def jwO (k:Int):Sk × Int:=if k=1\/k=2\/k=3 then (jbu k.toNat 0 (jhh k.toNat),0) else (zsk,101)
theorem juU {k L:Nat} {B:Bd} (h:B.Ok k L):jaF (jbu k L B).kind=(jc1 k:Int):=by rw[(jak k L B).1];exact (jjt h).1
theorem jvN {x:Sk} (h:x.arg) (C:I64 x.cc):x.cut.lim where
 e:=fun n B=>h.e n (List.mem_of_mem_take B)
 c:=fun n B=>h.c n (List.mem_of_mem_take B)
 g:=fun b A=>h.g b (List.mem_of_mem_take A)
 cc:=C
 fit:=fun b A=>(h.g b (List.mem_of_mem_take A)).1.2
 el:=by show (x.e.take 70).length<_;rw[List.length_take];omega
 cl:=by show (x.cl.take 200).length<_;rw[List.length_take];omega
 gl:=by show (x.gl.take 300).length<_;rw[List.length_take];omega
def jl0 (x:Ser):Bool:=decide (x.sk.level<jaF x.sk.kind)
def jlX (x:Ser):Ser:=⟨x.l,jwc x.sk,x.seen⟩
theorem jrC {k L:Nat} {B:Bd} (h:B.Ok k L) (l:List Lab) (n:Int):jl0 ⟨l,jbu k L B,n⟩=decide (L<jc1 k):=by
 unfold jl0;rw[(jak k L B).1,(jak k L B).2,(jjt h).1];by_cases A:L<jc1 k
 ·rw[decide_eq_true A];simp;omega
 ·rw[decide_eq_false A];simp;omega
structure Ser.good (x:Ser):Prop where
 fine:x.fine
 sk:SkGood x.sk
theorem jtL {k L:Nat} {B:Bd} (h:B.Ok k L) (E:∀ f l,B=.bkt f l->l.length<=300):(jbu k L B).e.length<=70/\(jbu k L B).cl.length<=200/\(jbu k L B).gl.length<=300/\(jbu k L B).hr.size<=260:=by
 cases B with
 | num l=>obtain⟨-,-,-,C,-⟩:=h;exact⟨by show l.length<=70;omega,Nat.zero_le _,Nat.zero_le _,Nat.zero_le _⟩
 | reg b r =>
  obtain⟨-,F,-,A,C,-⟩:=h;have:2^b<=2^8:=Nat.pow_le_pow_right (by omega) (by omega);exact⟨Nat.zero_le _,Nat.zero_le _,Nat.zero_le _,by show (jap r).size<=260;rw[jbz];omega⟩
 | cnt c l =>
  obtain⟨-,D,A,C,-⟩:=h;have:=jhU A D;exact⟨Nat.zero_le _,by show l.length<=200;omega,Nat.zero_le _,Nat.zero_le _⟩
 | bkt f l=>exact⟨Nat.zero_le _,Nat.zero_le _,E f l rfl,Nat.zero_le _⟩
theorem jmO {B:Bd} (A:∀ f l,B=.bkt f l->l.length<=300):∀ f l,B.low=.bkt f l->l.length<=300:=by
 intro f l h
 cases B with
 | bkt f' l' =>
  simp only[Bd.low,Bd.bkt.injEq] at h;obtain⟨-,rfl⟩:=h;exact Nat.le_trans (jq3 l') (A f' l' rfl)
 | num l'=>cases h
 | reg b r=>cases h
 | cnt c l'=>cases h
theorem jq0 {x:Ser} (h:x.fine) {k L:Nat} {B:Bd} (e:x.sk=jbu k L B):∀ f l,B=.bkt f l->l.length<=300:=by
 rintro f l rfl;have:=h.g;rw[e] at this;exact this
theorem Ser.good.with {x:Ser} (h:x.good) {k L:Nat} {B:Bd} (A:B.Ok k L) (G:∀ f l,B=.bkt f l->l.length<=300):Ser.good ⟨x.l,jbu k L B,x.seen⟩:=by
 obtain⟨C,D,E,F⟩:=jtL A G;exact⟨⟨h.fine.lab,h.fine.ll,C,D,E,jfm A,F,h.fine.seen⟩,⟨k,L,B,rfl,A⟩⟩
theorem Ser.good.low {x:Ser} (h:x.good) (D:jl0 x=true):(jlX x).good:=by
 obtain⟨k,L,B,e,A⟩:=h.sk;have E:x=⟨x.l,jbu k L B,x.seen⟩:=by rw[<- e]
 have C:L<jc1 k:=by rw[E,jrC A] at D;simpa using D
 unfold jlX;rw[e,juD A];exact h.with (jco A C) (jmO (jq0 h.fine e))
def jwl (i:Nat) (x:Ser) (s:Nat × Int × Bool):Nat × Int × Bool:=if jl0 x&&(!s.2.2||decide (s.2.1<jfM x)) then (i,jfM x,true) else s
def jwm (l:List Ser):Nat->Nat × Int × Bool
 | 0=>(0,0,false)
 | k+1=>match l[k]? with
  | some x=>jwl k x (jwm l k)
  | none=>jwm l k
def vic (l:List Ser):Nat × Int × Bool:=jwm l l.length
def jsy (l:List Ser):Option Nat:=if (vic l).2.2 then some (vic l).1 else none
def jnh (l:List Ser) (i:Nat):List Ser:=match l[i]? with
 | some x=>l.set i (jlX x)
 | none=>l
theorem jt7 {l:List Ser} {i:Nat} {x:Ser} (h:l[i]? = some x):jnh l i=l.set i (jlX x):=by unfold jnh;rw[h]
structure QT (l:List Ser):Prop where
 right:jas l=true
 good:∀ x∈l,x.good
theorem jv9 {l:List Ser} {i:Nat} {y z:Ser} (h:z∈l.set i y):z∈l\/z=y:=by
 rcases List.mem_or_eq_of_mem_set h with h | h
 ·exact .inl h
 ·exact .inr h
theorem jnQ {l m:List Ser} (h:l.map (·.l)=m.map (·.l)) (B:Sorted l):Sorted m:=by
 unfold Sorted at *;have A:(l.map (·.l)).Pairwise (fun a b=>jau a b=true):=List.pairwise_map.2 B;rw[h] at A;exact List.pairwise_map.1 A
theorem jpN {l m:List Ser} (h:l.map (·.l)=m.map (·.l)) (hr:jas l=true) (H:∀ x∈m,jcc x.sk=true):jas m=true:=by
 obtain⟨J,E,F⟩:=(jbZ l).1 hr;have C:m.length=l.length:=by have:=congrArg List.length h;simpa using this.symm
 refine (jbZ m).2 ⟨by omega,fun x D=>?_,jnQ h F⟩;obtain⟨i,G⟩:=List.mem_iff_getElem?.1 D;have A:(m.map (·.l))[i]? = some x.l:=by rw[List.getElem?_map,G];rfl
 rw[<- h,List.getElem?_map,Option.map_eq_some_iff] at A;obtain⟨y,I,e⟩:=A;have B:=E y (List.mem_of_getElem? I);simp only[jaV,Bool.and_eq_true] at B ⊢;exact⟨by rw[<- e];exact B.1,H x D⟩
theorem jpq (l:List Ser) (i:Nat):(jnh l i).map (·.l)=l.map (·.l):=by
 unfold jnh
 cases h:l[i]? with
 | none=>rfl
 | some x =>
  show (l.set i (jlX x)).map (·.l)=_;rw[List.map_set];apply List.ext_getElem?;intro j;rw[List.getElem?_set];by_cases A:i=j
  ·subst A
   have B:=(List.getElem?_eq_some_iff.1 h).1;rw[if_pos rfl,if_pos (by simpa using B),List.getElem?_map,h];rfl
  ·rw[if_neg A]
theorem QT.low {l:List Ser} (h:QT l) {i:Nat} {x:Ser} (C:l[i]? = some x) (E:jl0 x=true):QT (jnh l i):=by
 have B:∀ y∈jnh l i,y.good:=fun y A=>by
  rw[jt7 C] at A;rcases jv9 A with D | rfl
  ·exact h.good y D
  ·exact (h.good x (List.mem_of_getElem? C)).low E
 exact⟨jpN (jpq l i).symm h.right (fun y A=>(B y A).sk.ok),B⟩
theorem QT.len {l:List Ser} (h:QT l):l.length<=20:=((jbZ l).1 h.right).1
def jxr (x:Ser):Nat:=(jaF x.sk.kind-x.sk.level).toNat
def mu:List Ser->Nat
 | []=>0
 | x::r=>jxr x+mu r
def jxy (b:Int):Nat->List Ser->Option (List Ser × List Nat)
 | 0,_=>none
 | n+1,l=>if jex l<=b then some (l,[]) else match jsy l with
  | none=>none
  | some v=>(jxy b n (jnh l v)).map fun r=>(r.1,v::r.2)
def fit (b:Int) (l:List Ser):Option (List Ser × List Nat):=jxy b (mu l+1) l
end
def jcx (k:Nat) (S:List (Nat × Bd)):Nat × Bd:=S.foldl ja2 (0,jhh k)
theorem jg2 {k:Nat}:∀ (S:List (Nat × Bd)) (s:Nat × Bd),s.2.Ok k s.1->(∀ t∈S,t.2.Ok k t.1)->(S.foldl ja2 s).2.Ok k (S.foldl ja2 s).1
 | [],_,h,_=>h
 | t::S,_,h,hS=>jg2 S _ (jjY h (hS t List.mem_cons_self)) (fun u A=>hS u (List.mem_cons_of_mem _ A))
theorem joN {k:Nat} (B:k=1\/k=2\/k=3) {S:List (Nat × Bd)} (A:∀ t∈S,t.2.Ok k t.1):(jcx k S).2.Ok k (jcx k S).1:=jg2 S _ (jsW k B) A
end Go.Proofs.YtafhpamnegmilaaGreatDoor

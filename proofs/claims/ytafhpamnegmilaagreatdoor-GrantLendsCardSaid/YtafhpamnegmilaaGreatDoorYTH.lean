/- The reference of layer 10: Right, at any sketches. Printed by gen_rq.py. The reference of layer 10: Right, at any sketch. Printed by gen_rt.py. The reference of layer 12: Right. -/
import Derived.Test.YtafhpamnegmilaaGreatDoorYRP
set_option maxHeartbeats 24000000
set_option maxRecDepth 100000
namespace Go.Proofs.YtafhpamnegmilaaGreatDoor
open Go Go.RowKit Go.Shelf
theorem jhu  (H:List Int) (T:Int) (hr:ByteArray) (S R:Int) (cl:List Int) (gf:Int) (gl:List (Int × Int)) (s:SS) (w:World) (u:s.At w.heap.size w (⟨1,0,H,T,hr,S,R,cl,gf,gl⟩:Sk)) (v:jc8 H) :
  CR 65 #[.agg #[.int .i64 1,.int .i64 0,.slice s.ea s.el s.ec,.int .i64 T,.string hr,.int .i64 S,.int .i64 R,.slice s.ca s.cl s.cc,.int .i64 gf,.slice s.ga s.gl s.gc]] w (.bool ((jaH H)&&jaw (⟨1,0,H,T,hr,S,R,cl,gf,gl⟩:Sk) (jaQ 1 0 H))):=by
 obtain⟨Q,aa,f,N,ac⟩:=jaf w #[.int .i64 1,.int .i64 0,.slice s.ea s.el s.ec,.int .i64 T,.string hr,.int .i64 S,.int .i64 R,.slice s.ca s.cl s.cc,.int .i64 gf,.slice s.ga s.gl s.gc] 41;have U:=Lib.hid (u.go N);have J:=Lib.hid N;have m:Hid (∀ W,Calls Tryz.prog 117 #[.int .i64 1] W fun e w'=>e=.returned (.int .i64 4)/\w'=W):=fun W=>(jaO 1 W).mono fun e w' ⟨h1,h2⟩=>⟨h1,h2.symm⟩
 obtain⟨k,l,q,d3,d4,d5,d6,d7,d8,d9⟩:=jam f;clear f N u;obtain⟨a,M⟩:∃ a,jaH H=a:=⟨_,rfl⟩;have Y:Hid ((jaH H)=(a)):=by rw[Hid,M]
 obtain⟨y,P⟩:∃ y,jaw (⟨1,0,H,T,hr,S,R,cl,gf,gl⟩:Sk) (jaQ 1 0 H)=y:=⟨_,rfl⟩;have o:=Lib.hid P;rw[P];clear P;go_enter Tryz.func65,Tryz.ntmps65;go_wp2_with fail;go_quiet ((go_at_call 117;exact Calls.quiet_of_same (m.out _)));obtain⟨E,d⟩:∃ E,Q.drewN nq=E:=⟨_,rfl⟩;have F:Bw Q E:=by rw[<- d];exact bDr (Below.refl _ _) _
 rw[d];obtain⟨D,ab,C,b,ad⟩:=jaf E #[.int .i64 1,.int .i64 0,.slice none 0 0,.int .i64 0,.string ⟨#[]⟩,.int .i64 0,.int .i64 0,.slice none 0 0,.int .i64 0,.slice none 0 0] 41;obtain⟨V,x⟩:∃ V,D.setCell ⟨E.heap.size,2,none⟩ (.slice s.ea s.el s.ec)=V:=⟨_,rfl⟩;have g:V.heap[E.heap.size]? = some (.cells #[.int .i64 1,.int .i64 0,.slice s.ea s.el s.ec,.int .i64 0,.string ⟨#[]⟩,.int .i64 0,.int .i64 0,.slice none 0 0,.int .i64 0,.slice none 0 0] 41 (0,0)):=by rw[<- x];exact (hSk C _)
 have c:Bw E V:=by rw[<- x];exact (b.setCell (p:=⟨E.heap.size,2,none⟩) (Nat.le_refl _) _)
 have L:Bw Q D:=F.trans (b.mono F.size);have G:Bw Q V:=F.trans (c.mono F.size);have B:w.heap.size<Q.heap.size:=by omega
 have ae:=F.size
 have n:Hid (CR 118 #[.agg #[.slice s.ea s.el s.ec]] V (.bool a)):=by
  have h:=jdv s.ea s.el s.ec H V (U.out.go G).e.1 (Nat.le_trans U.out.e.2.1 U.out.e.2.2.1) v;rw[M] at h;exact h
 obtain⟨c0,c1,c2,c3,c4,c5,c6,c7,c8,c9⟩:=jam C;obtain⟨f0,f1,f2,f3,f4,f5,f6,f7,f8,f9⟩:=jbL C;have e1:D.setCell ⟨E.heap.size,1,none⟩ (.int .i64 0)=D:=jaa C rfl;have e2:D.setCell ⟨E.heap.size,2,none⟩ (.slice none 0 0)=D:=jaa C rfl;have e3:D.setCell ⟨E.heap.size,3,none⟩ (.int .i64 0)=D:=jaa C rfl;have e4:D.setCell ⟨E.heap.size,4,none⟩ (.string ⟨#[]⟩)=D:=jaa C rfl;have e5:D.setCell ⟨E.heap.size,5,none⟩ (.int .i64 0)=D:=jaa C rfl;have e6:D.setCell ⟨E.heap.size,6,none⟩ (.int .i64 0)=D:=jaa C rfl;have e7:D.setCell ⟨E.heap.size,7,none⟩ (.slice none 0 0)=D:=jaa C rfl;have e8:D.setCell ⟨E.heap.size,8,none⟩ (.int .i64 0)=D:=jaa C rfl;have e9:D.setCell ⟨E.heap.size,9,none⟩ (.slice none 0 0)=D:=jaa C rfl;have p0:=(F.cell (p:=⟨w.heap.size,0,none⟩) B).trans k;have p1:=(F.cell (p:=⟨w.heap.size,1,none⟩) B).trans l;have a0:=(L.cell (p:=⟨w.heap.size,0,none⟩) B).trans k;have a1:=(L.cell (p:=⟨w.heap.size,1,none⟩) B).trans l;have a2:=(L.cell (p:=⟨w.heap.size,2,none⟩) B).trans q;have b0:=(G.cell (p:=⟨w.heap.size,0,none⟩) B).trans k;have b1:=(G.cell (p:=⟨w.heap.size,1,none⟩) B).trans l;have b2:=(G.cell (p:=⟨w.heap.size,2,none⟩) B).trans q;have X:=Lib.hid G;have Z:=Lib.hid g;have HR:=Lib.hid M;clear C g c L G M v;go_wp2_with fail;refine n.out.mono ?_;rintro e z ⟨rfl,O⟩;have A:Bw Q z:=X.out.trans (O.mono X.out.size);have i:=(O.block _ (Array.getElem?_eq_some_iff.1 Z.out).1).trans Z.out;have k0:=(A.cell (p:=⟨w.heap.size,0,none⟩) B).trans k;have k1:=(A.cell (p:=⟨w.heap.size,1,none⟩) B).trans l
 have k2:=(A.cell (p:=⟨w.heap.size,2,none⟩) B).trans q;have k3:=(A.cell (p:=⟨w.heap.size,3,none⟩) B).trans d3;have k4:=(A.cell (p:=⟨w.heap.size,4,none⟩) B).trans d4;have k5:=(A.cell (p:=⟨w.heap.size,5,none⟩) B).trans d5;have k6:=(A.cell (p:=⟨w.heap.size,6,none⟩) B).trans d6;have k7:=(A.cell (p:=⟨w.heap.size,7,none⟩) B).trans d7;have k8:=(A.cell (p:=⟨w.heap.size,8,none⟩) B).trans d8;have k9:=(A.cell (p:=⟨w.heap.size,9,none⟩) B).trans d9;obtain⟨m0,m1,m2,m3,m4,m5,m6,m7,m8,m9⟩:=jam i;have r:=ja3 (⟨1,0,H,T,hr,S,R,cl,gf,gl⟩:Sk) (jaQ 1 0 H) s ⟨s.ea,s.el,s.ec,none,0,0,none,0,0⟩ z (U.out.go A) ⟨(U.out.go A).e,jaA,jaA⟩;rw[o.out] at r;have HS:=Lib.hid r;clear r;have I:=Lib.hid A;clear i O A
 cases a with
 | false =>
  go_wp2_with fail;go_ret;exact⟨by rw[Y.out];rfl,J.out.trans (I.out.mono J.out.size)⟩
 | true =>
 go_wp2_with fail;refine HS.out.mono ?_;rintro e w3 ⟨rfl,t⟩;have j:=I.out.trans (t.mono I.out.size);go_wp2_with fail;go_ret;exact⟨by rw[Y.out];rfl,J.out.trans (j.mono J.out.size)⟩
theorem jhv (L:Nat) (aa:1<=L) (ab:L<=4) (m:List Int) (F:Int) (hr:ByteArray) (U T:Int) (cl:List Int) (gf:Int) (gl:List (Int × Int)) (s:SS) (w:World) (z:s.At w.heap.size w (⟨1,L,m,F,hr,U,T,cl,gf,gl⟩:Sk))  :
  CR 65 #[.agg #[.int .i64 1,.int .i64 L,.slice s.ea s.el s.ec,.int .i64 F,.string hr,.int .i64 U,.int .i64 T,.slice s.ca s.cl s.cc,.int .i64 gf,.slice s.ga s.gl s.gc]] w (.bool ((jaT F hr&&(F==8-(L:Int)))&&jaw (⟨1,L,m,F,hr,U,T,cl,gf,gl⟩:Sk) (jbl 1 L F hr))):=by
 obtain⟨S,ac,f,P,ae⟩:=jaf w #[.int .i64 1,.int .i64 L,.slice s.ea s.el s.ec,.int .i64 F,.string hr,.int .i64 U,.int .i64 T,.slice s.ca s.cl s.cc,.int .i64 gf,.slice s.ga s.gl s.gc] 41;have HA:=Lib.hid (z.go P);have I:=Lib.hid P;have n:Hid (∀ W,Calls Tryz.prog 117 #[.int .i64 1] W fun e w'=>e=.returned (.int .i64 4)/\w'=W):=fun W=>(jaO 1 W).mono fun e w' ⟨h1,h2⟩=>⟨h1,h2.symm⟩
 obtain⟨k,l,y,r,t,d5,d6,d7,d8,d9⟩:=jam f;clear f P z;have t0:((L:Int)==0)=false:=by rw[beq_eq_false_iff_ne];omega
 have t2:¬ (4:Int)<(L:Int):=by omega
 have t3:¬ (L:Int)<0:=by omega
 obtain⟨Z,N⟩:∃ Z,jaT F hr=Z:=⟨_,rfl⟩;obtain⟨q0,x⟩:∃ c,(F==8-(L:Int))=c:=⟨_,rfl⟩;have O:Hid ((jaT F hr&&(F==8-(L:Int)))=(Z&&q0)):=by rw[Hid,N,x]
 obtain⟨sR,R⟩:∃ sR,jaw (⟨1,L,m,F,hr,U,T,cl,gf,gl⟩:Sk) (jbl 1 L F hr)=sR:=⟨_,rfl⟩;have q:=Lib.hid R;rw[R];clear R;go_enter Tryz.func65,Tryz.ntmps65;go_wp2_with fail;go_quiet ((go_at_call 117;exact Calls.quiet_of_same (n.out _)));obtain⟨E,d⟩:∃ E,S.drewN nq=E:=⟨_,rfl⟩;have G:Bw S E:=by rw[<- d];exact bDr (Below.refl _ _) _
 rw[d];obtain⟨D,ad,C,a,af⟩:=jaf E #[.int .i64 1,.int .i64 L,.slice none 0 0,.int .i64 0,.string ⟨#[]⟩,.int .i64 0,.int .i64 0,.slice none 0 0,.int .i64 0,.slice none 0 0] 41;obtain⟨V,hV⟩:∃ V,(D.setCell ⟨E.heap.size,3,none⟩ (.int .i64 F)).setCell ⟨E.heap.size,4,none⟩ (.string hr)=V:=⟨_,rfl⟩;have g:V.heap[E.heap.size]? = some (.cells #[.int .i64 1,.int .i64 L,.slice none 0 0,.int .i64 F,.string hr,.int .i64 0,.int .i64 0,.slice none 0 0,.int .i64 0,.slice none 0 0] 41 (0,0)):=by rw[<- hV];exact (hSk (hSk C _) _)
 have b:Bw E V:=by rw[<- hV];exact ((a.setCell (p:=⟨E.heap.size,3,none⟩) (Nat.le_refl _) _).setCell (p:=⟨E.heap.size,4,none⟩) (Nat.le_refl _) _)
 have J:Bw S D:=G.trans (a.mono G.size);have M:Bw S V:=G.trans (b.mono G.size);have A:w.heap.size<S.heap.size:=by omega
 have ag:=G.size
 have o:Hid (CR 119 #[.agg #[.int .i64 F,.string hr]] V (.bool Z)):=by
  have h:=jeR F hr V;rw[N] at h;exact h
 obtain⟨c0,c1,c2,c3,c4,c5,c6,c7,c8,c9⟩:=jam C;obtain⟨f0,f1,f2,f3,f4,f5,f6,f7,f8,f9⟩:=jbL C;have e1:D.setCell ⟨E.heap.size,1,none⟩ (.int .i64 L)=D:=jaa C rfl;have e2:D.setCell ⟨E.heap.size,2,none⟩ (.slice none 0 0)=D:=jaa C rfl;have e3:D.setCell ⟨E.heap.size,3,none⟩ (.int .i64 0)=D:=jaa C rfl;have e4:D.setCell ⟨E.heap.size,4,none⟩ (.string ⟨#[]⟩)=D:=jaa C rfl;have e5:D.setCell ⟨E.heap.size,5,none⟩ (.int .i64 0)=D:=jaa C rfl;have e6:D.setCell ⟨E.heap.size,6,none⟩ (.int .i64 0)=D:=jaa C rfl;have e7:D.setCell ⟨E.heap.size,7,none⟩ (.slice none 0 0)=D:=jaa C rfl;have e8:D.setCell ⟨E.heap.size,8,none⟩ (.int .i64 0)=D:=jaa C rfl;have e9:D.setCell ⟨E.heap.size,9,none⟩ (.slice none 0 0)=D:=jaa C rfl;have p0:=(G.cell (p:=⟨w.heap.size,0,none⟩) A).trans k;have p1:=(G.cell (p:=⟨w.heap.size,1,none⟩) A).trans l;have a0:=(J.cell (p:=⟨w.heap.size,0,none⟩) A).trans k;have a1:=(J.cell (p:=⟨w.heap.size,1,none⟩) A).trans l;have a2:=(J.cell (p:=⟨w.heap.size,2,none⟩) A).trans y;have a3:=(J.cell (p:=⟨w.heap.size,3,none⟩) A).trans r;have a4:=(J.cell (p:=⟨w.heap.size,4,none⟩) A).trans t;have b0:=(M.cell (p:=⟨w.heap.size,0,none⟩) A).trans k;have b1:=(M.cell (p:=⟨w.heap.size,1,none⟩) A).trans l;have b3:=(M.cell (p:=⟨w.heap.size,3,none⟩) A).trans r;have b4:=(M.cell (p:=⟨w.heap.size,4,none⟩) A).trans t;have X:=Lib.hid M;have Y:=Lib.hid g;have HR:=Lib.hid N;clear C g b J M N;go_wp2_with fail;refine o.out.mono ?_;rintro e w2 ⟨rfl,Q⟩;have B:Bw S w2:=X.out.trans (Q.mono X.out.size)
 have i:=(Q.block _ (Array.getElem?_eq_some_iff.1 Y.out).1).trans Y.out;have k0:=(B.cell (p:=⟨w.heap.size,0,none⟩) A).trans k;have k1:=(B.cell (p:=⟨w.heap.size,1,none⟩) A).trans l;have k2:=(B.cell (p:=⟨w.heap.size,2,none⟩) A).trans y;have k3:=(B.cell (p:=⟨w.heap.size,3,none⟩) A).trans r;have k4:=(B.cell (p:=⟨w.heap.size,4,none⟩) A).trans t;have k5:=(B.cell (p:=⟨w.heap.size,5,none⟩) A).trans d5;have k6:=(B.cell (p:=⟨w.heap.size,6,none⟩) A).trans d6;have k7:=(B.cell (p:=⟨w.heap.size,7,none⟩) A).trans d7;have k8:=(B.cell (p:=⟨w.heap.size,8,none⟩) A).trans d8;have k9:=(B.cell (p:=⟨w.heap.size,9,none⟩) A).trans d9;obtain⟨m0,m1,m2,m3,m4,m5,m6,m7,m8,m9⟩:=jam i;have u:=ja3 (⟨1,L,m,F,hr,U,T,cl,gf,gl⟩:Sk) (jbl 1 L F hr) s ⟨none,0,0,none,0,0,none,0,0⟩ w2 (HA.out.go B) ⟨jaA,jaA,jaA⟩;rw[q.out] at u;have HS:=Lib.hid u;clear u;have H:=Lib.hid B;clear i Q B
 cases Z with
 | false =>
  go_wp2_with fail;go_ret;exact⟨by rw[O.out];rfl,I.out.trans (H.out.mono I.out.size)⟩
 | true =>
 cases q0 with
 | false =>
  go_wp2_with fail;go_ret;exact⟨by rw[O.out];rfl,I.out.trans (H.out.mono I.out.size)⟩
 | true =>
 go_wp2_with fail;refine HS.out.mono ?_;rintro e w3 ⟨rfl,v⟩;have j:=H.out.trans (v.mono H.out.size);go_wp2_with fail;go_ret;exact⟨by rw[O.out];rfl,I.out.trans (j.mono I.out.size)⟩
theorem jht (L:Nat) (aa:L<=3) (o:List Int) (U:Int) (hr:ByteArray) (T S:Int) (cl:List Int) (gf:Int) (gl:List (Int × Int)) (s:SS) (w:World) (hA:s.At w.heap.size w (⟨3,L,o,U,hr,T,S,cl,gf,gl⟩:Sk)) (hU:jsG gl) :
  CR 65 #[.agg #[.int .i64 3,.int .i64 L,.slice s.ea s.el s.ec,.int .i64 U,.string hr,.int .i64 T,.int .i64 S,.slice s.ca s.cl s.cc,.int .i64 gf,.slice s.ga s.gl s.gc]] w (.bool ((jaP gf gl&&(gf==3-(L:Int)))&&jaw (⟨3,L,o,U,hr,T,S,cl,gf,gl⟩:Sk) (jbv 3 L gf gl))):=by
 obtain⟨R,ab,i,O,ad⟩:=jaf w #[.int .i64 3,.int .i64 L,.slice s.ea s.el s.ec,.int .i64 U,.string hr,.int .i64 T,.int .i64 S,.slice s.ca s.cl s.cc,.int .i64 gf,.slice s.ga s.gl s.gc] 41;have X:=Lib.hid (hA.go O);have I:=Lib.hid O;have q:Hid (∀ W,Calls Tryz.prog 117 #[.int .i64 3] W fun e w'=>e=.returned (.int .i64 3)/\w'=W):=fun W=>(jaO 3 W).mono fun e w' ⟨h1,h2⟩=>⟨h1,h2.symm⟩
 obtain⟨m,n,d2,d3,d4,d5,d6,d7,u,v⟩:=jam i;clear i O hA;have t2:¬ (3:Int)<(L:Int):=by omega
 have t3:¬ (L:Int)<0:=by omega
 obtain⟨a,M⟩:∃ a,jaP gf gl=a:=⟨_,rfl⟩;obtain⟨q0,z⟩:∃ c,(gf==3-(L:Int))=c:=⟨_,rfl⟩;have N:Hid ((jaP gf gl&&(gf==3-(L:Int)))=(a&&q0)):=by rw[Hid,M,z]
 obtain⟨sR,Q⟩:∃ sR,jaw (⟨3,L,o,U,hr,T,S,cl,gf,gl⟩:Sk) (jbv 3 L gf gl)=sR:=⟨_,rfl⟩;have t:=Lib.hid Q;rw[Q];clear Q;go_enter Tryz.func65,Tryz.ntmps65;go_wp2_with fail;go_quiet ((go_at_call 117;exact Calls.quiet_of_same (q.out _)));obtain⟨E,f⟩:∃ E,R.drewN nq=E:=⟨_,rfl⟩;have G:Bw R E:=by rw[<- f];exact bDr (Below.refl _ _) _
 rw[f];obtain⟨D,ac,C,b,ae⟩:=jaf E #[.int .i64 3,.int .i64 L,.slice none 0 0,.int .i64 0,.string ⟨#[]⟩,.int .i64 0,.int .i64 0,.slice none 0 0,.int .i64 0,.slice none 0 0] 41;obtain⟨V,hV⟩:∃ V,(D.setCell ⟨E.heap.size,8,none⟩ (.int .i64 gf)).setCell ⟨E.heap.size,9,none⟩ (.slice s.ga s.gl s.gc)=V:=⟨_,rfl⟩;have j:V.heap[E.heap.size]? = some (.cells #[.int .i64 3,.int .i64 L,.slice none 0 0,.int .i64 0,.string ⟨#[]⟩,.int .i64 0,.int .i64 0,.slice none 0 0,.int .i64 gf,.slice s.ga s.gl s.gc] 41 (0,0)):=by rw[<- hV];exact (hSk (hSk C _) _)
 have d:Bw E V:=by rw[<- hV];exact ((b.setCell (p:=⟨E.heap.size,8,none⟩) (Nat.le_refl _) _).setCell (p:=⟨E.heap.size,9,none⟩) (Nat.le_refl _) _)
 have J:Bw R D:=G.trans (b.mono G.size);have F:Bw R V:=G.trans (d.mono G.size);have B:w.heap.size<R.heap.size:=by omega
 have af:=G.size
 have r:Hid (CR 121 #[.agg #[.int .i64 gf,.slice s.ga s.gl s.gc]] V (.bool a)):=by
  have h:=jeT gf s.ga s.gl s.gc gl V (X.out.go F).g.1 (Nat.le_trans X.out.g.2.1 X.out.g.2.2.1) hU;rw[M] at h;exact h
 obtain⟨c0,c1,c2,c3,c4,c5,c6,c7,c8,c9⟩:=jam C;obtain⟨f0,f1,f2,f3,f4,f5,f6,f7,f8,f9⟩:=jbL C;have e1:D.setCell ⟨E.heap.size,1,none⟩ (.int .i64 L)=D:=jaa C rfl;have e2:D.setCell ⟨E.heap.size,2,none⟩ (.slice none 0 0)=D:=jaa C rfl;have e3:D.setCell ⟨E.heap.size,3,none⟩ (.int .i64 0)=D:=jaa C rfl;have e4:D.setCell ⟨E.heap.size,4,none⟩ (.string ⟨#[]⟩)=D:=jaa C rfl;have e5:D.setCell ⟨E.heap.size,5,none⟩ (.int .i64 0)=D:=jaa C rfl;have e6:D.setCell ⟨E.heap.size,6,none⟩ (.int .i64 0)=D:=jaa C rfl;have e7:D.setCell ⟨E.heap.size,7,none⟩ (.slice none 0 0)=D:=jaa C rfl;have e8:D.setCell ⟨E.heap.size,8,none⟩ (.int .i64 0)=D:=jaa C rfl;have e9:D.setCell ⟨E.heap.size,9,none⟩ (.slice none 0 0)=D:=jaa C rfl;have p0:=(G.cell (p:=⟨w.heap.size,0,none⟩) B).trans m;have p1:=(G.cell (p:=⟨w.heap.size,1,none⟩) B).trans n;have a0:=(J.cell (p:=⟨w.heap.size,0,none⟩) B).trans m;have a1:=(J.cell (p:=⟨w.heap.size,1,none⟩) B).trans n;have a2:=(J.cell (p:=⟨w.heap.size,2,none⟩) B).trans d2;have a8:=(J.cell (p:=⟨w.heap.size,8,none⟩) B).trans u;have a9:=(J.cell (p:=⟨w.heap.size,9,none⟩) B).trans v;have b0:=(F.cell (p:=⟨w.heap.size,0,none⟩) B).trans m;have b1:=(F.cell (p:=⟨w.heap.size,1,none⟩) B).trans n;have b8:=(F.cell (p:=⟨w.heap.size,8,none⟩) B).trans u;have b9:=(F.cell (p:=⟨w.heap.size,9,none⟩) B).trans v;have Y:=Lib.hid F;have Z:=Lib.hid j;have HR:=Lib.hid M;clear C j d J F M hU;go_wp2_with fail;refine r.out.mono ?_;rintro e w2 ⟨rfl,P⟩;have A:Bw R w2:=Y.out.trans (P.mono Y.out.size)
 have k:=(P.block _ (Array.getElem?_eq_some_iff.1 Z.out).1).trans Z.out;have k0:=(A.cell (p:=⟨w.heap.size,0,none⟩) B).trans m;have k1:=(A.cell (p:=⟨w.heap.size,1,none⟩) B).trans n;have k2:=(A.cell (p:=⟨w.heap.size,2,none⟩) B).trans d2;have k3:=(A.cell (p:=⟨w.heap.size,3,none⟩) B).trans d3;have k4:=(A.cell (p:=⟨w.heap.size,4,none⟩) B).trans d4;have k5:=(A.cell (p:=⟨w.heap.size,5,none⟩) B).trans d5;have k6:=(A.cell (p:=⟨w.heap.size,6,none⟩) B).trans d6;have k7:=(A.cell (p:=⟨w.heap.size,7,none⟩) B).trans d7;have k8:=(A.cell (p:=⟨w.heap.size,8,none⟩) B).trans u;have k9:=(A.cell (p:=⟨w.heap.size,9,none⟩) B).trans v;obtain⟨m0,m1,m2,m3,m4,m5,m6,m7,m8,m9⟩:=jam k;have x:=ja3 (⟨3,L,o,U,hr,T,S,cl,gf,gl⟩:Sk) (jbv 3 L gf gl) s ⟨none,0,0,none,0,0,s.ga,s.gl,s.gc⟩ w2 (X.out.go A) ⟨jaA,jaA,(X.out.go A).g⟩;rw[t.out] at x;have HS:=Lib.hid x;clear x;have H:=Lib.hid A;clear k P A
 cases a with
 | false =>
  go_wp2_with fail;go_ret;exact⟨by rw[N.out];rfl,I.out.trans (H.out.mono I.out.size)⟩
 | true =>
 cases q0 with
 | false =>
  go_wp2_with fail;go_ret;exact⟨by rw[N.out];rfl,I.out.trans (H.out.mono I.out.size)⟩
 | true =>
 go_wp2_with fail;refine HS.out.mono ?_;rintro e w3 ⟨rfl,y⟩;have l:=H.out.trans (y.mono H.out.size);go_wp2_with fail;go_ret;exact⟨by rw[N.out];rfl,I.out.trans (l.mono I.out.size)⟩
theorem jgP (L c:Int) (aj:L=0/\c=32\/L=1/\c=16\/L=2/\c=8\/L=3/\c=4) (el:List Int) (O:Int) (hr:ByteArray) (G E:Int) (cl:List Int) (gf:Int) (gl:List (Int × Int)) (s:SS) (w:World) (hA:s.At w.heap.size w (⟨2,L,el,O,hr,G,E,cl,gf,gl⟩:Sk)) (hU:I64 E) :
  CR 65 #[.agg #[.int .i64 2,.int .i64 L,.slice s.ea s.el s.ec,.int .i64 O,.string hr,.int .i64 G,.int .i64 E,.slice s.ca s.cl s.cc,.int .i64 gf,.slice s.ga s.gl s.gc]] w (.bool ((jaN G E cl&&(G==2)&&(E==c))&&jaw (⟨2,L,el,O,hr,G,E,cl,gf,gl⟩:Sk) (jba 2 L G E cl))):=by
 obtain⟨H,au,aa,f,aw⟩:=jaf w #[.int .i64 2,.int .i64 L,.slice s.ea s.el s.ec,.int .i64 O,.string hr,.int .i64 G,.int .i64 E,.slice s.ca s.cl s.cc,.int .i64 gf,.slice s.ga s.gl s.gc] 41;have HC:Hid (∀ W,Bw H W->SlC jaG 1 W.heap.size W s.ca s.cl s.cc cl):=fun W O=>((hA.go f).go O).c
 have M:=Lib.hid f;have ah:Hid (∀ W,Calls Tryz.prog 117 #[.int .i64 2] W fun e w'=>e=.returned (.int .i64 3)/\w'=W):=fun W=>(jaO 2 W).mono fun e w' ⟨h1,h2⟩=>⟨h1,h2.symm⟩
 obtain⟨U,T,l,r,t,Z,a,d,u,v⟩:=jam aa;obtain⟨S,j⟩:∃ S,jaN G E cl=S:=⟨_,rfl⟩;obtain⟨m,am⟩:∃ m,(G==2)=m:=⟨_,rfl⟩;obtain⟨q1,an⟩:∃ q1,(E==c)=q1:=⟨_,rfl⟩;obtain⟨sR,k⟩:∃ sR,jaw (⟨2,L,el,O,hr,G,E,cl,gf,gl⟩:Sk) (jba 2 L G E cl)=sR:=⟨_,rfl⟩
 have n:Hid (∀ W,Bw H W->CR 13 #[.agg #[.int .i64 2,.int .i64 L,.slice s.ea s.el s.ec,.int .i64 O,.string hr,.int .i64 G,.int .i64 E,.slice s.ca s.cl s.cc,.int .i64 gf,.slice s.ga s.gl s.gc],.agg #[.int .i64 2,.int .i64 L,.slice none 0 0,.int .i64 0,.string ⟨#[]⟩,.int .i64 G,.int .i64 E,.slice s.ca s.cl s.cc,.int .i64 0,.slice none 0 0]] W (.bool sR)):=fun W ae=>by
  have h:=ja3 (⟨2,L,el,O,hr,G,E,cl,gf,gl⟩:Sk) (jba 2 L G E cl) s ⟨none,0,0,s.ca,s.cl,s.cc,none,0,0⟩ W ((hA.go M.out).go ae) ⟨jaA,((hA.go M.out).go ae).c,jaA⟩;rw[k] at h;exact h
 have q:=Lib.hid j;rw[j,am,an,k];have HZ:=Lib.hid (fun F:World=>jaf F #[.int .i64 2,.int .i64 L,.slice none 0 0,.int .i64 0,.string ⟨#[]⟩,.int .i64 0,.int .i64 0,.slice none 0 0,.int .i64 0,.slice none 0 0] 41);have HY:Hid (∀ (b:Nat) (D:World),D.heap[b]? = some (.cells #[.int .i64 2,.int .i64 L,.slice none 0 0,.int .i64 0,.string ⟨#[]⟩,.int .i64 0,.int .i64 0,.slice none 0 0,.int .i64 0,.slice none 0 0] 41 (0,0))->D.setCell ⟨b,1,none⟩ (.int .i64 L)=D/\(((D.setCell ⟨b,5,none⟩ (.int .i64 G)).setCell ⟨b,6,none⟩ (.int .i64 E)).setCell ⟨b,7,none⟩ (.slice s.ca s.cl s.cc)).heap[b]? = some (.cells #[.int .i64 2,.int .i64 L,.slice none 0 0,.int .i64 0,.string ⟨#[]⟩,.int .i64 G,.int .i64 E,.slice s.ca s.cl s.cc,.int .i64 0,.slice none 0 0] 41 (0,0))):=fun b D h=>⟨jaa h rfl,(hSk (hSk (hSk h _) _) _)⟩
 have HD:Hid (H.cell? ⟨w.heap.size,0,none⟩=some (.int .i64 2)/\H.cell? ⟨w.heap.size,1,none⟩=some (.int .i64 L)/\H.cell? ⟨w.heap.size,2,none⟩=some (.slice s.ea s.el s.ec)/\H.cell? ⟨w.heap.size,3,none⟩=some (.int .i64 O)/\H.cell? ⟨w.heap.size,4,none⟩=some (.string hr)/\H.cell? ⟨w.heap.size,5,none⟩=some (.int .i64 G)/\H.cell? ⟨w.heap.size,6,none⟩=some (.int .i64 E)/\H.cell? ⟨w.heap.size,7,none⟩=some (.slice s.ca s.cl s.cc)/\H.cell? ⟨w.heap.size,8,none⟩=some (.int .i64 gf)/\H.cell? ⟨w.heap.size,9,none⟩=some (.slice s.ga s.gl s.gc)):=⟨U,T,l,r,t,Z,a,d,u,v⟩;have A:w.heap.size<H.heap.size:=by omega
 clear aa f hA k j;obtain⟨rfl,rfl⟩ | ⟨rfl,rfl⟩ | ⟨rfl,rfl⟩ | ⟨rfl,rfl⟩:=aj
 all_goals
  go_enter Tryz.func65,Tryz.ntmps65;go_wp2_with fail;go_quiet ((go_at_call 117;exact Calls.quiet_of_same (ah.out _)));obtain⟨F,z⟩:∃ F,H.drewN nq=F:=⟨_,rfl⟩;have J:Bw H F:=by rw[<- z];exact bDr (Below.refl _ _) _
  rw[z];obtain⟨D,av,C,x,ax⟩:=HZ.out F;obtain⟨e1,i⟩:=HY.out _ _ C;obtain⟨V,hV⟩:∃ V,((D.setCell ⟨F.heap.size,5,none⟩ (.int .i64 G)).setCell ⟨F.heap.size,6,none⟩ (.int .i64 E)).setCell ⟨F.heap.size,7,none⟩ (.slice s.ca s.cl s.cc)=V:=⟨_,rfl⟩;rw[hV] at i;have y:Bw F V:=by rw[<- hV];exact (((x.setCell (p:=⟨F.heap.size,5,none⟩) (Nat.le_refl _) _).setCell (p:=⟨F.heap.size,6,none⟩) (Nat.le_refl _) _).setCell (p:=⟨F.heap.size,7,none⟩) (Nat.le_refl _) _)
  have I:Bw H D:=J.trans (x.mono J.size);have ad:Bw H V:=J.trans (y.mono J.size);have ay:=J.size;obtain⟨c0,c1,c2,c3,c4,c5,c6,c7,c8,c9⟩:=jam C;obtain⟨f0,f1,f2,f3,f4,f5,f6,f7,f8,f9⟩:=jbL C;have e2:D.setCell ⟨F.heap.size,2,none⟩ (.slice none 0 0)=D:=jaa C rfl;have e3:D.setCell ⟨F.heap.size,3,none⟩ (.int .i64 0)=D:=jaa C rfl;have e4:D.setCell ⟨F.heap.size,4,none⟩ (.string ⟨#[]⟩)=D:=jaa C rfl;have e5:D.setCell ⟨F.heap.size,5,none⟩ (.int .i64 0)=D:=jaa C rfl;have e6:D.setCell ⟨F.heap.size,6,none⟩ (.int .i64 0)=D:=jaa C rfl;have e7:D.setCell ⟨F.heap.size,7,none⟩ (.slice none 0 0)=D:=jaa C rfl;have e8:D.setCell ⟨F.heap.size,8,none⟩ (.int .i64 0)=D:=jaa C rfl;have e9:D.setCell ⟨F.heap.size,9,none⟩ (.slice none 0 0)=D:=jaa C rfl;have p0:=(J.cell (p:=⟨w.heap.size,0,none⟩) A).trans U;have p1:=(J.cell (p:=⟨w.heap.size,1,none⟩) A).trans T;have a0:=(I.cell (p:=⟨w.heap.size,0,none⟩) A).trans U;have a1:=(I.cell (p:=⟨w.heap.size,1,none⟩) A).trans T;have a2:=(I.cell (p:=⟨w.heap.size,2,none⟩) A).trans l;have a5:=(I.cell (p:=⟨w.heap.size,5,none⟩) A).trans Z;have a6:=(I.cell (p:=⟨w.heap.size,6,none⟩) A).trans a;have a7:=(I.cell (p:=⟨w.heap.size,7,none⟩) A).trans d;have Q:=Lib.hid ad;have o:=Lib.hid i;clear C i y I ad;go_wp2_with fail;let Inv:World->Prop:=fun W=>Bw V W
  have af:∀ W W',Inv W->Bw W W'->Inv W':=fun W W' h O=>Below.trans h (O.mono (Below.size h))
  have N:∀ X:WIn Inv,Bw H X.world:=fun X=>Q.out.trans (Below.mono X.ok Q.out.size)
  have ao:=fun X:WIn Inv=>((N X).cell (p:=⟨w.heap.size,1,none⟩) A).trans T
  have ap:=fun X:WIn Inv=>((N X).cell (p:=⟨w.heap.size,5,none⟩) A).trans Z
  have aq:=fun X:WIn Inv=>((N X).cell (p:=⟨w.heap.size,6,none⟩) A).trans a
  have ar:=fun X:WIn Inv=>((N X).cell (p:=⟨w.heap.size,7,none⟩) A).trans d
  have K1:Hid (∀ X:WIn Inv,Calls Tryz.prog 120 #[.agg #[.int .i64 G,.int .i64 E,.slice s.ca s.cl s.cc]] X.world fun e w'=>e=.returned (.bool S)/\∃ Y:WIn Inv,w'=Y.world):=fun X=>by
   have h:=jbW G E s.ca s.cl s.cc cl X.world hU (HC.out _ (N X)).1.1;rw[q.out] at h;exact jac af h
  have HQ:Hid (∀ X:WIn Inv,Bw V X.world):=fun X=>X.ok
  have g:Hid (Inv V.drew):=(Below.refl V.heap.size V).drew;have al:Nonempty (WIn Inv):=⟨⟨_,g.out⟩⟩;clear af N U T l r t Z a d u v p0 p1 a0 a1 a2 a5 a6 a7 c0 c1 c2 c3 c4 c5 c6 c7 c8 c9 f0 f1 f2 f3 f4 f5 f6 f7 f8 f9 e1 e2 e3 e4 e5 e6 e7 e8 e9 hU q HZ HY;clear_value Inv;obtain rfl | ⟨rfl,rfl⟩ | ⟨rfl,rfl,rfl⟩ | ⟨rfl,rfl,rfl⟩:S=false\/S=true/\m=false\/S=true/\m=true/\q1=false\/S=true/\m=true/\q1=true:=by cases S<;>cases m<;>cases q1<;>simp
  all_goals
   refine jad Inv (by kernel_rfl) (by kernel_rfl) g.out ?_
   repeat (first | go_big_quiet_step ((go_at_call 120;with_reducible exact K1.out _)) | quiet_step ((go_at_call 120;with_reducible exact K1.out _)))
   refine wpQuiet_nil ?_;rintro _ ⟨X,rfl⟩;have R:=Lib.hid (HQ.out X);obtain⟨w2,ag⟩:∃ w2,X.world=w2:=⟨_,rfl⟩;rw[ag] at R ⊢;have B:Bw H w2:=Q.out.trans (R.out.mono Q.out.size);have P:=Lib.hid B;clear ao ap aq ar HQ K1 g al ag X
  iterate 3
   ·have ai:Hid (Bw w w2):=M.out.trans (P.out.mono M.out.size)
    clear B;go_wp2_with fail;go_ret;exact⟨rfl,ai.out⟩
  obtain⟨U,T,l,r,t,Z,a,d,u,v⟩:=HD.out;have ab:=(R.out.block _ (Array.getElem?_eq_some_iff.1 o.out).1).trans o.out;have k0:=(B.cell (p:=⟨w.heap.size,0,none⟩) A).trans U;have k1:=(B.cell (p:=⟨w.heap.size,1,none⟩) A).trans T;have k2:=(B.cell (p:=⟨w.heap.size,2,none⟩) A).trans l;have k3:=(B.cell (p:=⟨w.heap.size,3,none⟩) A).trans r;have k4:=(B.cell (p:=⟨w.heap.size,4,none⟩) A).trans t;have k5:=(B.cell (p:=⟨w.heap.size,5,none⟩) A).trans Z;have k6:=(B.cell (p:=⟨w.heap.size,6,none⟩) A).trans a;have k7:=(B.cell (p:=⟨w.heap.size,7,none⟩) A).trans d;have k8:=(B.cell (p:=⟨w.heap.size,8,none⟩) A).trans u;have k9:=(B.cell (p:=⟨w.heap.size,9,none⟩) A).trans v;obtain⟨m0,m1,m2,m3,m4,m5,m6,m7,m8,m9⟩:=jam ab;have HS:=Lib.hid (n.out w2 B);clear ab U T l r t Z a d u v B R n HD;go_wp2_with fail;refine HS.out.mono ?_;rintro e w3 ⟨rfl,ak⟩;have ac:=P.out.trans (ak.mono P.out.size);go_wp2_with fail;go_ret;exact⟨rfl,M.out.trans (ac.mono M.out.size)⟩
theorem jiI (x:Sk) (s:SS) (w:World) (h:x.level<0\/jaF x.kind<x.level) :
  CR 65 #[.agg #[.int .i64 x.kind,.int .i64 x.level,.slice s.ea s.el s.ec,.int .i64 x.hb,.string x.hr,.int .i64 x.cr,.int .i64 x.cc,.slice s.ca s.cl s.cc,.int .i64 x.gf,.slice s.ga s.gl s.gc]] w (.bool false):=by
 obtain⟨J,H,D,C,I⟩:=jaf w #[.int .i64 x.kind,.int .i64 x.level,.slice s.ea s.el s.ec,.int .i64 x.hb,.string x.hr,.int .i64 x.cr,.int .i64 x.cc,.slice s.ca s.cl s.cc,.int .i64 x.gf,.slice s.ga s.gl s.gc] 41;have B:=Lib.hid C;have A:Hid (∀ W,Calls Tryz.prog 117 #[.int .i64 x.kind] W fun e w'=>e=.returned (.int .i64 (jaF x.kind))/\w'=W):=fun W=>(jaO x.kind W).mono fun e w' ⟨E,G⟩=>⟨E,G.symm⟩
 obtain⟨L,M,N,O,P,Q,R,S,T,U⟩:=jam D;clear D C;generalize jaF x.kind=bt at h A;by_cases F:x.level<0
 ·clear h
  go_enter Tryz.func65,Tryz.ntmps65;go_wp2_with fail;go_quiet ((go_at_call 117;exact Calls.quiet_of_same (A.out _)));go_wp2_with fail;go_ret;exact⟨rfl,B.out.trans (bDr (Below.refl _ _) _)⟩
 ·have E:bt<x.level:=by rcases h with h | h;exact absurd h F;exact h
  clear h;go_enter Tryz.func65,Tryz.ntmps65;go_wp2_with fail;go_quiet ((go_at_call 117;exact Calls.quiet_of_same (A.out _)));go_wp2_with fail;go_ret;exact⟨rfl,B.out.trans (bDr (Below.refl _ _) _)⟩
theorem jaU (x:Sk) (s:SS) (w:World) (H:s.At w.heap.size w x) (U:jc8 x.e) (N:I64 x.cc) (V:jsG x.gl) :
  CR 65 #[.agg #[.int .i64 x.kind,.int .i64 x.level,.slice s.ea s.el s.ec,.int .i64 x.hb,.string x.hr,.int .i64 x.cr,.int .i64 x.cc,.slice s.ca s.cl s.cc,.int .i64 x.gf,.slice s.ga s.gl s.gc]] w (.bool (jcc x)):=by
 by_cases I:x.level<0\/jaF x.kind<x.level
 ·have:jcc x=false:=by
   unfold jcc;have:(decide (0<=x.level)&&decide (x.level<=jaF x.kind))=false:=by rw[Bool.and_eq_false_iff,decide_eq_false_iff_not,decide_eq_false_iff_not];omega
   rw[this];simp
  rw[this];exact jiI x s w I
 obtain⟨A,G,E,D,hr,C,B,cl,gf,gl⟩:=x;dsimp only at I U N V H ⊢
 have Y:A=1\/A=2\/A=3:=by
  unfold jaF at I;by_cases Q:A=1
  ·exact .inl Q
  by_cases R:A=2
  ·exact .inr (.inl R)
  by_cases S:A=3
  ·exact .inr (.inr S)
  rw[if_neg (by simpa using Q),if_neg (by simp[R,S])] at I;omega
 obtain⟨L,rfl⟩:∃ L:Nat,G=L:=⟨G.toNat,by omega⟩
 have P:jcc ⟨A,L,E,D,hr,C,B,cl,gf,gl⟩=(jaM ⟨A,L,E,D,hr,C,B,cl,gf,gl⟩&&jaw ⟨A,L,E,D,hr,C,B,cl,gf,gl⟩ (ja9 ⟨A,L,E,D,hr,C,B,cl,gf,gl⟩)):=by
  unfold jcc;dsimp only;rw[decide_eq_true (show 1<=A by omega),decide_eq_true (show A<=3 by omega),decide_eq_true (show (0:Int)<=L by omega),decide_eq_true (show (L:Int)<=jaF A by omega)];rfl
 rw[P];rcases Y with rfl | rfl | rfl
 ·have F:jaF 1=4:=rfl
  rw[F] at I;by_cases X:L=0
  ·subst X
   exact jhu E D hr C B cl gf gl s w H U
  ·have T:((L:Int)==0)=false:=by rw[beq_eq_false_iff_ne];omega
   have h:=jhv L (by omega) (by omega) E D hr C B cl gf gl s w H;have J:jaM ⟨1,L,E,D,hr,C,B,cl,gf,gl⟩=(jaT D hr&&(D==8-(L:Int))):=by unfold jaM;dsimp only;rw[T];rfl
   have O:ja9 ⟨1,L,E,D,hr,C,B,cl,gf,gl⟩=jbl 1 L D hr:=by unfold ja9;dsimp only;rw[T];rfl
   rw[J,O];exact h
 ·have F:jaF 2=3:=rfl
  rw[F] at I;have J:∀ (M:Nat) (c:Int),(32:Int) / 2^((M:Int)).toNat=c->jaM ⟨2,M,E,D,hr,C,B,cl,gf,gl⟩=(jaN C B cl&&(C==2)&&(B==c)):=fun M c h=>by rw[<- h];rfl
  have O:∀ M:Nat,ja9 ⟨2,M,E,D,hr,C,B,cl,gf,gl⟩=jba 2 M C B cl:=fun M=>rfl
  rw[O];obtain rfl | rfl | rfl | rfl:L=0\/L=1\/L=2\/L=3:=by omega
  ·rw[J 0 32 (by decide)];exact jgP 0 32 (by simp) E D hr C B cl gf gl s w H N
  ·rw[J 1 16 (by decide)];exact jgP 1 16 (by simp) E D hr C B cl gf gl s w H N
  ·rw[J 2 8 (by decide)];exact jgP 2 8 (by simp) E D hr C B cl gf gl s w H N
  ·rw[J 3 4 (by decide)];exact jgP 3 4 (by simp) E D hr C B cl gf gl s w H N
 ·have F:jaF 3=3:=rfl
  rw[F] at I;exact jht L (by omega) E D hr C B cl gf gl s w H V
def juQ (l:List (Ser × SerP)):Prop:=∀ e∈l,jc8 e.1.sk.e/\I64 e.1.sk.cc/\jsG e.1.sk.gl
theorem jnX {l:List Ser} {x:Ser} (A:l[0]? = some x):jca (jdt l 0) (l.drop 0)=(jal x.l&&jcc x.sk&&jca (jdt l 1) (l.drop 1)):=by
 rw[jk0 A,jfi A];show (jaV x&&true&&_)=_;rw[Bool.and_true];rfl
theorem jpW {l:List Ser} {k:Nat} {x y:Ser} (B:0<k) (A:l[k]? = some x) (C:l[k-1]? = some y):jca (jdt l k) (l.drop k)=(jal x.l&&jcc x.sk&&jau y.l x.l&&jca (jdt l (k+1)) (l.drop (k+1))):=by
 rw[jk0 A,jfi A,jma B C];rfl
theorem jiN (l:List (Ser × SerP)) (a:Option Addr) (len cap:Nat) (w:World) (hT:Tab w.heap.size w a len cap l) (hF:jdl l) (hN:juQ l) (hm:len<=maxLen) :
  CR 30 #[.slice a len cap] w (.bool (jas (l.map (·.1)))):=by
 unfold maxLen at hm;have u:=Lib.hid hT.row.1.1
 have HL:Hid (jas (l.map (·.1))=(jca (jdt (l.map (·.1)) 0) ((l.map (·.1)).drop 0)&&decide (len<=20))):=by
  rw[Hid,u.out];unfold jas;rw[List.length_map,Bool.and_comm];rfl
 generalize jas (l.map (·.1))=R at HL ⊢;have z:=Lib.hid hT;have HF:=Lib.hid hF;have HM:=Lib.hid hN;clear hT hF hN;go_enter Tryz.func30,Tryz.ntmps30;go_wp2_with fail;go_loopw [3] (fun i wr=>∃ (k:Nat),i=.int .i64 k/\k<=len/\Bw w wr/\Hid (R=(jca (jdt (l.map (·.1)) k) ((l.map (·.1)).drop k)&&decide (len<=20)))) (fun i _=>len-(intOf i).toNat)
 case atStart=>exact⟨0,rfl,Nat.zero_le _,Below.refl _ _,HL⟩
 case round =>
  obtain⟨k,rfl,hk,m,f⟩:=hrel;by_cases ae:k<len
  ·obtain⟨⟨x,p⟩,U⟩:∃ x,l[k]? = some x:=⟨_,List.getElem?_eq_getElem (by have:=u.out;omega)⟩
   obtain⟨b,off,ea,S,C⟩:=z.out.row.1.2 k (x,p) U;subst ea;have i1:(k:Int)<(len:Int):=by omega
   have i0:(0:Int)<=(k:Int):=by omega
   have c:Hid (∀ W,Bw w W->p.At W.heap.size W x):=fun W D=>((z.out.at_ _ (List.mem_of_getElem? U)).below D).mono D.size
   have J:=Lib.hid (HF.out _ (List.mem_of_getElem? U));obtain⟨n1,n2,n3⟩:=HM.out _ (List.mem_of_getElem? U);have HN:Hid (∀ W,Bw w W->CR 64 #[.slice p.la p.ll p.lc] W (.bool (jal x.l))):=fun W D=>jcw _ _ _ _ W (c.out W D).l.1 J.out.lab (by have h9:p.ll<4294967281:=J.out.ll;unfold maxLen;omega)
   have HU:Hid (∀ W,Bw w W->CR 65 #[.agg #[.int .i64 x.sk.kind,.int .i64 x.sk.level,.slice p.ss.ea p.ss.el p.ss.ec,.int .i64 x.sk.hb,.string x.sk.hr,.int .i64 x.sk.cr,.int .i64 x.sk.cc,.slice p.ss.ca p.ss.cl p.ss.cc,.int .i64 x.sk.gf,.slice p.ss.ga p.ss.gl p.ss.gc]] W (.bool (jcc x.sk))):=fun W D=>jaU _ _ W (c.out W D).s n1 n2 n3
   have L:(l.map (·.1))[k]? = some x:=by rw[List.getElem?_map,U];rfl
   clear n1 n2 n3;rcases Nat.eq_zero_or_pos k with r | r
   ·have g0:decide ((0:Int)<(k:Int))=false:=by rw[decide_eq_false_iff_not];omega
    have g1:decide (0<k)=false:=by rw[decide_eq_false_iff_not];omega
    have H:Hid (R=(jal x.l&&jcc x.sk&&jca (jdt (l.map (·.1)) (k+1)) ((l.map (·.1)).drop (k+1))&&decide (len<=20))):=by
     subst r;rw[Hid,f.out,jnX L]
    clear U L r f c J;generalize jal x.l=bn at HN H;generalize jcc x.sk=bv at HU H;let Inv0:World->Prop:=fun W=>Bw w W
    have E:∀ W Q,Inv0 W->Bw W Q->Inv0 Q:=fun W Q h S=>Below.trans h (S.mono (Below.size h))
    have O:Hid (∀ X:WIn Inv0,Calls Tryz.prog 64 #[.slice p.la p.ll p.lc] X.world fun e w'=>e=.returned (.bool bn)/\∃ Y:WIn Inv0,w'=Y.world):=fun X=>jac E (HN.out X.world X.ok)
    have P:Hid (∀ X:WIn Inv0,Calls Tryz.prog 65 #[.agg #[.int .i64 x.sk.kind,.int .i64 x.sk.level,.slice p.ss.ea p.ss.el p.ss.ec,.int .i64 x.sk.hb,.string x.sk.hr,.int .i64 x.sk.cr,.int .i64 x.sk.cc,.slice p.ss.ca p.ss.cl p.ss.cc,.int .i64 x.sk.gf,.slice p.ss.ga p.ss.gl p.ss.gc]] X.world fun e w'=>e=.returned (.bool bv)/\∃ Y:WIn Inv0,w'=Y.world):=fun X=>jac E (HU.out X.world X.ok)
    have M:Hid (∀ X:WIn Inv0,Bw w X.world):=fun X=>X.ok
    have B:∀ (X:WIn Inv0) j v,j<12->w.cell? ⟨b,off+k*12+j,none⟩=some v->X.world.cell? ⟨b,off+k*12+j,none⟩=some v:=fun X j v _ h=>((M.out X).cell (p:=⟨b,off+k*12+j,none⟩) S).trans h
    have q0:∀ X:WIn Inv0,X.world.cell? ⟨b,off+k*12,none⟩=some (.slice p.la p.ll p.lc):=fun X=>B X 0 _ (by decide) (C 0 (by decide))
    have q1:∀ X:WIn Inv0,X.world.cell? ⟨b,off+k*12+1,none⟩=some (.int .i64 x.sk.kind):=fun X=>B X 1 _ (by decide) (C 1 (by decide))
    have q2:∀ X:WIn Inv0,X.world.cell? ⟨b,off+k*12+2,none⟩=some (.int .i64 x.sk.level):=fun X=>B X 2 _ (by decide) (C 2 (by decide))
    have q3:∀ X:WIn Inv0,X.world.cell? ⟨b,off+k*12+3,none⟩=some (.slice p.ss.ea p.ss.el p.ss.ec):=fun X=>B X 3 _ (by decide) (C 3 (by decide))
    have q4:∀ X:WIn Inv0,X.world.cell? ⟨b,off+k*12+4,none⟩=some (.int .i64 x.sk.hb):=fun X=>B X 4 _ (by decide) (C 4 (by decide))
    have q5:∀ X:WIn Inv0,X.world.cell? ⟨b,off+k*12+5,none⟩=some (.string x.sk.hr):=fun X=>B X 5 _ (by decide) (C 5 (by decide))
    have q6:∀ X:WIn Inv0,X.world.cell? ⟨b,off+k*12+6,none⟩=some (.int .i64 x.sk.cr):=fun X=>B X 6 _ (by decide) (C 6 (by decide))
    have q7:∀ X:WIn Inv0,X.world.cell? ⟨b,off+k*12+7,none⟩=some (.int .i64 x.sk.cc):=fun X=>B X 7 _ (by decide) (C 7 (by decide))
    have q8:∀ X:WIn Inv0,X.world.cell? ⟨b,off+k*12+8,none⟩=some (.slice p.ss.ca p.ss.cl p.ss.cc):=fun X=>B X 8 _ (by decide) (C 8 (by decide))
    have q9:∀ X:WIn Inv0,X.world.cell? ⟨b,off+k*12+9,none⟩=some (.int .i64 x.sk.gf):=fun X=>B X 9 _ (by decide) (C 9 (by decide))
    have V:∀ X:WIn Inv0,X.world.cell? ⟨b,off+k*12+10,none⟩=some (.slice p.ss.ga p.ss.gl p.ss.gc):=fun X=>B X 10 _ (by decide) (C 10 (by decide))
    have Z:∀ X:WIn Inv0,X.world.cell? ⟨b,off+k*12+11,none⟩=some (.int .u64 x.seen):=fun X=>B X 11 _ (by decide) (C 11 (by decide))
    have G:Hid (Inv0 (World.drew wr)):=m.drew;have T:Nonempty (WIn Inv0):=⟨⟨_,G.out⟩⟩;clear E m C B;clear_value Inv0;obtain rfl | ⟨rfl,rfl⟩ | ⟨rfl,rfl⟩:bn=false\/bn=true/\bv=false\/bn=true/\bv=true:=by cases bn<;>cases bv<;>simp
    all_goals
     go_wp2_with fail;refine jad Inv0 (by kernel_rfl) (by kernel_rfl) G.out ?_
     repeat (first | go_big_quiet_step ((first | (go_at_call 64;with_reducible exact O.out _) | (go_at_call 65;with_reducible exact P.out _) | (go_at_call 66;with_reducible exact g.out _))) | quiet_step ((first | (go_at_call 64;with_reducible exact O.out _) | (go_at_call 65;with_reducible exact P.out _) | (go_at_call 66;with_reducible exact g.out _))))
     refine wpQuiet_nil ?_;rintro _ ⟨X,rfl⟩;have A:=M.out X;obtain⟨t,F⟩:∃ t,X.world=t:=⟨_,rfl⟩;rw[F] at A ⊢;clear M O P q0 q1 q2 q3 q4 q5 q6 q7 q8 q9 V Z G T F X;go_wp2_with fail
    ·go_ret
     exact⟨by rw[H.out];rfl,A⟩
    ·go_ret
     exact⟨by rw[H.out];rfl,A⟩
    ·go_roundw
     case rel=>exact⟨k+1,by go_num,by omega,A,H.out⟩
     case measure=>simp[intOf];omega
   ·have g0:decide ((0:Int)<(k:Int))=true:=by rw[decide_eq_true_iff];omega
    have g1:decide (0<k)=true:=decide_eq_true r;obtain⟨⟨y,I⟩,o⟩:∃ x,l[k-1]? = some x:=⟨_,List.getElem?_eq_getElem (by have:=u.out;omega)⟩;obtain⟨b',ac,aa,-,n⟩:=z.out.row.1.2 (k-1) (y,I) o
    cases aa
    have d:Hid (∀ W,Bw w W->I.At W.heap.size W y):=fun W D=>((z.out.at_ _ (List.mem_of_getElem? o)).below D).mono D.size
    have N:=Lib.hid (HF.out _ (List.mem_of_getElem? o));have HZ:Hid (∀ W,Bw w W->CR 66 #[.slice I.la I.ll I.lc,.slice p.la p.ll p.lc] W (.bool (jau y.l x.l))):=fun W D=>jja _ _ _ _ _ _ _ _ W (d.out W D).l.1 (c.out W D).l.1 N.out.lab (by have h9:I.ll<4294967281:=N.out.ll;unfold maxLen;omega)
    have q:(l.map (·.1))[k-1]? = some y:=by rw[List.getElem?_map,o];rfl
    have H:Hid (R=(jal x.l&&jcc x.sk&&jau y.l x.l&&jca (jdt (l.map (·.1)) (k+1)) ((l.map (·.1)).drop (k+1))&&decide (len<=20))):=by
     rw[Hid,f.out,jpW r L q]
    have j0:wrap64 ((k:Int)-1)=((k-1:Nat):Int):=by rw[show ((k:Int)-1)=((k-1:Nat):Int) by omega];exact IntWalk.wrap64_in ((k-1:Nat):Int) (by omega)
    have j1:((k-1:Nat):Int)<(len:Int):=by omega
    have j2:(0:Int)<=((k-1:Nat):Int):=Int.natCast_nonneg _;clear U L o q f c J d N;generalize jal x.l=bn at HN H;generalize jcc x.sk=bv at HU H;generalize jau y.l x.l=bz at HZ H;let Inv0:World->Prop:=fun W=>Bw w W
    have E:∀ W Q,Inv0 W->Bw W Q->Inv0 Q:=fun W Q h S=>Below.trans h (S.mono (Below.size h))
    have O:Hid (∀ X:WIn Inv0,Calls Tryz.prog 64 #[.slice p.la p.ll p.lc] X.world fun e w'=>e=.returned (.bool bn)/\∃ Y:WIn Inv0,w'=Y.world):=fun X=>jac E (HN.out X.world X.ok)
    have P:Hid (∀ X:WIn Inv0,Calls Tryz.prog 65 #[.agg #[.int .i64 x.sk.kind,.int .i64 x.sk.level,.slice p.ss.ea p.ss.el p.ss.ec,.int .i64 x.sk.hb,.string x.sk.hr,.int .i64 x.sk.cr,.int .i64 x.sk.cc,.slice p.ss.ca p.ss.cl p.ss.cc,.int .i64 x.sk.gf,.slice p.ss.ga p.ss.gl p.ss.gc]] X.world fun e w'=>e=.returned (.bool bv)/\∃ Y:WIn Inv0,w'=Y.world):=fun X=>jac E (HU.out X.world X.ok)
    have g:Hid (∀ X:WIn Inv0,Calls Tryz.prog 66 #[.slice I.la I.ll I.lc,.slice p.la p.ll p.lc] X.world fun e w'=>e=.returned (.bool bz)/\∃ Y:WIn Inv0,w'=Y.world):=fun X=>jac E (HZ.out X.world X.ok)
    have M:Hid (∀ X:WIn Inv0,Bw w X.world):=fun X=>X.ok
    have B:∀ (X:WIn Inv0) j v,j<12->w.cell? ⟨b,off+k*12+j,none⟩=some v->X.world.cell? ⟨b,off+k*12+j,none⟩=some v:=fun X j v _ h=>((M.out X).cell (p:=⟨b,off+k*12+j,none⟩) S).trans h
    have q0:∀ X:WIn Inv0,X.world.cell? ⟨b,off+k*12,none⟩=some (.slice p.la p.ll p.lc):=fun X=>B X 0 _ (by decide) (C 0 (by decide))
    have q1:∀ X:WIn Inv0,X.world.cell? ⟨b,off+k*12+1,none⟩=some (.int .i64 x.sk.kind):=fun X=>B X 1 _ (by decide) (C 1 (by decide))
    have q2:∀ X:WIn Inv0,X.world.cell? ⟨b,off+k*12+2,none⟩=some (.int .i64 x.sk.level):=fun X=>B X 2 _ (by decide) (C 2 (by decide))
    have q3:∀ X:WIn Inv0,X.world.cell? ⟨b,off+k*12+3,none⟩=some (.slice p.ss.ea p.ss.el p.ss.ec):=fun X=>B X 3 _ (by decide) (C 3 (by decide))
    have q4:∀ X:WIn Inv0,X.world.cell? ⟨b,off+k*12+4,none⟩=some (.int .i64 x.sk.hb):=fun X=>B X 4 _ (by decide) (C 4 (by decide))
    have q5:∀ X:WIn Inv0,X.world.cell? ⟨b,off+k*12+5,none⟩=some (.string x.sk.hr):=fun X=>B X 5 _ (by decide) (C 5 (by decide))
    have q6:∀ X:WIn Inv0,X.world.cell? ⟨b,off+k*12+6,none⟩=some (.int .i64 x.sk.cr):=fun X=>B X 6 _ (by decide) (C 6 (by decide))
    have q7:∀ X:WIn Inv0,X.world.cell? ⟨b,off+k*12+7,none⟩=some (.int .i64 x.sk.cc):=fun X=>B X 7 _ (by decide) (C 7 (by decide))
    have q8:∀ X:WIn Inv0,X.world.cell? ⟨b,off+k*12+8,none⟩=some (.slice p.ss.ca p.ss.cl p.ss.cc):=fun X=>B X 8 _ (by decide) (C 8 (by decide))
    have q9:∀ X:WIn Inv0,X.world.cell? ⟨b,off+k*12+9,none⟩=some (.int .i64 x.sk.gf):=fun X=>B X 9 _ (by decide) (C 9 (by decide))
    have V:∀ X:WIn Inv0,X.world.cell? ⟨b,off+k*12+10,none⟩=some (.slice p.ss.ga p.ss.gl p.ss.gc):=fun X=>B X 10 _ (by decide) (C 10 (by decide))
    have Z:∀ X:WIn Inv0,X.world.cell? ⟨b,off+k*12+11,none⟩=some (.int .u64 x.seen):=fun X=>B X 11 _ (by decide) (C 11 (by decide))
    have ab:∀ X:WIn Inv0,X.world.cell? ⟨b,off+(k-1)*12,none⟩=some (.slice I.la I.ll I.lc):=fun X=>((M.out X).cell (p:=⟨b,off+(k-1)*12,none⟩) S).trans (n 0 (by omega))
    have G:Hid (Inv0 (World.drew wr)):=m.drew;have T:Nonempty (WIn Inv0):=⟨⟨_,G.out⟩⟩;clear E m C B n;clear_value Inv0;obtain rfl | ⟨rfl,rfl⟩ | ⟨rfl,rfl,rfl⟩ | ⟨rfl,rfl,rfl⟩:bn=false\/bn=true/\bv=false\/bn=true/\bv=true/\bz=false\/bn=true/\bv=true/\bz=true:=by cases bn<;>cases bv<;>cases bz<;>simp
    all_goals
     go_wp2_with fail;refine jad Inv0 (by kernel_rfl) (by kernel_rfl) G.out ?_
     repeat (first | go_big_quiet_step ((first | (go_at_call 64;with_reducible exact O.out _) | (go_at_call 65;with_reducible exact P.out _) | (go_at_call 66;with_reducible exact g.out _))) | quiet_step ((first | (go_at_call 64;with_reducible exact O.out _) | (go_at_call 65;with_reducible exact P.out _) | (go_at_call 66;with_reducible exact g.out _))))
     refine wpQuiet_nil ?_;rintro _ ⟨X,rfl⟩;have A:=M.out X;obtain⟨t,F⟩:∃ t,X.world=t:=⟨_,rfl⟩;rw[F] at A ⊢;clear M O P g q0 q1 q2 q3 q4 q5 q6 q7 q8 q9 V Z ab G T F X;go_wp2_with fail
    ·go_ret
     exact⟨by rw[H.out];rfl,A⟩
    ·go_ret
     exact⟨by rw[H.out];rfl,A⟩
    ·go_ret
     exact⟨by rw[H.out];rfl,A⟩
    ·go_roundw
     case rel=>exact⟨k+1,by go_num,by omega,A,H.out⟩
     case measure=>simp[intOf];omega
  ·have ad:k=len:=by omega
   have HD:Hid (jca (jdt (l.map (·.1)) k) ((l.map (·.1)).drop k)=true):=by
    rw[Hid,List.drop_eq_nil_of_le (by rw[List.length_map];have:=u.out;omega)]
    cases jdt (l.map (·.1)) k<;>rfl
   have H9:Hid (R=decide (len<=20)):=by rw[Hid,f.out,HD.out,Bool.true_and]
   have h6:decide ((len:Int)<=20)=decide (len<=20):=decide_eq_decide.2 (by omega);go_wp2_with fail;go_ret;exact⟨by rw[H9.out];first | rfl | (simp only[h6];rfl),m⟩
end Go.Proofs.YtafhpamnegmilaaGreatDoor

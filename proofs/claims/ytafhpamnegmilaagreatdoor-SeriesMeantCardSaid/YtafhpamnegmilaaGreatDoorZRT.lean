/- The reference of layer 10: Right, at any sketch. Printed by gen_rt.py. -/
import Derived.Test.YtafhpamnegmilaaGreatDoorZRQ
set_option maxHeartbeats 24000000
set_option maxRecDepth 100000
namespace Go.Proofs.YtafhpamnegmilaaGreatDoor
open Go Go.RowKit Go.Shelf
theorem jgP (L c:Int) (aj:L=0/\c=32\/L=1/\c=16\/L=2/\c=8\/L=3/\c=4) (el:List Int) (O:Int) (hr:ByteArray) (G E:Int) (cl:List Int) (gf:Int) (gl:List (Int × Int)) (s:SS) (w:World) (hA:s.At w.heap.size w (⟨2,L,el,O,hr,G,E,cl,gf,gl⟩:Sk)) (hU:I64 E) :
  CR 65 #[.agg #[.int .i64 2,.int .i64 L,.slice s.ea s.el s.ec,.int .i64 O,.string hr,.int .i64 G,.int .i64 E,.slice s.ca s.cl s.cc,.int .i64 gf,.slice s.ga s.gl s.gc]] w (.bool ((jaN G E cl&&(G==2)&&(E==c))&&jaw (⟨2,L,el,O,hr,G,E,cl,gf,gl⟩:Sk) (jba 2 L G E cl))):=by
 obtain⟨H,au,aa,f,aw⟩:=jaf w #[.int .i64 2,.int .i64 L,.slice s.ea s.el s.ec,.int .i64 O,.string hr,.int .i64 G,.int .i64 E,.slice s.ca s.cl s.cc,.int .i64 gf,.slice s.ga s.gl s.gc] 41;have HC:Hid (∀ W,Bw H W->SlC jaG 1 W.heap.size W s.ca s.cl s.cc cl):=fun W O=>((hA.go f).go O).c
 have M:=Lib.hid f;have ah:Hid (∀ W,Calls Tryz.prog 117 #[.int .i64 2] W fun e w'=>e=.returned (.int .i64 3)/\w'=W):=fun W=>(jaO 2 W).mono fun e w' ⟨h1,h2⟩=>⟨h1,h2.symm⟩
 obtain⟨U,T,l,r,t,Z,a,d,u,v⟩:=jam aa;obtain⟨S,j⟩:∃ S,jaN G E cl=S:=⟨_,rfl⟩;obtain⟨m,am⟩:∃ m,(G==2)=m:=⟨_,rfl⟩;obtain⟨q1,an⟩:∃ q1,(E==c)=q1:=⟨_,rfl⟩;obtain⟨sR,k⟩:∃ sR,jaw (⟨2,L,el,O,hr,G,E,cl,gf,gl⟩:Sk) (jba 2 L G E cl)=sR:=⟨_,rfl⟩
 have n:Hid (∀ W,Bw H W->CR 13 #[.agg #[.int .i64 2,.int .i64 L,.slice s.ea s.el s.ec,.int .i64 O,.string hr,.int .i64 G,.int .i64 E,.slice s.ca s.cl s.cc,.int .i64 gf,.slice s.ga s.gl s.gc],.agg #[.int .i64 2,.int .i64 L,.slice none 0 0,.int .i64 0,.string ⟨#[]⟩,.int .i64 G,.int .i64 E,.slice s.ca s.cl s.cc,.int .i64 0,.slice none 0 0]] W (.bool sR)):=fun W ae=>by
  have h:=ja3 (⟨2,L,el,O,hr,G,E,cl,gf,gl⟩:Sk) (jba 2 L G E cl) s ⟨none,0,0,s.ca,s.cl,s.cc,none,0,0⟩ W ((hA.go M.out).go ae) ⟨jaA,((hA.go M.out).go ae).c,jaA⟩;rw[k] at h;exact h
 have q:=Lib.hid j;rw[j,am,an,k];have HZ:=Lib.hid (fun F:World=>jaf F #[.int .i64 2,.int .i64 L,.slice none 0 0,.int .i64 0,.string ⟨#[]⟩,.int .i64 0,.int .i64 0,.slice none 0 0,.int .i64 0,.slice none 0 0] 41);have HY:Hid (∀ (b:Nat) (D:World),D.heap[b]? = some (.cells #[.int .i64 2,.int .i64 L,.slice none 0 0,.int .i64 0,.string ⟨#[]⟩,.int .i64 0,.int .i64 0,.slice none 0 0,.int .i64 0,.slice none 0 0] 41 (0,0))->D.setCell ⟨b,1,none⟩ (.int .i64 L)=D/\(((D.setCell ⟨b,5,none⟩ (.int .i64 G)).setCell ⟨b,6,none⟩ (.int .i64 E)).setCell ⟨b,7,none⟩ (.slice s.ca s.cl s.cc)).heap[b]? = some (.cells #[.int .i64 2,.int .i64 L,.slice none 0 0,.int .i64 0,.string ⟨#[]⟩,.int .i64 G,.int .i64 E,.slice s.ca s.cl s.cc,.int .i64 0,.slice none 0 0] 41 (0,0))):=fun b D h=>⟨jaa h rfl,(hSk (hSk (hSk h _) _) _)⟩
 have HD:Hid (H.cell? ⟨w.heap.size,0,none⟩=some (.int .i64 2)/\H.cell? ⟨w.heap.size,1,none⟩=some (.int .i64 L)/\H.cell? ⟨w.heap.size,2,none⟩=some (.slice s.ea s.el s.ec)/\H.cell? ⟨w.heap.size,3,none⟩=some (.int .i64 O)/\H.cell? ⟨w.heap.size,4,none⟩=some (.string hr)/\H.cell? ⟨w.heap.size,5,none⟩=some (.int .i64 G)/\H.cell? ⟨w.heap.size,6,none⟩=some (.int .i64 E)/\H.cell? ⟨w.heap.size,7,none⟩=some (.slice s.ca s.cl s.cc)/\H.cell? ⟨w.heap.size,8,none⟩=some (.int .i64 gf)/\H.cell? ⟨w.heap.size,9,none⟩=some (.slice s.ga s.gl s.gc)):=⟨U,T,l,r,t,Z,a,d,u,v⟩;have A:w.heap.size<H.heap.size:=by omega
 clear aa f hA k j;obtain⟨rfl,rfl⟩ | ⟨rfl,rfl⟩ | ⟨rfl,rfl⟩ | ⟨rfl,rfl⟩:=aj
 all_goals
  go_enter Tryz.func65,Tryz.ntmps65;go_wp2_with fail;go_quiet ((go_at_call 117;exact Calls.quiet_of_same (ah.out _)));obtain⟨F,z⟩:∃ F,H.drewN nq=F:=⟨_,rfl⟩;have J:Bw H F:=by rw[<- z];exact bDr (Below.refl _ _) _
  rw[z];obtain⟨D,av,C,x,ax⟩:=HZ.out F;obtain⟨e1,i⟩:=HY.out _ _ C;obtain⟨V,hV⟩:∃ V,((D.setCell ⟨F.heap.size,5,none⟩ (.int .i64 G)).setCell ⟨F.heap.size,6,none⟩ (.int .i64 E)).setCell ⟨F.heap.size,7,none⟩ (.slice s.ca s.cl s.cc)=V:=⟨_,rfl⟩;rw[hV] at i;have y:Bw F V:=by rw[<- hV];exact (((x.setCell (p:=⟨F.heap.size,5,none⟩) (Nat.le_refl _) _).setCell (p:=⟨F.heap.size,6,none⟩) (Nat.le_refl _) _).setCell (p:=⟨F.heap.size,7,none⟩) (Nat.le_refl _) _)
  have I:Bw H D:=J.trans (x.mono J.size);have ad:Bw H V:=J.trans (y.mono J.size);have ay:=J.size;obtain⟨c0,c1,c2,c3,c4,c5,c6,c7,c8,c9⟩:=jam C;obtain⟨f0,f1,f2,f3,f4,f5,f6,f7,f8,f9⟩:=jbL C;have e2:D.setCell ⟨F.heap.size,2,none⟩ (.slice none 0 0)=D:=jaa C rfl;have e3:D.setCell ⟨F.heap.size,3,none⟩ (.int .i64 0)=D:=jaa C rfl;have e4:D.setCell ⟨F.heap.size,4,none⟩ (.string ⟨#[]⟩)=D:=jaa C rfl;have e5:D.setCell ⟨F.heap.size,5,none⟩ (.int .i64 0)=D:=jaa C rfl;have e6:D.setCell ⟨F.heap.size,6,none⟩ (.int .i64 0)=D:=jaa C rfl;have e7:D.setCell ⟨F.heap.size,7,none⟩ (.slice none 0 0)=D:=jaa C rfl;have e8:D.setCell ⟨F.heap.size,8,none⟩ (.int .i64 0)=D:=jaa C rfl;have e9:D.setCell ⟨F.heap.size,9,none⟩ (.slice none 0 0)=D:=jaa C rfl;have p0:=(J.cell (p:=⟨w.heap.size,0,none⟩) A).trans U;have p1:=(J.cell (p:=⟨w.heap.size,1,none⟩) A).trans T;have a0:=(I.cell (p:=⟨w.heap.size,0,none⟩) A).trans U;have a1:=(I.cell (p:=⟨w.heap.size,1,none⟩) A).trans T;have a2:=(I.cell (p:=⟨w.heap.size,2,none⟩) A).trans l;have a5:=(I.cell (p:=⟨w.heap.size,5,none⟩) A).trans Z;have a6:=(I.cell (p:=⟨w.heap.size,6,none⟩) A).trans a;have a7:=(I.cell (p:=⟨w.heap.size,7,none⟩) A).trans d;have Q:=Lib.hid ad;have o:=Lib.hid i;clear C i y I ad;go_wp2_with fail;let Inv:World->Prop:=fun W=>Bw V W
  have af:∀ W W',Inv W->Bw W W'->Inv W':=fun W W' h O=>Below.trans h (O.mono (Below.size h))
  have N:∀ X:WIn Inv,Bw H X.world:=fun X=>Q.out.trans (Below.mono X.ok Q.out.size)
  have ao:=fun X:WIn Inv=>((N X).cell (p:=⟨w.heap.size,1,none⟩) A).trans T
  have ap:=fun X:WIn Inv=>((N X).cell (p:=⟨w.heap.size,5,none⟩) A).trans Z
  have aq:=fun X:WIn Inv=>((N X).cell (p:=⟨w.heap.size,6,none⟩) A).trans a
  have ar:=fun X:WIn Inv=>((N X).cell (p:=⟨w.heap.size,7,none⟩) A).trans d
  have K1:Hid (∀ X:WIn Inv,Calls Tryz.prog 120 #[.agg #[.int .i64 G,.int .i64 E,.slice s.ca s.cl s.cc]] X.world fun e w'=>e=.returned (.bool S)/\∃ Y:WIn Inv,w'=Y.world):=fun X=>by
   have h:=jbW G E s.ca s.cl s.cc cl X.world hU (HC.out _ (N X)).1.1;rw[q.out] at h;exact jac af h
  have HQ:Hid (∀ X:WIn Inv,Bw V X.world):=fun X=>X.ok
  have g:Hid (Inv V.drew):=(Below.refl V.heap.size V).drew;have al:Nonempty (WIn Inv):=⟨⟨_,g.out⟩⟩;clear af N U T l r t Z a d u v p0 p1 a0 a1 a2 a5 a6 a7 c0 c1 c2 c3 c4 c5 c6 c7 c8 c9 f0 f1 f2 f3 f4 f5 f6 f7 f8 f9 e1 e2 e3 e4 e5 e6 e7 e8 e9 hU q HZ HY;clear_value Inv;obtain rfl | ⟨rfl,rfl⟩ | ⟨rfl,rfl,rfl⟩ | ⟨rfl,rfl,rfl⟩:S=false\/S=true/\m=false\/S=true/\m=true/\q1=false\/S=true/\m=true/\q1=true:=by cases S<;>cases m<;>cases q1<;>simp
  all_goals
   refine jad Inv (by kernel_rfl) (by kernel_rfl) g.out ?_
   repeat (first | go_big_quiet_step ((go_at_call 120;with_reducible exact K1.out _)) | quiet_step ((go_at_call 120;with_reducible exact K1.out _)))
   refine wpQuiet_nil ?_;rintro _ ⟨X,rfl⟩;have R:=Lib.hid (HQ.out X);obtain⟨w2,ag⟩:∃ w2,X.world=w2:=⟨_,rfl⟩;rw[ag] at R ⊢;have B:Bw H w2:=Q.out.trans (R.out.mono Q.out.size);have P:=Lib.hid B;clear ao ap aq ar HQ K1 g al ag X
  iterate 3
   ·have ai:Hid (Bw w w2):=M.out.trans (P.out.mono M.out.size)
    clear B;go_wp2_with fail;go_ret;exact⟨rfl,ai.out⟩
  obtain⟨U,T,l,r,t,Z,a,d,u,v⟩:=HD.out;have ab:=(R.out.block _ (Array.getElem?_eq_some_iff.1 o.out).1).trans o.out;have k0:=(B.cell (p:=⟨w.heap.size,0,none⟩) A).trans U;have k1:=(B.cell (p:=⟨w.heap.size,1,none⟩) A).trans T;have k2:=(B.cell (p:=⟨w.heap.size,2,none⟩) A).trans l;have k3:=(B.cell (p:=⟨w.heap.size,3,none⟩) A).trans r;have k4:=(B.cell (p:=⟨w.heap.size,4,none⟩) A).trans t;have k5:=(B.cell (p:=⟨w.heap.size,5,none⟩) A).trans Z;have k6:=(B.cell (p:=⟨w.heap.size,6,none⟩) A).trans a;have k7:=(B.cell (p:=⟨w.heap.size,7,none⟩) A).trans d;have k8:=(B.cell (p:=⟨w.heap.size,8,none⟩) A).trans u;have k9:=(B.cell (p:=⟨w.heap.size,9,none⟩) A).trans v;obtain⟨m0,m1,m2,m3,m4,m5,m6,m7,m8,m9⟩:=jam ab;have HS:=Lib.hid (n.out w2 B);clear ab U T l r t Z a d u v B R n HD;go_wp2_with fail;refine HS.out.mono ?_;rintro e w3 ⟨rfl,ak⟩;have ac:=P.out.trans (ak.mono P.out.size);go_wp2_with fail;go_ret;exact⟨rfl,M.out.trans (ac.mono M.out.size)⟩
theorem jiI (x:Sk) (s:SS) (w:World) (h:x.level<0\/jaF x.kind<x.level) :
  CR 65 #[.agg #[.int .i64 x.kind,.int .i64 x.level,.slice s.ea s.el s.ec,.int .i64 x.hb,.string x.hr,.int .i64 x.cr,.int .i64 x.cc,.slice s.ca s.cl s.cc,.int .i64 x.gf,.slice s.ga s.gl s.gc]] w (.bool false):=by
 obtain⟨J,H,D,C,I⟩:=jaf w #[.int .i64 x.kind,.int .i64 x.level,.slice s.ea s.el s.ec,.int .i64 x.hb,.string x.hr,.int .i64 x.cr,.int .i64 x.cc,.slice s.ca s.cl s.cc,.int .i64 x.gf,.slice s.ga s.gl s.gc] 41;have B:=Lib.hid C;have A:Hid (∀ W,Calls Tryz.prog 117 #[.int .i64 x.kind] W fun e w'=>e=.returned (.int .i64 (jaF x.kind))/\w'=W):=fun W=>(jaO x.kind W).mono fun e w' ⟨E,G⟩=>⟨E,G.symm⟩
 obtain⟨L,M,N,O,P,Q,R,S,T,U⟩:=jam D;clear D C;generalize jaF x.kind=bt at h A;by_cases F:x.level<0
 ·clear h
  go_enter Tryz.func65,Tryz.ntmps65;go_wp2_with fail;go_quiet ((go_at_call 117;exact Calls.quiet_of_same (A.out _)));go_wp2_with fail;go_ret;exact⟨rfl,B.out.trans (bDr (Below.refl _ _) _)⟩
 ·have E:bt<x.level:=by rcases h with h | h;exact absurd h F;exact h
  clear h;go_enter Tryz.func65,Tryz.ntmps65;go_wp2_with fail;go_quiet ((go_at_call 117;exact Calls.quiet_of_same (A.out _)));go_wp2_with fail;go_ret;exact⟨rfl,B.out.trans (bDr (Below.refl _ _) _)⟩
theorem jaU (x:Sk) (s:SS) (w:World) (H:s.At w.heap.size w x) (U:jc8 x.e) (N:I64 x.cc) (V:jsG x.gl) :
  CR 65 #[.agg #[.int .i64 x.kind,.int .i64 x.level,.slice s.ea s.el s.ec,.int .i64 x.hb,.string x.hr,.int .i64 x.cr,.int .i64 x.cc,.slice s.ca s.cl s.cc,.int .i64 x.gf,.slice s.ga s.gl s.gc]] w (.bool (jcc x)):=by
 by_cases I:x.level<0\/jaF x.kind<x.level
 ·have:jcc x=false:=by
   unfold jcc;have:(decide (0<=x.level)&&decide (x.level<=jaF x.kind))=false:=by rw[Bool.and_eq_false_iff,decide_eq_false_iff_not,decide_eq_false_iff_not];omega
   rw[this];simp
  rw[this];exact jiI x s w I
 obtain⟨A,G,E,D,hr,C,B,cl,gf,gl⟩:=x;dsimp only at I U N V H ⊢
 have Y:A=1\/A=2\/A=3:=by
  unfold jaF at I;by_cases Q:A=1
  ·exact .inl Q
  by_cases R:A=2
  ·exact .inr (.inl R)
  by_cases S:A=3
  ·exact .inr (.inr S)
  rw[if_neg (by simpa using Q),if_neg (by simp[R,S])] at I;omega
 obtain⟨L,rfl⟩:∃ L:Nat,G=L:=⟨G.toNat,by omega⟩
 have P:jcc ⟨A,L,E,D,hr,C,B,cl,gf,gl⟩=(jaM ⟨A,L,E,D,hr,C,B,cl,gf,gl⟩&&jaw ⟨A,L,E,D,hr,C,B,cl,gf,gl⟩ (ja9 ⟨A,L,E,D,hr,C,B,cl,gf,gl⟩)):=by
  unfold jcc;dsimp only;rw[decide_eq_true (show 1<=A by omega),decide_eq_true (show A<=3 by omega),decide_eq_true (show (0:Int)<=L by omega),decide_eq_true (show (L:Int)<=jaF A by omega)];rfl
 rw[P];rcases Y with rfl | rfl | rfl
 ·have F:jaF 1=4:=rfl
  rw[F] at I;by_cases X:L=0
  ·subst X
   exact jhu E D hr C B cl gf gl s w H U
  ·have T:((L:Int)==0)=false:=by rw[beq_eq_false_iff_ne];omega
   have h:=jhv L (by omega) (by omega) E D hr C B cl gf gl s w H;have J:jaM ⟨1,L,E,D,hr,C,B,cl,gf,gl⟩=(jaT D hr&&(D==8-(L:Int))):=by unfold jaM;dsimp only;rw[T];rfl
   have O:ja9 ⟨1,L,E,D,hr,C,B,cl,gf,gl⟩=jbl 1 L D hr:=by unfold ja9;dsimp only;rw[T];rfl
   rw[J,O];exact h
 ·have F:jaF 2=3:=rfl
  rw[F] at I;have J:∀ (M:Nat) (c:Int),(32:Int) / 2^((M:Int)).toNat=c->jaM ⟨2,M,E,D,hr,C,B,cl,gf,gl⟩=(jaN C B cl&&(C==2)&&(B==c)):=fun M c h=>by rw[<- h];rfl
  have O:∀ M:Nat,ja9 ⟨2,M,E,D,hr,C,B,cl,gf,gl⟩=jba 2 M C B cl:=fun M=>rfl
  rw[O];obtain rfl | rfl | rfl | rfl:L=0\/L=1\/L=2\/L=3:=by omega
  ·rw[J 0 32 (by decide)];exact jgP 0 32 (by simp) E D hr C B cl gf gl s w H N
  ·rw[J 1 16 (by decide)];exact jgP 1 16 (by simp) E D hr C B cl gf gl s w H N
  ·rw[J 2 8 (by decide)];exact jgP 2 8 (by simp) E D hr C B cl gf gl s w H N
  ·rw[J 3 4 (by decide)];exact jgP 3 4 (by simp) E D hr C B cl gf gl s w H N
 ·have F:jaF 3=3:=rfl
  rw[F] at I;exact jht L (by omega) E D hr C B cl gf gl s w H V
end Go.Proofs.YtafhpamnegmilaaGreatDoor

/- quota.Fit. Package tenant: what a tenant is in memory; frames of several blocks. Package ladder: Merge on sketches at work. Sketches at work as plain data: in whatever order they are merged. No sketch of items is meant: any right bodies. What a scope means, in plain data: the sketches that are merged; in parts. Plain: what a tenant takes. -/
import Derived.Test.YtnegciklhanmbaaGreatDoorZMI
set_option maxHeartbeats 4000000
set_option maxRecDepth 100000
namespace Go.Proofs.YtnegciklhanmbaaGreatDoor
open Go Go.RowKit
section
open Go.Shelf
theorem jmS {W:World} {B n c g k:Nat} {m:List (Ser × SerP)} {x:Ser} {p:SerP} (y:Sk) (s:SS) (u:W.ownsRow B 90 12 (.slice (some ⟨g,0,none⟩) n c) n (m.flatMap ja0)) (v:m[k]? = some (x,p)) :
  ∃ V,(((((((((W.setCell ⟨g,k*12+1,none⟩ (.int .i64 y.kind)).setCell ⟨g,k*12+2,none⟩ (.int .i64 y.level)).setCell ⟨g,k*12+3,none⟩ (.slice s.ea s.el s.ec)).setCell ⟨g,k*12+4,none⟩ (.int .i64 y.hb)).setCell ⟨g,k*12+5,none⟩ (.string y.hr)).setCell ⟨g,k*12+6,none⟩ (.int .i64 y.cr)).setCell ⟨g,k*12+7,none⟩ (.int .i64 y.cc)).setCell ⟨g,k*12+8,none⟩ (.slice s.ca s.cl s.cc)).setCell ⟨g,k*12+9,none⟩ (.int .i64 y.gf)).setCell ⟨g,k*12+10,none⟩ (.slice s.ga s.gl s.gc)=V /\
   V.ownsRow B 90 12 (.slice (some ⟨g,0,none⟩) n c) n ((m.set k (⟨x.l,y,x.seen⟩,⟨p.la,p.ll,p.lc,s⟩)).flatMap ja0)/\Apart g W V/\(∀ n w0,n<=g->Below n w0 W->Below n w0 V):=by
 obtain⟨V1,d,o1,H,R,-,-,w⟩:=ja4 (i:=1) (⟨x.l,{ x.sk with kind:=y.kind },x.seen⟩,p) (.int .i64 y.kind) u v (by decide) rfl;obtain⟨V2,e,o2,I,S,-,-,m2⟩:=ja4 (i:=2) (⟨x.l,{ x.sk with kind:=y.kind,level:=y.level },x.seen⟩,p) (.int .i64 y.level) o1 w (by decide) rfl;obtain⟨V3,f,o3,J,T,-,-,m3⟩:=ja4 (i:=3) (⟨x.l,{ x.sk with kind:=y.kind,level:=y.level },x.seen⟩,(⟨p.la,p.ll,p.lc,{ p.ss with ea:=s.ea,el:=s.el,ec:=s.ec }⟩:SerP)) (.slice s.ea s.el s.ec) o2 m2 (by decide) rfl;obtain⟨V4,h,o4,L,U,-,-,m4⟩:=ja4 (i:=4) (⟨x.l,{ x.sk with kind:=y.kind,level:=y.level,hb:=y.hb },x.seen⟩,(⟨p.la,p.ll,p.lc,{ p.ss with ea:=s.ea,el:=s.el,ec:=s.ec }⟩:SerP)) (.int .i64 y.hb) o3 m3 (by decide) rfl;obtain⟨V5,j,o5,M,X,-,-,m5⟩:=ja4 (i:=5) (⟨x.l,{ x.sk with kind:=y.kind,level:=y.level,hb:=y.hb,hr:=y.hr },x.seen⟩,(⟨p.la,p.ll,p.lc,{ p.ss with ea:=s.ea,el:=s.el,ec:=s.ec }⟩:SerP)) (.string y.hr) o4 m4 (by decide) rfl;obtain⟨V6,o,o6,N,Y,-,-,m6⟩:=ja4 (i:=6) (⟨x.l,{ x.sk with kind:=y.kind,level:=y.level,hb:=y.hb,hr:=y.hr,cr:=y.cr },x.seen⟩,(⟨p.la,p.ll,p.lc,{ p.ss with ea:=s.ea,el:=s.el,ec:=s.ec }⟩:SerP)) (.int .i64 y.cr) o5 m5 (by decide) rfl;obtain⟨V7,q,o7,O,Z,-,-,m7⟩:=ja4 (i:=7) (⟨x.l,{ x.sk with kind:=y.kind,level:=y.level,hb:=y.hb,hr:=y.hr,cr:=y.cr,cc:=y.cc },x.seen⟩,(⟨p.la,p.ll,p.lc,{ p.ss with ea:=s.ea,el:=s.el,ec:=s.ec }⟩:SerP)) (.int .i64 y.cc) o6 m6 (by decide) rfl
 obtain⟨V8,r,o8,P,a,-,-,m8⟩:=ja4 (i:=8) (⟨x.l,{ x.sk with kind:=y.kind,level:=y.level,hb:=y.hb,hr:=y.hr,cr:=y.cr,cc:=y.cc },x.seen⟩,(⟨p.la,p.ll,p.lc,{ p.ss with ea:=s.ea,el:=s.el,ec:=s.ec,ca:=s.ca,cl:=s.cl,cc:=s.cc }⟩:SerP)) (.slice s.ca s.cl s.cc) o7 m7 (by decide) rfl;obtain⟨V9,t,o9,Q,b,-,-,m9⟩:=ja4 (i:=9) (⟨x.l,{ x.sk with kind:=y.kind,level:=y.level,hb:=y.hb,hr:=y.hr,cr:=y.cr,cc:=y.cc,gf:=y.gf },x.seen⟩,(⟨p.la,p.ll,p.lc,{ p.ss with ea:=s.ea,el:=s.el,ec:=s.ec,ca:=s.ca,cl:=s.cl,cc:=s.cc }⟩:SerP)) (.int .i64 y.gf) o8 m8 (by decide) rfl;obtain⟨D,G,C,E,F,-,-,z⟩:=ja4 (i:=10) (⟨x.l,y,x.seen⟩,(⟨p.la,p.ll,p.lc,s⟩:SerP)) (.slice s.ga s.gl s.gc) o9 m9 (by decide) rfl;refine⟨D,?_,?_,((((((((H.trans I).trans J).trans L).trans M).trans N).trans O).trans P).trans Q).trans E,fun n w0 A hb=>F _ _ A (b _ _ A (a _ _ A (Z _ _ A (Y _ _ A (X _ _ A (U _ _ A (T _ _ A (S _ _ A (R _ _ A hb)))))))))⟩
 ·rw[d,e,f,h,j,o,q,r,t,G]
 ·simp only[List.set_set] at C
  exact C
structure FitAt (w:World) (F:Nat) (W:World) (m:List (Ser × SerP)) (tv pv:Value) (ps:List Nat):Prop where
 tab:GrowS w.heap.size (fun b=>w.heap.size<=b/\b≠F/\some b≠pv.ownBlock) W tv m
 box:W.heap[F]? = some (.cells #[pv,tv] 167 (0,0))
 lo:w.heap.size<=F
 tF:some F≠tv.ownBlock
 own:W.ownsRow w.heap.size 3 1 pv ps.length (ps.flatMap jhr)
 pF:some F≠pv.ownBlock
 pT:∀ b,pv.ownBlock=some b->tv.ownBlock≠some b
 below:Bw w W
section
variable {w W W':World} {F:Nat} {m:List (Ser × SerP)} {tv pv:Value} {ps:List Nat}
theorem FitAt.go (h:FitAt w F W m tv pv ps) (hb:Bw W W'):FitAt w F W' m tv pv ps :=
 ⟨h.tab.go hb,known hb (Nat.le_refl _) h.box,h.lo,h.tF,jd3 h.own hb,h.pF,h.pT,h.below.trans (hb.mono h.below.size)⟩
theorem jpf {A B:World} {C e size n g:Nat} {v:Value} {xs:List Value} (h:A.ownsRow C e size v n xs) (H:Apart g A B) (I:some g≠v.ownBlock):B.ownsRow C e size v n xs:=by
 refine⟨h.1,h.2.imp id ?_⟩;rintro⟨b,cap,D,rfl,F,E,G⟩;exact⟨b,cap,D,rfl,F,(H.2 b (Array.getElem?_eq_some_iff.1 E).1 (fun e=>I (by rw[e];rfl))).trans E,G⟩
theorem jlF {A B:World} {C e size n:Nat} {v:Value} {xs:List Value} (h:A.ownsRow C e size v n xs) (H:∀ b,b<A.heap.size->v.ownBlock=some b->B.heap[b]? = A.heap[b]?):B.ownsRow C e size v n xs:=by
 refine⟨h.1,h.2.imp id ?_⟩;rintro⟨b,cap,D,rfl,F,E,G⟩;exact⟨b,cap,D,rfl,F,(H b (Array.getElem?_eq_some_iff.1 E).1 rfl).trans E,G⟩
theorem FitAt.low {g c k:Nat} {x:Ser} {p:SerP} {y:Sk} {s:SS} (h:FitAt w F W m (.slice (some ⟨g,0,none⟩) m.length c) pv ps) (Q:m[k]? = some (x,p)) (G:Apart g W W') (N:∀ n w0,n<=g->Below n w0 W->Below n w0 W')
  (O:W'.ownsRow w.heap.size 90 12 (.slice (some ⟨g,0,none⟩) m.length c) m.length ((m.set k (⟨x.l,y,x.seen⟩,⟨p.la,p.ll,p.lc,s⟩)).flatMap ja0)) (P:s.At W.heap.size W y) (C:∃ n,s.From n/\g<n/\w.heap.size<=n/\F<n/\(∀ b,pv.ownBlock=some b->b<n)) :
  FitAt w F W' (m.set k (⟨x.l,y,x.seen⟩,⟨p.la,p.ll,p.lc,s⟩)) (.slice (some ⟨g,0,none⟩) (m.set k (⟨x.l,y,x.seen⟩,(⟨p.la,p.ll,p.lc,s⟩:SerP))).length c) pv ps:=by
 obtain⟨n,C,S,T,R,L⟩:=C;have B:(m.set k (⟨x.l,y,x.seen⟩,(⟨p.la,p.ll,p.lc,s⟩:SerP))).length=m.length:=List.length_set ..;have D:=List.mem_of_getElem? Q
 have M:∀ e∈m.set k (⟨x.l,y,x.seen⟩,(⟨p.la,p.ll,p.lc,s⟩:SerP)),e.2.At W.heap.size W e.1/\e.2.Off (fun b=>(w.heap.size<=b/\b≠F/\some b≠pv.ownBlock)/\some b≠Value.ownBlock (.slice (some ⟨g,0,none⟩) m.length c)):=fun e A=>by
  rcases List.mem_or_eq_of_mem_set A with A | rfl
  ·exact⟨h.tab.at_ e A,h.tab.off e A⟩
  ·have H:=h.tab.at_ _ D
   have I:=h.tab.off _ D
   have J:∀ b,n<=b->(w.heap.size<=b/\b≠F/\some b≠pv.ownBlock)/\some b≠Value.ownBlock (.slice (some ⟨g,0,none⟩) m.length c):=fun b hb=>by
    refine⟨⟨by omega,by omega,fun e=>?_⟩,fun e=>?_⟩
    ·have:=L b e.symm;omega
    ·injection e with e;simp at e;omega
   exact⟨⟨H.l,P⟩,⟨I.l,fun z E _=>J _ (C.1 z E),fun z E _=>J _ (C.2.1 z E),fun z E _=>J _ (C.2.2 z E)⟩⟩
 rw[B];refine⟨⟨by rw[B];exact O,fun e A=>?_,fun e A=>(M e A).2⟩,?_,h.lo,h.tF,jpf h.own G ?_,h.pF,h.pT,N _ _ (jgk h.tab.own).1 h.below⟩
 ·obtain⟨H,I⟩:=M e A
  exact (H.frame (I.imp (r:=(· ≠ g)) fun b hb e=>hb.2 (by rw[e];rfl)) G.2).mono G.1
 ·refine (G.2 F (Array.getElem?_eq_some_iff.1 h.box).1 (fun e=>h.tF (by rw[e];rfl))).trans h.box
 ·intro e
  exact h.pT g e.symm rfl
theorem FitAt.told {k:Nat} (h:FitAt w F W m tv pv ps) (ht:jvU F w.heap.size tv pv ps k W W'):∃ C,FitAt w F W' m tv C (ps++[k]):=by
 obtain⟨C,O,P,Q,L,A,M⟩:=ht
 have E:∀ b,b<W.heap.size->some b≠pv.ownBlock->some b≠C.ownBlock:=fun b hb J e=>by
  rcases A with A | ⟨g,A,R⟩
  ·exact J (by rw[<- A];exact e)
  ·rw[A] at e;injection e with e;omega
 have B:∀ b,b<W.heap.size->(w.heap.size<=b/\b≠F/\some b≠pv.ownBlock)->W'.heap[b]? = W.heap[b]? := fun b hb G=>L b hb G.2.1 G.2.2
 have I:=h.tab.own.lt;refine⟨C,⟨jlF h.tab.own (fun b hb e=>L b hb (fun H=>h.tF (by rw[e,H])) (fun H=>h.pT b H.symm e)),fun e D=>?_,fun e D=>?_⟩,O,h.lo,h.tF,P,Q,fun b hb N=>?_,h.below.trans M⟩
 ·exact ((h.tab.at_ e D).frame (h.tab.off e D) (fun b hb G=>B b hb G.1)).mono M.size
 ·exact ((h.tab.at_ e D).off.and (h.tab.off e D)).imp fun b hb=>⟨⟨hb.2.1.1,hb.2.1.2.1,E b hb.1 hb.2.1.2.2⟩,hb.2.2⟩
 ·rcases A with A | ⟨g,A,R⟩
  ·exact h.pT b (by rw[<- A];exact hb) N
  ·have:=(I b N).2
   rw[A] at hb;injection hb with hb
   omega
end
def jc2 (b:Int) (L:List Ser):List Ser × List Nat × Int:=if jaj L then if jbO b then match fit b L with
  | some (a,ps)=>(a,ps,0)
  | none=>([],[],130)
 else ([],[],130) else ([],[],120)
def FitPost (b:Int) (L:List Ser) (w:World) (e:Ending) (w':World):Prop :=
 ∃ (m:List (Ser × SerP)) (ta:Option Addr) (tc:Nat) (pa:Option Addr) (pc:Nat),e=.returned (.tuple #[.slice ta m.length tc,.slice pa (jc2 b L).2.1.length pc,.int .i64 (jc2 b L).2.2])/\Tab w'.heap.size w' ta m.length tc m/\m.map (·.1)=(jc2 b L).1 /\
  (∀ z,ta=some z->w.heap.size<=z.block)/\(∀ e∈m,e.2.Off (fun b=>w.heap.size<=b/\∀ z,ta=some z->b≠z.block))/\SlC jhr 1 w'.heap.size w' pa (jc2 b L).2.1.length pc (jc2 b L).2.1/\(∀ z,pa=some z->w.heap.size<=z.block)/\Bw w w'
theorem FitPost.no {b:Int} {L:List Ser} {w w':World} {n:Int} (h:jc2 b L=([],[],n)) (A:Bw w w'):FitPost b L w (.returned (.tuple #[.slice none 0 0,.slice none 0 0,.int .i64 n])) w':=by
 unfold FitPost;rw[h];exact⟨[],none,0,none,0,rfl,Tab.nil,rfl,(fun z h=>by cases h),(fun e h=>by cases h),SlC.nil,(fun z h=>by cases h),A⟩
theorem FitAt.post {b:Int} {L:List Ser} {w W:World} {F:Nat} {m:List (Ser × SerP)} {ta D:Option Addr} {tc E:Nat} {B:List Nat} (h:FitAt w F W m (.slice ta m.length tc) (.slice D B.length E) B) (C:jc2 b L=(m.map (·.1),B,0)) :
  FitPost b L w (.returned (.tuple #[.slice ta m.length tc,.slice D B.length E,.int .i64 0])) W:=by
 obtain⟨N,P,A,G,H,I⟩:=h.tab.tab;injection A with A e2 e3
 subst A;subst e3;obtain⟨O,c2,A,J,M⟩:=jaM (enc:=jhr) (l:=B) jtY h.own;injection A with A e2 e3
 subst A;subst e3;unfold FitPost;rw[C];exact⟨m,ta,tc,D,E,rfl,G,rfl,H,fun e C=>(I e C).imp fun b hb=>⟨hb.1.1,hb.2⟩,J,M,h.below⟩
section
variable {w W:World} {F:Nat} {m:List (Ser × SerP)} {ta:Option Addr} {tc:Nat} {pv:Value} {ps:List Nat}
theorem FitAt.tabOf (h:FitAt w F W m (.slice ta m.length tc) pv ps):Tab W.heap.size W ta m.length tc m:=by
 obtain⟨C,D,A,B,-⟩:=h.tab.tab;injection A with A e2 e3
 subst A;subst e3;exact B
theorem QT.fine {L:List Ser} (h:QT L):∀ x∈L,x.fine:=fun x A=>(h.good x A).fine
theorem FitAt.cost (h:FitAt w F W m (.slice ta m.length tc) pv ps) (B:QT (m.map (·.1))) (C:GW w) :
  CR 32 #[.slice ta m.length tc] W (.int .i64 (jbh (m.map (·.1)))):=by
 have A:=jdc m ta m.length tc W h.tabOf (jeG h.tabOf B.fine) (C.below h.below);rw[jbs,B.right,if_pos rfl] at A;exact A
theorem FitAt.vict (h:FitAt w F W m (.slice ta m.length tc) pv ps) (B:QT (m.map (·.1))) (C:GW w) :
  CR 83 #[.slice ta m.length tc] W (.tuple #[.int .i64 ((vic (m.map (·.1))).1:Int),.bool (vic (m.map (·.1))).2.2]):=by
 have A:=jop m ta m.length tc W h.tabOf (jeG h.tabOf B.fine) (C.below h.below);rw[jvH,jvG,B.right,if_pos rfl,Bool.true_and] at A;exact A
end
theorem jup {x:Ser} {p:SerP} {W:World} (J:x.good) (E:jcO x=true) (I:p.ss.At W.heap.size W x.sk) :
  Calls Tryz.prog 84 #[.agg (skv x.sk p.ss)] W fun e w'=>∃ (y:Sk) (s:SS),y=jpr x.sk/\e=.returned (.tuple #[.agg (skv y s),.int .i64 0])/\s.At w'.heap.size w' y/\s.From W.heap.size/\Bw W w':=by
 obtain⟨k,L,B,e,A⟩:=J.sk;have D:x=⟨x.l,jcy k L B,x.seen⟩:=by rw[<- e]
 have C:L<jdQ k:=by rw[D,jlw A] at E;simpa using E
 refine (jom (w:=W) (v:=.agg (skv x.sk p.ss)) A C ⟨x.sk,p.ss,e,rfl,I⟩).mono ?_;rintro N w' ⟨v,F,⟨y,s,M,rfl,G,H⟩,hb⟩;exact⟨y,s,by rw[M,e,jkh A],F,G,H,hb⟩
def jxu (F:Nat) (W:World):Nat:=match W.cell? ⟨F,0,none⟩ with
 | some (.slice _ n _)=>n
 | _=>0
theorem jrN {F:Nat} {W:World} {a:Option Addr} {n c:Nat} {T:Value} {t:TypeId} {f:Nat × Nat} (h:W.heap[F]? = some (.cells #[.slice a n c,T] t f)):jxu F W=n:=by
 have A:W.cell? ⟨F,0,none⟩=some (.slice a n c):=cCc h 0;unfold jxu;rw[A]
theorem jnR:∀ l:List Ser,(∀ x∈l,0<=x.sk.level)->mu l<=4*l.length
 | [],_=>Nat.le_refl _
 | x::r,h=>by
  have B:=jnR r fun y A=>h y (List.mem_cons_of_mem _ A)
  have C:=h x List.mem_cons_self;have D:jaH x.sk.kind<=4:=by unfold jaH;repeat' split;all_goals omega
  show jiv x+mu r<=_;unfold jiv;simp only[List.length_cons];omega
theorem QT.mu {l:List Ser} (h:QT l):mu l<=80:=by
 have C:=jnR l fun x A=>by obtain⟨k,L,B,e,-⟩:=(h.good x A).sk;rw[e,(jaL k L B).2];omega
 have D:=h.len;omega
theorem GrowS.weak {A base':Nat} {q q':Nat->Prop} {W:World} {v:Value} {l:List (Ser × SerP)} (h:GrowS A q W v l) (hb:base'<=A) (F:∀ b,b<W.heap.size->q b->q' b):GrowS base' q' W v l:=by
 refine⟨⟨h.own.1,h.own.2.imp id ?_⟩,h.at_,fun e C=>((h.at_ e C).off.and (h.off e C)).imp fun b hb=>⟨F b hb.1 hb.2.1,hb.2.2⟩⟩;rintro⟨g,cap,B,D,G,E⟩;exact⟨g,cap,B,D,by omega,E⟩
theorem FitAt.start {w C A W:World} {m:List (Ser × SerP)} {v:Value} (h:GrowS C.heap.size (C.heap.size <= ·) A v m) (I:W.heap[A.heap.size]? = some (.cells #[.slice none 0 0,v] 167 (0,0))) (G:Bw A W) (E:Bw w C) (F:Bw C A):FitAt w A.heap.size W m v (.slice none 0 0) []:=by
 have B:=E.size;have D:=F.size;have H:=h.weak (base':=w.heap.size) (q':=fun b=>w.heap.size<=b/\b≠A.heap.size/\some b≠Value.ownBlock (.slice none 0 0)) B (fun b hb J=>⟨by omega,by omega,fun e=>by cases e⟩);refine⟨H.go G,I,by omega,fun e=>?_,World.ownsRow_nil _ _ _ _,(fun e=>by cases e),(fun b e=>by cases e),E.trans ((F.trans (G.mono D)).mono B)⟩;have:=(h.own.lt _ e.symm).2;omega
theorem jvO (b:Int) (l:List (Ser × SerP)) (a:Option Addr) (len cap:Nat) (w:World) (hT:Tab w.heap.size w a len cap l) (hF:jdl l) (hQ:jaj (l.map (·.1))=true->QT (l.map (·.1))) (hG:GW w) :
  Calls Tryz.prog 46 #[.slice a len cap,.int .i64 b] w (FitPost b (l.map (·.1)) w):=by
 have hR:=jaU l a len cap w hT hF hG;have au:=hT.row.1.1;subst au;have HT:=Lib.hid hT;have HF:=Lib.hid hF;have HG:=Lib.hid hG;clear hT hF hG
 cases hr:jaj (l.map (·.1)) with
 | false =>
  rw[hr] at hR;have k:Hid (∀ w',Bw w w'->FitPost b (l.map (·.1)) w (.returned (.tuple #[.slice none 0 0,.slice none 0 0,.int .i64 120])) w'):=fun w' hb=>FitPost.no (by unfold jc2;rw[hr];rfl) hb
  clear hr hQ;generalize FitPost b (l.map (·.1)) w=Q at k ⊢;go_enter Tryz.func46,Tryz.ntmps46;go_wp2_with (go_at_call 57;refine hR.mono ?_;rintro e w1 ⟨rfl,M⟩);go_ret3;exact k.out _ M
 | true =>
  rw[hr] at hR
  cases J:jbO b with
  | false =>
   have k:Hid (∀ w',Bw w w'->FitPost b (l.map (·.1)) w (.returned (.tuple #[.slice none 0 0,.slice none 0 0,.int .i64 130])) w'):=fun w' hb=>FitPost.no (by unfold jc2;rw[hr,J];rfl) hb
   have HI:Hid (∀ w,Calls Tryz.prog 81 #[.int .i64 b] w fun e w'=>e=.returned (.bool false)/\w'=w):=fun w=>(jgD b w).mono fun e w' ⟨S,h2⟩=>⟨by rw[S,J],h2⟩
   clear hr hQ J;generalize FitPost b (l.map (·.1)) w=Q at k ⊢;go_enter Tryz.func46,Tryz.ntmps46
   go_wp2_with (first
    | (go_at_call 57;refine hR.mono ?_;rintro e w1 ⟨rfl,M⟩)
    | (go_at_call 81;refine (HI.out _).mono ?_;rintro e w2 ⟨rfl,rfl⟩))
   go_ret3;exact k.out _ M
  | true =>
   have HI:Hid (∀ w,Calls Tryz.prog 81 #[.int .i64 b] w fun e w'=>e=.returned (.bool true)/\w'=w):=fun w=>(jgD b w).mono fun e w' ⟨S,h2⟩=>⟨by rw[S,J],h2⟩
   have HQ:=Lib.hid (hQ hr);have k:Hid (∀ w',fit b (l.map (·.1))=none->Bw w w'->FitPost b (l.map (·.1)) w (.returned (.tuple #[.slice none 0 0,.slice none 0 0,.int .i64 130])) w'):=fun w' hn hb=>FitPost.no (by unfold jc2;rw[hr,J,hn];rfl) hb
   have HD:Hid (∀ (F:Nat) (m:List (Ser × SerP)) (ta:Option Addr) (tc:Nat) (f:Option Addr) (j:Nat) (D:List Nat) W,fit b (l.map (·.1))=some (m.map (·.1),D)->FitAt w F W m (.slice ta m.length tc) (.slice f D.length j) D->FitPost b (l.map (·.1)) w (.returned (.tuple #[.slice ta m.length tc,.slice f D.length j,.int .i64 0])) W):=fun F m ta tc f j D W hn h=>h.post (by unfold jc2;rw[hr,J,hn];rfl)
   have HC:Hid (∀ w',Bw w w'->Calls Tryz.prog 82 #[.slice a l.length cap] w' fun e aE=>∃ v m,e=.returned v/\GrowS w'.heap.size (w'.heap.size <= ·) aE v m/\m.map (·.1)=l.map (·.1)/\Bw w' aE):=fun w' hb=>joH l a l.length cap w' (HT.out.go hb) (jfA hr HF.out HT.out) (by have:=((jaS _).1 hr).1;rw[List.length_map] at this;omega)
   have aK:0<=b/\b<=1000000:=by simpa [jbO] using J
   obtain⟨a1,a2⟩:=aK;clear hr hQ J;generalize FitPost b (l.map (·.1)) w=Q at k HD ⊢;go_enter Tryz.func46,Tryz.ntmps46
   go_wp2_with (first
    | (go_at_call 57;refine hR.mono ?_;rintro e w1 ⟨rfl,M⟩)
    | (go_at_call 81;refine (HI.out _).mono ?_;rintro e w2 ⟨rfl,rfl⟩)
    | (go_at_call 82;refine (HC.out _ M).mono ?_;rintro e w3 ⟨tv,m,rfl,u,hm,an⟩;obtain⟨ta,tc,rfl⟩:=u.form))
   obtain⟨W4,aj,al,af,aO⟩:=jab w3 #[.slice none 0 0,.slice ta m.length tc] 167;have aF:=Lib.hid (FitAt.start u al af M an);have o:=Lib.hid hm;generalize w3.heap.size=F at *;rw[aj];clear aj al af aO u an M hR HC HI hm;go_loopw [8] (fun _ wr=>∃ (m:List (Ser × SerP)) (ta:Option Addr) (tc:Nat) (f:Option Addr) (j:Nat) (D:List Nat),Hid (FitAt w F wr m (.slice ta m.length tc) (.slice f D.length j) D)/\Hid (QT (m.map (·.1)))/\Hid (fit b (l.map (·.1))=(fit b (m.map (·.1))).map fun r=>(r.1,D++r.2))/\D.length+mu (m.map (·.1))<=80) (fun _ wr=>100-jxu F wr)
   case atStart =>
    refine⟨m,ta,tc,none,0,[],aF.out,by rw[o.out];exact HQ.out,?_,?_⟩
    ·rw[o.out]
     cases fit b (l.map (·.1))<;>rfl
    ·rw[o.out]
     have:=HQ.out.mu;simpa using this
   case round =>
    obtain⟨m,ta,tc,f,j,D,Y,I,n,aa⟩:=hrel;have t:=Y.out.box;have aY:=(Array.getElem?_eq_some_iff.1 t).1;have c1:wr.cell? ⟨F,1,none⟩=some (.slice ta m.length tc):=cCc t 1;have L:=Lib.hid (Y.out.cost I.out HG.out);have O:=jfk m _ _ Y.out.tab.at_ (jeG Y.out.tabOf I.out.fine);have aX:m.length<=20:=by have:=I.out.len;rwa [List.length_map] at this
    clear t;by_cases hc:jbh (m.map (·.1))<=b
    ·have H9:Hid (fit b (l.map (·.1))=some (m.map (·.1),D)):=by rw[Hid,n.out,jeR hc,Option.map_some,List.append_nil]
     generalize jbh (m.map (·.1))=cc at L O hc;obtain⟨k0,k1⟩:=O;have ar:cc<=4400000000000:=by omega
     clear k1 aa;go_wp2_with (go_at_call 32;refine L.out.mono ?_;rintro e w5 ⟨rfl,T⟩);have E:=Lib.hid (Y.out.go T);obtain⟨d0,d1⟩:=cl2 E.out.box;go_wp2_with fail;go_quiet (fail);go_wp2_with fail;go_ret3;exact HD.out F m ta tc f j D _ H9.out (E.out.go (bDr (Below.refl _ _) _))
    ·have d:b<jbh (m.map (·.1)):=by omega
     have N:Hid (∀ W,FitAt w F W m (.slice ta m.length tc) (.slice f D.length j) D->CR 83 #[.slice ta m.length tc] W (.tuple #[.int .i64 ((vic (m.map (·.1))).1:Int),.bool (vic (m.map (·.1))).2.2])):=fun W h=>h.vict I.out HG.out
     cases hv:jdN (m.map (·.1)) with
     | none =>
      have H9:Hid (fit b (l.map (·.1))=none):=by rw[Hid,n.out,jhv d hv];rfl
      have aC:=(jnn hv).1;rw[aC] at N;generalize jbh (m.map (·.1))=cc at L O hc d;generalize (vic (m.map (·.1))).1=vv at N;obtain⟨k0,k1⟩:=O;have ar:cc<=4400000000000:=by omega
      clear k1 aa hv aC hc
      go_wp2_with (first
       | (go_at_call 32;refine L.out.mono ?_;rintro e w5 ⟨rfl,T⟩;have E:=Lib.hid (Y.out.go T);have d1:w5.cell? ⟨F,1,none⟩=some (.slice ta m.length tc):=cCc E.out.box 1)
       | (go_at_call 83;refine (N.out _ E.out).mono ?_;rintro e w6 ⟨rfl,q⟩))
      go_ret3;exact k.out _ H9.out (E.out.go q).below
     | some v =>
      obtain⟨ap,aq,aD,x,hx,hm⟩:=jd8 hv;have U:=jnz I.out d hv;have aw:=jnQ I.out hx hm;have ay:=I.out.low hx hm;have av:=jg3 hx;rw[ap,aq] at N;rw[List.length_map] at aD;obtain⟨⟨z,p⟩,ab⟩:∃ e,m[v]? = some e:=⟨_,List.getElem?_eq_getElem aD⟩
      obtain rfl:z=x:=by
       have S:(m.map (·.1))[v]? = some z:=by rw[List.getElem?_map,ab];rfl
       rw[hx] at S;exact (Option.some.inj S).symm
      have B:=Lib.hid ab
      obtain⟨g,rfl⟩:∃ g,ta=some ⟨g,0,none⟩:=by
       rcases Y.out.tab.own.2 with⟨S,h2⟩ | ⟨g,cap,aW,S,_⟩
       ·omega
       ·injection S with S
        exact⟨g,S⟩
      have aG:Hid (∀ W,FitAt w F W m (.slice (some ⟨g,0,none⟩) m.length tc) (.slice f D.length j) D->Calls Tryz.prog 84 #[.agg (skv z.sk p.ss)] W fun e w'=>∃ (y:Sk) (s:SS),y=jpr z.sk/\e=.returned (.tuple #[.agg (skv y s),.int .i64 0])/\s.At w'.heap.size w' y/\s.From W.heap.size/\Bw W w'):=fun W h=>jup (I.out.good z (List.mem_of_getElem? hx)) hm (h.tab.at_ _ (List.mem_of_getElem? B.out)).s
      have H:Hid (∀ (y:Sk) (s:SS),y=jpr z.sk->(m.set v (⟨z.l,y,z.seen⟩,(⟨p.la,p.ll,p.lc,s⟩:SerP))).map (fun e:Ser × SerP=>e.1)=jdZ (m.map (·.1)) v):=fun y s hy=>by
       rw[List.map_set,av,hy];rfl
      have P:Hid (fit b (l.map (·.1))=(fit b (jdZ (m.map (·.1)) v)).map fun r=>(r.1,(D++[v])++r.2)):=by
       rw[Hid,n.out,U,Option.map_map];congr 1;funext r;simp
      have ae:=Lib.hid ay;have ad:Hid ((D++[v]).length+mu (jdZ (m.map (·.1)) v)<=80):=by rw[Hid,List.length_append];simp;omega
      have aZ:D.length<80:=by omega
      generalize jdZ (m.map (·.1)) v=L2 at H P ae ad;generalize jbh (m.map (·.1))=cc at L O hc d;obtain⟨k0,k1⟩:=O;have ar:cc<=4400000000000:=by omega
      clear k1 aa hv hc ap aq hx hm U aw ay av ab
      go_wp2_with (first
       | (go_at_call 32;refine L.out.mono ?_;rintro e w5 ⟨rfl,T⟩;have E:=Lib.hid (Y.out.go T);have d1:w5.cell? ⟨F,1,none⟩=some (.slice (some ⟨g,0,none⟩) m.length tc):=cCc E.out.box 1)
       | (go_at_call 83;refine (N.out _ E.out).mono ?_;rintro e w6 ⟨rfl,q⟩;have C:=Lib.hid (E.out.go q);have f1:w6.cell? ⟨F,1,none⟩=some (.slice (some ⟨g,0,none⟩) m.length tc):=cCc C.out.box 1;have e1:w6.cell? ⟨g,v*12+1,none⟩=some (.int .i64 z.sk.kind):=jaA C.out.tab.own (jaN (i:=1) B.out (by decide));have e2:w6.cell? ⟨g,v*12+2,none⟩=some (.int .i64 z.sk.level):=jaA C.out.tab.own (jaN (i:=2) B.out (by decide));have e3:w6.cell? ⟨g,v*12+3,none⟩=some (.slice p.ss.ea p.ss.el p.ss.ec):=jaA C.out.tab.own (jaN (i:=3) B.out (by decide));have e4:w6.cell? ⟨g,v*12+4,none⟩=some (.int .i64 z.sk.hb):=jaA C.out.tab.own (jaN (i:=4) B.out (by decide));have e5:w6.cell? ⟨g,v*12+5,none⟩=some (.string z.sk.hr):=jaA C.out.tab.own (jaN (i:=5) B.out (by decide));have e6:w6.cell? ⟨g,v*12+6,none⟩=some (.int .i64 z.sk.cr):=jaA C.out.tab.own (jaN (i:=6) B.out (by decide));have e7:w6.cell? ⟨g,v*12+7,none⟩=some (.int .i64 z.sk.cc):=jaA C.out.tab.own (jaN (i:=7) B.out (by decide));have e8:w6.cell? ⟨g,v*12+8,none⟩=some (.slice p.ss.ca p.ss.cl p.ss.cc):=jaA C.out.tab.own (jaN (i:=8) B.out (by decide));have e9:w6.cell? ⟨g,v*12+9,none⟩=some (.int .i64 z.sk.gf):=jaA C.out.tab.own (jaN (i:=9) B.out (by decide));have aI:w6.cell? ⟨g,v*12+10,none⟩=some (.slice p.ss.ga p.ss.gl p.ss.gc):=jaA C.out.tab.own (jaN (i:=10) B.out (by decide));clear N L)
       | (go_at_call 84;refine (aG.out _ C.out).mono ?_;rintro e w7 ⟨y,s,hy,rfl,az,aA,ao⟩;have HY:=Lib.hid hy;clear hy))
      obtain⟨G,ak,am,c,a0⟩:=jab w7 (skv y s) 44;have A:=Lib.hid ((C.out.go ao).go c);have aB:=C.out.below.size;have aU:=ao.size;have aV:=c.size;have aL:=jlB C.out.tab.own;have aJ:=(Array.getElem?_eq_some_iff.1 C.out.box).1;have aM:=C.out.own.lt;have aT:=C.out.lo;obtain⟨V,hV,ai,ag,ah⟩:=jmS y s A.out.tab.own B.out;have HV:=Lib.hid (A.out.low B.out ag ah ai (az.go c) ⟨w6.heap.size,aA,aL,aB,aJ,fun b hb=>(aM b hb).2⟩);obtain⟨r0,r1,r2,r3,r4,r5,r6,r7,r8,r9⟩:=jbg am;have q1:G.cell? ⟨F,1,none⟩=some (.slice (some ⟨g,0,none⟩) m.length tc):=cCc A.out.box 1;have s1:G.cell? ⟨g,v*12+1,none⟩=some (.int .i64 z.sk.kind):=jaA A.out.tab.own (jaN (i:=1) B.out (by decide));have t1:G.frozen? ⟨g,v*12+1,none⟩=false:=jaT A.out.tab.own _;have s2:G.cell? ⟨g,v*12+2,none⟩=some (.int .i64 z.sk.level):=jaA A.out.tab.own (jaN (i:=2) B.out (by decide));have t2:G.frozen? ⟨g,v*12+2,none⟩=false:=jaT A.out.tab.own _;have s3:G.cell? ⟨g,v*12+3,none⟩=some (.slice p.ss.ea p.ss.el p.ss.ec):=jaA A.out.tab.own (jaN (i:=3) B.out (by decide));have t3:G.frozen? ⟨g,v*12+3,none⟩=false:=jaT A.out.tab.own _;have s4:G.cell? ⟨g,v*12+4,none⟩=some (.int .i64 z.sk.hb):=jaA A.out.tab.own (jaN (i:=4) B.out (by decide));have t4:G.frozen? ⟨g,v*12+4,none⟩=false:=jaT A.out.tab.own _;have s5:G.cell? ⟨g,v*12+5,none⟩=some (.string z.sk.hr):=jaA A.out.tab.own (jaN (i:=5) B.out (by decide));have t5:G.frozen? ⟨g,v*12+5,none⟩=false:=jaT A.out.tab.own _
      have s6:G.cell? ⟨g,v*12+6,none⟩=some (.int .i64 z.sk.cr):=jaA A.out.tab.own (jaN (i:=6) B.out (by decide));have t6:G.frozen? ⟨g,v*12+6,none⟩=false:=jaT A.out.tab.own _;have s7:G.cell? ⟨g,v*12+7,none⟩=some (.int .i64 z.sk.cc):=jaA A.out.tab.own (jaN (i:=7) B.out (by decide));have t7:G.frozen? ⟨g,v*12+7,none⟩=false:=jaT A.out.tab.own _;have s8:G.cell? ⟨g,v*12+8,none⟩=some (.slice p.ss.ca p.ss.cl p.ss.cc):=jaA A.out.tab.own (jaN (i:=8) B.out (by decide));have t8:G.frozen? ⟨g,v*12+8,none⟩=false:=jaT A.out.tab.own _;have s9:G.cell? ⟨g,v*12+9,none⟩=some (.int .i64 z.sk.gf):=jaA A.out.tab.own (jaN (i:=9) B.out (by decide));have t9:G.frozen? ⟨g,v*12+9,none⟩=false:=jaT A.out.tab.own _;have aR:G.cell? ⟨g,v*12+10,none⟩=some (.slice p.ss.ga p.ss.gl p.ss.gc):=jaA A.out.tab.own (jaN (i:=10) B.out (by decide));have aS:G.frozen? ⟨g,v*12+10,none⟩=false:=jaT A.out.tab.own _;rw[ak];clear e1 e2 e3 e4 e5 e6 e7 e8 e9 aI d1 f1 am ak c ai ag ah az aA;go_region;clear s1 s2 s3 s4 s5 s6 s7 s8 s9 aR t1 t2 t3 t4 t5 t6 t7 t8 t9 aS r0 r1 r2 r3 r4 r5 r6 r7 r8 r9 q1 hV;have R:=Lib.hid (HV.out.go ((Below.refl V.heap.size V).drew));have aH:=Lib.hid (jrT F w.heap.size _ _ D v V.drew R.out.box R.out.lo R.out.own R.out.pF (by omega));go_wp2_with (go_at_call 85;refine aH.out.mono ?_;rintro e w9 ⟨rfl,X⟩);obtain⟨a3,Z⟩:=R.out.told X;obtain⟨aP,aQ,rfl⟩:=jbD Z.own;have ac:=Lib.hid Z;have aN:jxu F w9=(D++[v]).length:=jrN Z.box;have ax:jxu F wr=D.length:=jrN Y.out.box;clear Z X;go_roundw
      case rel=>exact⟨m.set v (⟨z.l,y,z.seen⟩,⟨p.la,p.ll,p.lc,s⟩),some ⟨g,0,none⟩,tc,aP,aQ,D++[v],ac.out,by rw[H.out y s HY.out];exact ae.out,by rw[H.out y s HY.out];exact P.out,by rw[H.out y s HY.out];exact ad.out⟩
      case measure=>rw[aN,ax,List.length_append];simp;omega
end
section
open Go.Shelf
structure Kept (q:Nat->Prop) (A B:World):Prop where
 os:B.os=A.os
 tape:B.tape=A.tape
 output:B.output=A.output
 size:A.heap.size<=B.heap.size
 block:∀ k,k<A.heap.size->q k->B.heap[k]? = A.heap[k]?
section
variable {q r:Nat->Prop} {A B C:World}
theorem Kept.of (h:Bw A B):Kept q A B:=⟨h.os,h.tape,h.output,h.size,fun k C _=>h.block k C⟩
theorem Kept.refl:Kept q A A:=.of (.refl _ _)
theorem Kept.trans (h:Kept q A B) (k:Kept q B C):Kept q A C:=⟨k.os.trans h.os,k.tape.trans h.tape,k.output.trans h.output,Nat.le_trans h.size k.size,fun i D E=>(k.block i (Nat.lt_of_lt_of_le D h.size) E).trans (h.block i D E)⟩
theorem Kept.mono (h:Kept q A B) (hr:∀ k,r k->q k):Kept r A B:=⟨h.os,h.tape,h.output,h.size,fun k C D=>h.block k C (hr k D)⟩
theorem Kept.drew (h:Kept q A B):Kept q A B.drew:=⟨h.os,h.tape,h.output,h.size,h.block⟩
theorem Kept.set (h:Kept q A B) {b:Nat} (hb:b<A.heap.size->¬ q b) (i:Nat) (v:Value):Kept q A (B.setCell ⟨b,i,none⟩ v):=⟨h.os,h.tape,h.output,by rw[World.size_setCell];exact h.size,fun k D C=>(jaa (p:=⟨b,i,none⟩) (fun e=>hb (by have e:b=k:=e;omega) (by have e:b=k:=e;exact e▸C)) v).trans (h.block k D C)⟩
theorem Kept.below {n:Nat} (h:Kept q A B) (D:∀ k,k<n->q k) (E:n<=A.heap.size):Below n A B:=⟨h.os,h.tape,h.output,h.size,fun k C=>h.block k (Nat.lt_of_lt_of_le C E) (D k C)⟩
theorem Kept.known {k:Nat} {o:Obj} (h:Kept q A B) (C:q k) (e:A.heap[k]? = some o):B.heap[k]? = some o:=(h.block k (Array.getElem?_eq_some_iff.1 e).1 C).trans e
theorem Kept.cell {p:Addr} {v:Value} (h:Kept q A B) (C:q p.block) (e:A.cell? p=some v):B.cell? p=some v:=(jdB (h.block _ (World.block_lt_of_cell? A _ e) C)).trans e
theorem GW.keep (h:GW A) (E:Kept q A B) (G:∀ k,k<4->q k):GW B :=
 have D:∀ {p:Addr} {v:Value},p.block<4->A.cell? p=some v->B.cell? p=some v:=fun F e=>E.cell (G _ F) e
 ⟨⟨fun c C=>D (by show 1<4;decide) (h.utf8.1 c C),fun i C=>⟨D (by show 2<4;decide) (h.utf8.2 i C).1,D (by show 2<4;decide) (h.utf8.2 i C).2⟩⟩,
  let ⟨m,hm⟩:=h.maxLen;⟨m,D (by show 3<4;decide) hm⟩,Nat.le_trans h.size E.size⟩
theorem GT.keep (h:GT A) (C:Kept q A B) (D:∀ k,k<4->q k):GT B:=C.cell (p:=⟨0,0,none⟩) (D _ (by show 0<4;decide)) h
theorem SlC.keep {α:Type} {enc:α->List Value} {k:Nat} {a:Option Addr} {len cap:Nat} {l:List α} (h:SlC enc k A.heap.size A a len cap l) (C:Kept q A B) (D:∀ z,a=some z->0<cap->q z.block):SlC enc k B.heap.size B a len cap l :=
 (h.frame D C.block).mono C.size
theorem Tab.keep {a:Option Addr} {len cap:Nat} {l:List (Ser × SerP)} (h:Tab A.heap.size A a len cap l) (C:Kept q A B) (E:∀ z,a=some z->0<cap->q z.block) (F:∀ e∈l,e.2.Off q):Tab B.heap.size B a len cap l :=
 ⟨h.row.keep C E,fun e D=>((h.at_ e D).frame (F e D) C.block).mono C.size⟩
end
structure TnP where
 m:List (Ser × SerP)
 ta:Option Addr
 tc:Nat
 nx:Int
 ga:Option Addr
 gn:Nat
 gc:Nat
 lg:Lg
 la:Option Addr
 lc:Nat
 tm:Int
 id:Int
 bud:Int
 life:Int
 A:Int
 B:Int
def TnP.vals (p:TnP):Array Value:=#[.slice p.ta p.m.length p.tc,.int .u64 p.nx,.slice p.ga p.gn p.gc,.int .u64 p.lg.before,.slice p.la p.lg.l.length p.lc,.int .u64 p.tm,.int .u64 p.id,.int .i64 p.bud,.int .u64 p.life,.int .u64 p.A,.int .u64 p.B]
def TnP.tab (p:TnP):List Ser:=p.m.map (·.1)
structure TnP.Off (p:TnP) (q:Nat->Prop):Prop where
 t:∀ z,p.ta=some z->0<p.tc->q z.block
 m:∀ e∈p.m,e.2.Off q
 l:∀ z,p.la=some z->0<p.lc->q z.block
structure TnP.At (p:TnP) (w:World):Prop where
 tab:Tab w.heap.size w p.ta p.m.length p.tc p.m
 qt:QT p.tab
 log:jii w.heap.size w p.la p.lg.l.length p.lc p.lg.l
 ok:∀ x∈p.lg.l,jmc x
 bef:U64 p.lg.before
 tm:U64 p.tm
 bud:jbO p.bud=true
structure TnIn (w:World) (b:Nat) (p:TnP):Prop where
 box:w.heap[b]? = some (.cells p.vals 81 (0,0))
 at_:p.At w
 off:p.Off (· ≠ b)
section
variable {p:TnP} {q r:Nat->Prop} {A B:World} {b:Nat}
theorem TnP.Off.imp (h:p.Off q) (C:∀ k,q k->r k):p.Off r:=⟨fun z A B=>C _ (h.t z A B),fun e D=>(h.m e D).imp C,fun z A B=>C _ (h.l z A B)⟩
theorem TnP.At.fit (h:p.At A):jdl p.m:=jeG h.tab h.qt.fine
theorem TnP.At.off (h:p.At A):p.Off (· < A.heap.size):=⟨fun z B C=>(h.tab.row.2.2.2.2 z B C).2,fun e D=>(h.tab.at_ e D).off,fun z B C=>(h.log.2.2.2.2 z B C).2⟩
theorem TnP.At.keep (h:p.At A) (D:Kept q A B) (C:p.Off q):p.At B:=⟨h.tab.keep D C.t C.m,h.qt,h.log.keep D C.l,h.ok,h.bef,h.tm,h.bud⟩
theorem TnP.At.go (h:p.At A) (hb:Bw A B):p.At B:=h.keep (q:=fun _=>True) (.of hb) (h.off.imp fun _ _=>trivial)
theorem TnIn.keep (h:TnIn A b p) (C:Kept q A B) (hb:q b) (D:p.Off q):TnIn B b p:=⟨C.known hb h.box,h.at_.keep C D,h.off⟩
theorem TnIn.go (h:TnIn A b p) (hb:Bw A B):TnIn B b p:=⟨Go.Proofs.YtnegciklhanmbaaGreatDoor.known hb (Nat.le_refl _) h.box,h.at_.go hb,h.off⟩
theorem TnIn.lt (h:TnIn A b p):b<A.heap.size:=(Array.getElem?_eq_some_iff.1 h.box).1
end
theorem jhQ (b i:Nat) (w:World):Calls Tryz.prog 26 #[.pointer (some ⟨b,i,none⟩)] w fun e w'=>e=.returned (.bool false)/\w'=w:=by
 go_enter Tryz.func26,Tryz.ntmps26;go_wp2_with fail;go_ret;exact⟨rfl,rfl⟩
end
section
open Go.Shelf
theorem jjl {k:Nat} {s t:Nat × Bd} (F:s.2.Ok k s.1) (ht:t.2.Ok k t.1):(jbz s t).2.Ok k (jbz s t).1:=by
 have A:max s.1 t.1<=jdQ k:=by have:=jlz F;have:=jlz ht;omega
 have D:=(jcv (max s.1 t.1) A _ s rfl F).1;have E:=(jcv (max s.1 t.1) A _ t rfl ht).1;rw[(jcv (max s.1 t.1) A _ s rfl F).2,show max s.1 (max s.1 t.1)=max s.1 t.1 by omega] at D;rw[(jcv (max s.1 t.1) A _ t rfl ht).2,show max t.1 (max s.1 t.1)=max s.1 t.1 by omega] at E;unfold jbz
 cases G:(jbL s (max s.1 t.1)).2.merge (jbL t (max s.1 t.1)).2 with
 | some B=>exact jnP D E G
 | none =>
  obtain⟨C,z,H⟩:=jfe D E G;simp only[H,Option.getD_some];exact jnP (jb5 D C) (jb5 E C) H
theorem jpT {k Q G:Nat} {S P:Bd} {v1 v2:Value} {w:World} (D:S.Ok k Q) (E:P.Ok k G) (hg:GT w) (aG:SkB w v1 k Q S) (aH:SkB w v2 k G P) :
  Calls Tryz.prog 51 #[v1,v2] w fun e w'=>∃ x,e=.returned (.tuple #[x,.int .i64 0])/\SkB w' x k (jbz (Q,S) (G,P)).1 (jbz (Q,S) (G,P)).2/\Bw w w':=by
 have o:=jjl (s:=(Q,S)) (t:=(G,P)) D E;obtain⟨y1,s1,ao,rfl,aa⟩:=aG;obtain⟨y2,s2,ap,rfl,ab⟩:=aH;obtain⟨W0,aM,ak,al,am,H,aP⟩:=jbF w (skv y1 s1) 44 (skv y2 s2) 44 zsV 44;have ay:=Lib.hid (jc8 (w:=W0) D ⟨y1,s1,ao,rfl,aa.go H⟩);have Z:Hid (∀ W,Bw W0 W->Calls Tryz.prog 47 #[.agg (skv y2 s2)] W fun e w'=>∃ b,e=.returned (.tuple #[.agg #[b,.int .i64 k,.int .i64 G],.nilIface])/\BdAt w' b P/\Bw W w'):=fun W hB=>jc8 E ⟨y2,s2,ap,rfl,(ab.go H).go hB⟩
 obtain⟨L,hL⟩:∃ L:Nat,(jbz (Q,S) (G,P)).1=L:=⟨_,rfl⟩;obtain⟨B,f⟩:∃ B:Bd,(jbz (Q,S) (G,P)).2=B:=⟨_,rfl⟩;rw[hL,f] at o ⊢
 have HT:Hid (∀ y z W,BdAt W y S->BdAt W z P->GT W->Calls Tryz.prog 92 #[.agg #[y,.int .i64 k,.int .i64 Q],.agg #[z,.int .i64 k,.int .i64 G]] W fun e w'=>∃ v',e=.returned (.tuple #[.agg #[v',.int .i64 k,.int .i64 L],.nilIface])/\BdAt w' v' B/\Bw W w'):=by
  rw[<- f,<- hL];exact fun y z W h1 h2 aF=>jpc y z S P k Q G W h1 h2 D E aF
 have HN:Hid (∀ b W,BdAt W b B->Calls Tryz.prog 78 #[.agg #[b,.int .i64 k,.int .i64 L],.nilIface] W fun e w'=>∃ x,e=.returned (.tuple #[x,.int .i64 0])/\SkB w' x k L B/\Bw W w'):=fun b W h=>joc b B k L W h o
 obtain⟨c0,c1,c2,c3,c4,c5,c6,c7,c8,c9⟩:=jbg ak;have av:=Lib.hid (hg.go H);have aD:=Lib.hid al;have aE:=Lib.hid am;have q:=Lib.hid H;clear ak al am H aa ab ao ap o D E hL f hg;go_enter Tryz.func51,Tryz.ntmps51;go_wp2_with fail;refine ay.out.mono ?_;rintro e w1 ⟨y,rfl,j,T⟩;obtain⟨T1,aI,rfl⟩:=jaD j;obtain⟨W2,aN,ai,c,aQ⟩:=jab w1 #[.iface T1 aI,.int .i64 k,.int .i64 Q] 117;have A:=T.trans (c.mono T.size);have Z:=Lib.hid (Z.out W2 A);have an:=known A (Nat.le_refl _) aD.out;have aw:=Lib.hid (j.go c);have aC:=Lib.hid ai;have X:=Lib.hid A;have aL:=T.size;obtain⟨d0,d1,d2,d3,d4,d5,d6,d7,d8,d9⟩:=jbg an;clear j T ai c A an;go_wp2_with fail;refine Z.out.mono ?_;rintro e w3 ⟨z,rfl,l,O⟩;obtain⟨T2,aJ,rfl⟩:=jaD l;obtain⟨W4,aO,aj,d,aR⟩:=jab w3 #[.iface T2 aJ,.int .i64 k,.int .i64 G] 117;have C:=O.trans (d.mono O.size);have a:=known C (Nat.le_refl _) aC.out;have M:Bw W0 W4:=X.out.trans (C.mono X.out.size);have aB:=Lib.hid (HT.out _ _ W4 (aw.out.go C) (l.go d) (av.out.go M));obtain⟨q0,q1,q2⟩:=cl3 a;obtain⟨x0,x1,x2⟩:=cl3 aj;have ar:=Lib.hid a;have Y:=Lib.hid M;clear l O aj d C a M;go_wp2_with fail;refine aB.out.mono ?_;rintro e w5 ⟨b5,rfl,p,m⟩;obtain⟨T5,aK,rfl⟩:=jaD p;have J:=known m (Nat.le_refl _) ar.out;obtain⟨p0,p1,p2⟩:=cl3 J;obtain⟨g0,g1,g2⟩:=cz3 J;obtain⟨V,hV,ah,g,ag⟩:=jb3 (.iface T5 aK) (.int .i64 k) (.int .i64 L) J;have ax:=Lib.hid (HN.out _ V (BdAt.set_work p J (by simp) (by simp) (by simp) g));have N:=Y.out.trans (m.mono Y.out.size)
 have r:Hid (Bw w V):=ag _ _ (q.out.trans (N.mono q.out.size)) (by omega);have az:Hid (V.heap[w.heap.size+2]? = some (.cells zsV 44 (0,0))):=(g.2 _ (by omega)).trans (known N (Nat.le_refl _) aE.out);obtain⟨r0,r1,r2⟩:=cl3 ah;clear J ah g ag p m N;go_wp2_with fail;refine ax.out.mono ?_;rintro e w6 ⟨x6,rfl,⟨R,F,aq,rfl,ac⟩,n⟩;have I:=known n (Nat.le_refl _) az.out;obtain⟨z0,z1,z2,z3,z4,z5,z6,z7,z8,z9⟩:=jbg I;obtain⟨f0,f1,f2,f3,f4,f5,f6,f7,f8,f9⟩:=jft I;obtain⟨U,hU,af,ae,ad⟩:=ja9 (.int .i64 R.kind) (.int .i64 R.level) (.slice F.ea F.el F.ec) (.int .i64 R.hb) (.string R.hr) (.int .i64 R.cr) (.int .i64 R.cc) (.slice F.ca F.cl F.cc) (.int .i64 R.gf) (.slice F.ga F.gl F.gc) I;obtain⟨k0,k1,k2,k3,k4,k5,k6,k7,k8,k9⟩:=jbg af;have aA:Hid (SkB U (.agg (skv R F)) k L B):=SkB.apart ⟨R,F,aq,rfl,ac⟩ I (fun i u=>jcd u) ae;have au:Hid (Bw w U):=ad _ _ (r.out.trans (n.mono r.out.size)) (by omega);clear I af ae ad aq ac n;go_wp2_with fail;exact bodyPost_ret (v:=.tuple #[.agg (skv R F),.int .i64 0]) (by simp[results,Tryz.f51,go_sem,k0,k1,k2,k3,k4,k5,k6,k7,k8,k9]) rfl ⟨_,rfl,aA.out,au.out⟩
end
def jdk (k:Nat) (S:List (Nat × Bd)):Nat × Bd:=S.foldl jbz (0,jdA k)
theorem jgz {k:Nat}:∀ (S:List (Nat × Bd)) (s:Nat × Bd),s.2.Ok k s.1->(∀ t∈S,t.2.Ok k t.1)->(S.foldl jbz s).2.Ok k (S.foldl jbz s).1
 | [],_,h,_=>h
 | t::S,_,h,hS=>jgz S _ (jjl h (hS t List.mem_cons_self)) (fun u A=>hS u (List.mem_cons_of_mem _ A))
theorem joh {k:Nat} (B:k=1\/k=2\/k=3) {S:List (Nat × Bd)} (A:∀ t∈S,t.2.Ok k t.1):(jdk k S).2.Ok k (jdk k S).1:=jgz S _ (jjs k B) A
def skB (x:Sk):Nat × Bd:=(x.level.toNat,jxP x)
def jdw (kind:Int) (x:Ser):List (Nat × Bd):=if x.sk.kind==kind then [skB x.sk] else []
def jaG (L:List Ser) (kind:Int) (ps:List Nat):List (Nat × Bd):=ps.flatMap fun i=>match L[i]? with
 | some x=>jdw kind x
 | none=>[]
theorem jrL {L:List Ser} {i:Nat} {x:Ser} (h:L[i]? = some x) (kind:Int):jaG L kind [i]=jdw kind x:=by
 simp[jaG,h]
theorem jpg (L:List Ser) (kind:Int) (p q:List Nat):jaG L kind (p++q)=jaG L kind p++jaG L kind q:=List.flatMap_append
theorem jlS {k L:Nat} {B:Bd} (h:B.Ok k L):skB (jcy k L B)=(L,B):=by
 unfold skB;rw[jqd h,(jaL k L B).2,Int.toNat_natCast]
theorem jvB {x:Sk} (h:SkGood x) {k:Nat} (D:x.kind=(k:Int)):(skB x).2.Ok k (skB x).1:=by
 obtain⟨C,L,B,rfl,A⟩:=h;rw[(jaL C L B).1] at D;obtain rfl:C=k:=by omega
 rw[jlS A];exact A
theorem jph {x:Ser} (h:SkGood x.sk) {k:Nat}:∀ t∈jdw (k:Int) x,t.2.Ok k t.1:=by
 intro t ht;unfold jdw at ht;split at ht
 ·rename_i e
  obtain rfl:=List.mem_singleton.1 ht;exact jvB h (by simpa using e)
 ·cases ht
theorem jlG {L:List Ser} (h:∀ x∈L,SkGood x.sk) {k:Nat} (C:List Nat):∀ t∈jaG L (k:Int) C,t.2.Ok k t.1:=by
 intro t ht;unfold jaG at ht;obtain⟨i,-,A⟩:=List.mem_flatMap.1 ht
 cases B:L[i]? with
 | none=>rw[B] at A;cases A
 | some x =>
  rw[B] at A;exact jph (h x (List.mem_of_getElem? B)) t A
def jgP (E kind:Int):Int:=if E==0 then (if kind==1||kind==2||kind==3 then 0 else 101) else E
theorem jxB {E kind:Int} (h:jgP E kind=0):E=0/\∃ k:Nat,kind=(k:Int)/\(k=1\/k=2\/k=3):=by
 unfold jgP at h;split at h
 ·rename_i e
  split at h
  ·rename_i f
   simp only[Bool.or_eq_true,beq_iff_eq] at e f;exact⟨e,kind.toNat,by omega,by omega⟩
  ·cases h
 ·rename_i e
  rw[h] at e;exact absurd rfl e
def jne (kind E:Int) (S:List (Nat × Bd)):Sk:=if jgP E kind=0 then jcy kind.toNat (jdk kind.toNat S).1 (jdk kind.toNat S).2 else jgY 0 0 []
def jel (kind E:Int) (S:List (Nat × Bd)) (w:World) (e:Ending) (w':World):Prop:=∃ (y:Sk) (s:SS),y=jne kind E S/\e=.returned (.tuple #[.agg (skv y s),.int .i64 (jgP E kind)])/\s.At w'.heap.size w' y/\Bw w w'
def SkNil:SS:=⟨none,0,0,none,0,0,none,0,0⟩
theorem jn2 (w:World):SkNil.At w.heap.size w (jgY 0 0 []):=⟨SlC.nil,SlC.nil,SlC.nil⟩
theorem jn6 {kind E:Int} {S:List (Nat × Bd)} (h:jgP E kind≠0):jne kind E S=jgY 0 0 []:=by unfold jne;rw[if_neg h]
theorem jn7 {k:Nat} {S:List (Nat × Bd)} (A:k=1\/k=2\/k=3):jgP 0 (k:Int)=0/\jne (k:Int) 0 S=jcy k (jdk k S).1 (jdk k S).2:=by
 have h:jgP 0 (k:Int)=0:=by unfold jgP;rw[if_pos (by rfl:((0:Int)==0)=true),if_pos (by simp;omega)]
 exact⟨h,by unfold jne;rw[if_pos h,Int.toNat_natCast]⟩
def jmE (T:List Ser) (l:List Lab):Option Ser:=if jax T l then T[jam T l]? else none
def jbd (T:List Ser) (l:List Lab) (k:Nat):Nat × Bd:=match jmE T l with
 | some x=>skB x.sk
 | none=>(0,jdA k)
def jdC (T:List Ser) (l:List Lab) (kind:Int):Bool:=match jmE T l with
 | some x=>x.sk.kind != kind
 | none=>false
def jed (T:List Ser) (l:List Lab) (k:Nat) (tm:Int) (its:List (Nat × Int)):Ser:=⟨l,jcy k (its.foldl jba (jbd T l k)).1 (its.foldl jba (jbd T l k)).2,tm⟩
def jcm (kind:Int):Bool:=kind==1||kind==2||kind==3
def jdL (T:List Ser) (tm bud kind:Int) (its:List (Nat × Int)) (l:List Lab):Except Int (List Ser × List Nat) :=
 if jcm kind then
  if jdC T l kind then .error 101 else
  if jce T (jed T l kind.toNat tm its) then (match fit bud (jf3 T (jed T l kind.toNat tm its)) with
   | some r=>.ok r
   | none=>.error 130) else .error 120
 else .error 101
def jdj (T:List Ser) (tm bud:Int) (s:ByteArray) (kind:Int) (its:List (Nat × Int)):Except Int (List Ser × List Nat) :=
 if 50<its.length then .error 181 else match jbP s with
  | none=>.error 40
  | some l=>jdL T tm bud kind its l
theorem jgh {kind:Int} (h:jcm kind=true):∃ k:Nat,kind=k/\(k=1\/k=2\/k=3):=by
 simp only[jcm,Bool.or_eq_true,beq_iff_eq] at h;rcases h with (h | h) | h
 ·exact⟨1,h,by omega⟩
 ·exact⟨2,h,by omega⟩
 ·exact⟨3,h,by omega⟩
theorem jlk {T:List Ser} {l:List Lab} (h:jax T l=true):∃ x,T[jam T l]? = some x/\jmE T l=some x:=by
 unfold jmE;rw[if_pos h];unfold jax at h
 cases A:T[jam T l]? with
 | none=>rw[A] at h;cases h
 | some x=>exact⟨x,rfl,rfl⟩
theorem jlj {T:List Ser} {l:List Lab} (h:jax T l=false):jmE T l=none:=by unfold jmE;rw[h];rfl
theorem jn5 {T:List Ser} {l:List Lab} {k:Nat} {x:Ser} (G:jmE T l=some x) (E:x.good) (A:jdC T l (k:Int)=false):x.sk=jcy k (jbd T l k).1 (jbd T l k).2/\(jbd T l k).2.Ok k (jbd T l k).1:=by
 unfold jdC at A;unfold jbd;rw[G] at A ⊢;obtain⟨D,L,B,e,C⟩:=E.sk;dsimp only at A ⊢;rw[e] at A ⊢;rw[(jaL D L B).1] at A;have F:D=k:=by simp at A;omega
 subst F;rw[jlS C];exact⟨rfl,C⟩
theorem jn4 {T:List Ser} {l:List Lab} {k:Nat} (C:∀ x∈T,x.good) (D:k=1\/k=2\/k=3) (B:jdC T l (k:Int)=false):(jbd T l k).2.Ok k (jbd T l k).1:=by
 cases A:jmE T l with
 | some x =>
  refine (jn5 A (C x ?_) B).2;unfold jmE at A;split at A
  ·exact List.mem_of_getElem? A
  ·cases A
 | none =>
  unfold jbd;rw[A];exact jjs k D
theorem jme {k:Nat} {s:Nat × Bd} (A:List (Nat × Int)) (B:jef A) (C:s.2.Ok k s.1):(A.foldl jba s).2.Ok k (A.foldl jba s).1:=joi A _ B C
def jlM (T:List Ser) (n:Nat):Prop:=∀ x∈T,x.sk.gl.length+n<=300
theorem jqg {k L:Nat} {B:Bd}:(jcy k L B).gl.length=jc0 B:=by cases B<;>rfl
theorem jpy {T:List Ser} {l:List Lab} {k n:Nat} (E:∀ x∈T,x.good) (hr:jlM T n) (F:n<=300):jc0 (jbd T l k).2+n<=300:=by
 unfold jbd
 cases A:jmE T l with
 | none =>
  show jc0 (jdA k)+n<=300;unfold jdA;split
  ·show 0+n<=300;omega
  ·split
   ·show 0+n<=300;omega
   ·show 0+n<=300;omega
 | some x =>
  have C:x∈T:=by
   unfold jmE at A;split at A
   ·exact List.mem_of_getElem? A
   ·cases A
  obtain⟨G,L,B,e,D⟩:=(E x C).sk;have h:=hr x C;rw[e,jqg] at h;show jc0 (skB x.sk).2+n<=300;rw[e,jlS D];exact h
theorem jjh {T:List Ser} {l:List Lab} {k:Nat} {tm:Int} {A:List (Nat × Int)} (E:∀ x∈T,x.good) (M:k=1\/k=2\/k=3) (L:jdC T l (k:Int)=false) (J:jef A) (hr:jlM T A.length) (O:A.length<=300) (N:jcK l) (C:jai l=true) (ht:U64 tm) :
  (jed T l k tm A).good/\jaI (jed T l k tm A)=true:=by
 have B:=jme A J (jn4 E M L);have hb:jc0 (A.foldl jba (jbd T l k)).2<=300:=Nat.le_trans (jjt A _) (jpy E hr O);have D:∀ f g,(A.foldl jba (jbd T l k)).2=.bkt f g->g.length<=300:=fun f g e=>by rw[e] at hb;exact hb
 obtain⟨F,G,H,I⟩:=jnB B D;have P:l.length<=6:=by simp[jai] at C;exact C.1.2
 refine⟨⟨⟨N,by show l.length<=10;omega,F,G,H,jki B,I,ht⟩,⟨_,_,_,rfl,B⟩⟩,?_⟩;show (jai l&&jfv (jcy _ _ _))=true;rw[C,jh0 B];rfl
theorem jxv {T:List Ser} {x:Ser} (B:QT T) (C:x.good) (h:jce T x=true):QT (jf3 T x):=⟨jr5 h,fun y A=>by
 simp only[jf3,List.mem_append,List.mem_cons] at A;rcases A with A | rfl | A
 ·exact B.good y (List.mem_of_mem_take A)
 ·exact C
 ·exact B.good y (List.mem_of_mem_drop A)⟩
end Go.Proofs.YtnegciklhanmbaaGreatDoor

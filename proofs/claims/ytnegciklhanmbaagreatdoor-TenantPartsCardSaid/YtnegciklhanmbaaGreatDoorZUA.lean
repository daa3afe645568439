/- series.add. series.Put: printed by wip/tools/gen_t5.py. series.Put. series.Cost. Series of Go's sizes; aviarylaw12.shown. What rows have in common: series opened, the tables of unicode/utf8. Printed by gen_rz.py. A log as plain data: entries and their sums, which logs are right, what an append does. What sums bytes is left open. No program in sight. -/
import Derived.Lib.LaidTab
import Derived.Lib.LaidU8T
import Derived.Test.YtnegciklhanmbaaGreatDoorZT3
set_option maxHeartbeats 4000000
set_option maxRecDepth 100000
namespace Go.Proofs.YtnegciklhanmbaaGreatDoor
open Go Go.RowKit
section
open Go.Shelf
def Loose (w:World) (b:Nat):Prop:=∃ c t,w.heap[b]? = some (.cells c t (0,0))
theorem Loose.of_heap {A B:World} {b:Nat} (h:Loose A b) (e:B.heap[b]? = A.heap[b]?):Loose B b:=by obtain⟨c,t,h⟩:=h;exact⟨c,t,e.trans h⟩
theorem Loose.lt {A:World} {b:Nat} (h:Loose A b):b<A.heap.size:=by obtain⟨c,t,h⟩:=h;exact (Array.getElem?_eq_some_iff.1 h).1
theorem Loose.go {A B:World} {b:Nat} (h:Loose A b) (hb:Bw A B):Loose B b:=h.of_heap (hb.block b h.lt)
theorem ji0 {w:World} {A e size n m:Nat} {v:Value} {xs:List Value} (h:w.ownsRow A e size v n xs) {a:Option Addr} {c:Nat} (B:v=.slice a m c) {x:Addr} (E:a=some x):Loose w x.block:=by
 subst E;rcases h.2 with⟨rfl,_⟩ | ⟨g,cap,C,rfl,_,D,_⟩
 ·cases B
 ·injection B with h1 h2 h3
  injection h1 with h1
  subst h1;exact⟨_,_,D⟩
def jbH (w:World) (e:Ser × SerP):Prop:=∀ z,e.2.la=some z->0<e.2.lc->Loose w z.block
theorem jfi (a:Option Addr) (len cap:Nat) (l:List Lab) (w:World) (H:SlE Lab.enc 2 w.heap.size w a len l) (R:len<2147483648) :
  Calls Tryz.prog 33 #[.slice a len cap] w fun e w'=>∃ M C,e=.returned (.slice M len C)/\SlC Lab.enc 2 w'.heap.size w' M len C l/\(∀ x,M=some x->w.heap.size<=x.block)/\Bw w w'/\(∀ x,M=some x->Loose w' x.block):=by
 have Z:=jiM a len cap;have B:=H.1
 cases a with
 | none =>
  have Q:l=[]:=by
   cases l with
   | nil=>rfl
   | cons y ys=>obtain⟨b,off,e,_⟩:=H.2 0 y rfl;cases e
  subst Q;obtain rfl:len=0:=B;clear H;go_enter Tryz.func33,Tryz.ntmps33;go_wp2_with fail;go_ret;exact⟨none,0,rfl,SlC.nil,(fun x h=>by cases h),Below.refl _ _,(fun x h=>by cases h)⟩
 | some a =>
  have G:Bw w (w.alloc (.cells #[] 93)):=(Below.refl _ w).alloc (Nat.le_refl _) _;have E:(w.alloc (.cells #[] 93)).ownsRow w.heap.size 93 2 (.slice (some ⟨w.heap.size,0,none⟩) 0 0) 0 []:=⟨rfl,.inr ⟨w.heap.size,0,#[],rfl,Nat.le_refl _,World.alloc_heap_new _ _,Nat.le_refl _,by unfold maxLen;omega,rfl,rfl⟩⟩;have I:=H.go G;obtain⟨v4,S,J,A,O,Y,-,-⟩:=jbu Tryz.prog (cap:=cap) 88 jkr jjL rfl (by decide) E G (Nat.le_refl _) (by simp) (fun _=>rfl) I jj7 (by omega) R (by decide);rw[Nat.zero_add,List.nil_append,B] at A;have D:∀ a c,v4=.slice a l.length c->∀ x,a=some x->Loose S x.block:=fun a c V x X=>ji0 A V X
  obtain⟨T,c4,F,L,P⟩:=jaM (enc:=Lab.enc) (fun _=>rfl) A;have N:=Lib.hid (D T c4 F);have U:Hid (SlC Lab.enc 2 S.heap.size S T len c4 l):=by rw[Hid,B];exact L
  rw[<- B] at F;subst F;clear H I E L A B D;go_enter Tryz.func33,Tryz.ntmps33;go_wp2_with (at_builtin;refine ja6 rfl _ _ _ rfl rfl rfl J ?_);go_ret;exact⟨_,_,rfl,U.out,P,O,N.out⟩
attribute [-go_sem] Builtin.append_
def Apart (B:Nat) (A A':World):Prop:=A.heap.size<=A'.heap.size/\∀ b,b<A.heap.size->b≠B->A'.heap[b]? = A.heap[b]?
section
variable {B:Nat} {A A' A'':World}
theorem Apart.of_below (h:Bw A A'):Apart B A A':=⟨h.size,fun b hb _=>h.block b hb⟩
theorem Apart.trans (h:Apart B A A') (C:Apart B A' A''):Apart B A A'':=⟨Nat.le_trans h.1 C.1,fun b hb D=>(C.2 b (Nat.lt_of_lt_of_le hb h.1) D).trans (h.2 b hb D)⟩
theorem Apart.set (i:Nat) (v:Value):Apart B A (A.setCell ⟨B,i,none⟩ v):=⟨by rw[World.size_setCell];exact Nat.le_refl _,fun b _ C=>jaa (fun h=>C h.symm) v⟩
theorem SlC.apart {α:Type} {enc:α->List Value} {k:Nat} {a:Option Addr} {len cap:Nat} {l:List α} (D:SlC enc k A.heap.size A a len cap l) (C:∀ z,a=some z->0<cap->z.block≠B) (h:Apart B A A'):SlC enc k A'.heap.size A' a len cap l :=
 (D.frame (q:=(· ≠ B)) C h.2).mono h.1
end
theorem jbT {W:World} {B i:Nat} {c:Array Value} {t:TypeId} (h:W.heap[B]? = some (.cells c t (0,0))) (v:Value):∃ V,W.setCell ⟨B,i,none⟩ v=V/\V.heap[B]? = some (.cells (c.setIfInBounds i v) t (0,0))/\Apart B W V/\(∀ n w0,n<=B->Below n w0 W->Below n w0 V)/\V.heap.size<=W.heap.size/\W.heap.size<=V.heap.size :=
 ⟨_,rfl,hSk h v,Apart.set i v,fun _ _ A hb=>hb.setCell (p:=⟨B,i,none⟩) A v,Nat.le_of_eq (World.size_setCell ..),Nat.le_of_eq (World.size_setCell ..).symm⟩
theorem GrowS.push_own {B:Nat} {q:Nat->Prop} {W F:World} {v v':Value} {l:List (Ser × SerP)} (h:GrowS B q W v l) (G:l.length<4294967) {x:Ser} {p:SerP}
  (C:(Builtin.append_ #[53,53] 53 #[v,.slice (some ⟨W.heap.size,0,none⟩) 1 1]).run Tryz.prog (W.alloc (.cells (jbk x p).toArray 90))=.ok v' F):v'.ownBlock=v.ownBlock\/∃ g,v'.ownBlock=some g/\W.heap.size<=g:=by
 have A:∀ j u,(jbk x p)[j]? = some u->(W.alloc (.cells (jbk x p).toArray 90)).cell? ((⟨W.heap.size,0,none⟩:Addr).add j)=some u:=fun j u E=>by
  have:=cCc (World.alloc_heap_new W (.cells (jbk x p).toArray 90)) j;have D:(⟨W.heap.size,0,none⟩:Addr).add j=⟨W.heap.size,j,none⟩:=by unfold Addr.add;split<;>simp_all
  rw[D,this];simpa using E
 rcases jen 53 jci jc4 (h.own.alloc _) (n:=l.length) (m:=1) rfl A (je1 (x,p)) (by omega) (by unfold maxLen;omega) (by omega) C with e | ⟨g,e,hg⟩
 ·exact .inl e
 ·refine .inr ⟨g,e,?_⟩
  simp at hg;omega
def jfw (l:List (Ser × SerP)):Prop:=∀ e∈l,e.2.ll<2147483648/\e.2.ss.Short
theorem jff (A:Nat) (m:List (Ser × SerP)) (v:Value) (l:List (Ser × SerP)) (a:Option Addr) (len cap:Nat) (w:World) (bk:A<=w.heap.size) (hM:GrowS A (A <= ·) w v m) (hT:Tab w.heap.size w a len cap l) (hA:jfw l) (hn:m.length+l.length<4294967) (ap:∀ z,a=some z->0<cap->some z.block≠v.ownBlock) (au:∀ e∈l,e.2.Off (fun b=>some b≠v.ownBlock)) (n:∀ e∈m,jbH w e) :
  Calls Tryz.prog 80 #[v,.slice a len cap] w fun e w'=>∃ v' S,e=.returned v'/\GrowS A (A <= ·) w' v' (m++S)/\S.map (·.1)=l.map (·.1)/\Below A w w'/\(∀ e∈m++S,jbH w' e):=by
 have aZ:=hT.row.1.1;subst aZ;have HT:=Lib.hid hT;have HA:=Lib.hid hA;have HM:=Lib.hid hM;have HO:=Lib.hid (And.intro ap au);have hm:l.length<=maxLen:=Nat.le_trans hT.row.2.1 hT.row.2.2.1;unfold maxLen at hm;obtain⟨va,vc,rfl⟩:=hM.form;have aw:=Lib.hid n;clear hT hA hM ap au n;go_enter Tryz.func80,Tryz.ntmps80;go_wp2_with fail;go_loopw [0,9] (fun v i wr=>∃ (k:Nat) (S:List (Ser × SerP)),i=.int .i64 k/\k<=l.length/\GrowS A (A <= ·) wr v (m++S)/\Hid (S.length=k)/\Hid (S.map (·.1)=(l.map (·.1)).take k)/\Below A w wr/\w.heap.size<=wr.heap.size/\Hid (∀ b,b<w.heap.size->some b≠Value.ownBlock (.slice va m.length vc)->wr.heap[b]? = w.heap[b]? /\ some b≠v.ownBlock)/\Hid (∀ e∈m++S,jbH wr e)) (fun _ i _=>l.length-(intOf i).toNat)
 case atStart=>exact⟨0,[],rfl,Nat.zero_le _,by rw[List.append_nil];exact HM.out,rfl,rfl,Below.refl _ _,Nat.le_refl _,(fun b _ h=>⟨rfl,h⟩),by rw[List.append_nil];exact aw.out⟩
 case round =>
  obtain⟨k,S,rfl,hk,hG,HL,aO,hB,bo,r,aK⟩:=hrel;have HG:=Lib.hid hG;obtain⟨ua,uc,hu⟩:=hG.form;subst hu;have aE:(m++S).length<4294967:=by rw[List.length_append,HL.out];omega
  obtain⟨nn,aD⟩:∃ nn,(m++S).length=nn:=⟨_,rfl⟩;have HN:=Lib.hid aD;rw[aD] at HG r aE ⊢;clear hG aD;by_cases aC:k<l.length
  ·obtain⟨⟨x,p⟩,hx⟩:∃ x,l[k]? = some x:=⟨_,List.getElem?_eq_getElem aC⟩
   obtain⟨b,off,rfl,bl,I⟩:=HT.out.row.1.2 k (x,p) hx;have ao:wr.heap[b]? = w.heap[b]? := (r.out b bl (HO.out.1 _ rfl (by have:=HT.out.row.2.1;omega))).1;replace I:∀ i,i<12->wr.cell? ⟨b,off+k*12+i,none⟩=(ja0 (x,p))[i]? := fun i hi=>(jdB (p:=⟨b,off+k*12+i,none⟩) ao).trans (I i hi)
   have c0:wr.cell? ⟨b,off+k*12,none⟩=some (.slice p.la p.ll p.lc):=I 0 (by omega);have c1:wr.cell? ⟨b,off+k*12+1,none⟩=some (.int .i64 x.sk.kind):=I 1 (by omega);have c2:wr.cell? ⟨b,off+k*12+2,none⟩=some (.int .i64 x.sk.level):=I 2 (by omega);have c3:wr.cell? ⟨b,off+k*12+3,none⟩=some (.slice p.ss.ea p.ss.el p.ss.ec):=I 3 (by omega);have c4:wr.cell? ⟨b,off+k*12+4,none⟩=some (.int .i64 x.sk.hb):=I 4 (by omega);have c5:wr.cell? ⟨b,off+k*12+5,none⟩=some (.string x.sk.hr):=I 5 (by omega);have c6:wr.cell? ⟨b,off+k*12+6,none⟩=some (.int .i64 x.sk.cr):=I 6 (by omega);have c7:wr.cell? ⟨b,off+k*12+7,none⟩=some (.int .i64 x.sk.cc):=I 7 (by omega);have c8:wr.cell? ⟨b,off+k*12+8,none⟩=some (.slice p.ss.ca p.ss.cl p.ss.cc):=I 8 (by omega);have c9:wr.cell? ⟨b,off+k*12+9,none⟩=some (.int .i64 x.sk.gf):=I 9 (by omega);have bc:wr.cell? ⟨b,off+k*12+10,none⟩=some (.slice p.ss.ga p.ss.gl p.ss.gc):=I 10 (by omega);have bd:wr.cell? ⟨b,off+k*12+11,none⟩=some (.int .u64 x.seen):=I 11 (by omega);have HX:Hid ((l.map (·.1))[k]? = some x):=by rw[Hid,List.getElem?_map,hx];rfl
   have aH:=Lib.hid (HA.out _ (List.mem_of_getElem? hx));have HP:Hid (p.At wr.heap.size wr x):=((HT.out.at_ _ (List.mem_of_getElem? hx)).frame (HO.out.2 _ (List.mem_of_getElem? hx)) (fun b hb hq=>(r.out b hb hq).1)).mono bo;obtain⟨W1,bj,aB,aU,bn⟩:=jab wr #[.slice p.la p.ll p.lc,.int .i64 x.sk.kind,.int .i64 x.sk.level,.slice p.ss.ea p.ss.el p.ss.ec,.int .i64 x.sk.hb,.string x.sk.hr,.int .i64 x.sk.cr,.int .i64 x.sk.cc,.slice p.ss.ca p.ss.cl p.ss.cc,.int .i64 x.sk.gf,.slice p.ss.ga p.ss.gl p.ss.gc,.int .u64 x.seen] 90;obtain⟨r0,r1,r2,r3,r4,r5,r6,r7,r8,r9,bp,bq⟩:=jkX aB;have t:Hid (p.At W1.heap.size W1 x):=HP.out.go aU;have bF:wr.heap.size<W1.heap.size:=by omega
   have T:Hid (p.Off (· ≠ wr.heap.size)):=HP.out.off.imp (fun b hb=>Nat.ne_of_lt hb);clear I hx ao;go_wp2_with fail;have av:Hid (p.ss.Short):=aH.out.2;refine (jfi p.la p.ll p.lc x.l W1 t.out.l.1 aH.out.1).mono ?_;rintro e w2 ⟨V,q,rfl,aV,G,U,aq⟩;have ag:=Lib.hid aq;clear aq;have aa:=known U (Nat.le_refl _) aB;have bs:=U.size;have g2:w2.cell? ⟨wr.heap.size,0,none⟩=some (.slice p.la p.ll p.lc):=cCc aa 0;have f2:w2.frozen? ⟨wr.heap.size,0,none⟩=false:=cFz aa 0;obtain⟨Y,bg,d,C,aj,bw,bB⟩:=jbT (i:=0) aa (.slice V p.ll q);have d3:Y.cell? ⟨wr.heap.size,3,none⟩=some (.slice p.ss.ea p.ss.el p.ss.ec):=cCc d 3;have ba:Hid (SlC jaF 1 Y.heap.size Y p.ss.ea p.ss.el p.ss.ec x.sk.e):=((t.out.go U).s.e).apart (T.out.e) C;have a9:Hid (SlC jaF 1 Y.heap.size Y p.ss.ca p.ss.cl p.ss.cc x.sk.cl):=((t.out.go U).s.c).apart (T.out.c) C;have bb:Hid (SlC jb4 2 Y.heap.size Y p.ss.ga p.ss.gl p.ss.gc x.sk.gl):=((t.out.go U).s.g).apart (T.out.g) C;have a6:Hid (SlC Lab.enc 2 Y.heap.size Y V p.ll q x.l):=aV.apart (fun z B _=>by have:=G z B;omega) C;have a0:Hid (Bw wr Y):=aj _ _ (Nat.le_refl _) (aU.trans (U.mono (by omega)));clear r0 r1 r2 r3 r4 r5 r6 r7 r8 r9 bp bq c0 c1 c2 c3 c4 c5 c6 c7 c8 c9 bc bd aB bj aa aV;go_wp2_with fail;refine (jbM p.ss.ea p.ss.el p.ss.ec x.sk.e Y ba.out.1 av.out.1).mono ?_;rintro e w3 ⟨u,y,rfl,aW,R,L⟩;have ab:=known L (Nat.le_refl _) d;have bt:=L.size;have g3:w3.cell? ⟨wr.heap.size,3,none⟩=some (.slice p.ss.ea p.ss.el p.ss.ec):=cCc ab 3
   have f3:w3.frozen? ⟨wr.heap.size,3,none⟩=false:=cFz ab 3;obtain⟨Z,bh,f,D,ak,bx,bC⟩:=jbT (i:=3) ab (.slice u p.ss.el y);have d8:Z.cell? ⟨wr.heap.size,8,none⟩=some (.slice p.ss.ca p.ss.cl p.ss.cc):=cCc f 8;have aP:Hid (SlC jaF 1 Z.heap.size Z p.ss.ca p.ss.cl p.ss.cc x.sk.cl):=(a9.out.go L).apart (T.out.c) D;have aQ:Hid (SlC jb4 2 Z.heap.size Z p.ss.ga p.ss.gl p.ss.gc x.sk.gl):=(bb.out.go L).apart (T.out.g) D;have a7:Hid (SlC Lab.enc 2 Z.heap.size Z V p.ll q x.l):=(a6.out.go L).apart (fun z B _=>by have:=G z B;omega) D;have a4:Hid (SlC jaF 1 Z.heap.size Z u p.ss.el y x.sk.e):=aW.apart (fun z B _=>by have:=R z B;omega) D;have a1:Hid (Bw wr Z):=ak _ _ (Nat.le_refl _) (a0.out.trans (L.mono (by omega)));clear bg d g2 f2 d3 ab aW;go_wp2_with fail;refine (jbM p.ss.ca p.ss.cl p.ss.cc x.sk.cl Z aP.out.1 av.out.2.1).mono ?_;rintro e w4 ⟨ay,az,rfl,aX,o,M⟩;have ac:=known M (Nat.le_refl _) f;have bu:=M.size;have g4:w4.cell? ⟨wr.heap.size,8,none⟩=some (.slice p.ss.ca p.ss.cl p.ss.cc):=cCc ac 8;have f4:w4.frozen? ⟨wr.heap.size,8,none⟩=false:=cFz ac 8;obtain⟨V4,bi,j,E,al,bz,bD⟩:=jbT (i:=8) ac (.slice ay p.ss.cl az);have be:V4.cell? ⟨wr.heap.size,10,none⟩=some (.slice p.ss.ga p.ss.gl p.ss.gc):=cCc j 10;have aR:Hid (SlC jb4 2 V4.heap.size V4 p.ss.ga p.ss.gl p.ss.gc x.sk.gl):=(aQ.out.go M).apart (T.out.g) E;have a8:Hid (SlC Lab.enc 2 V4.heap.size V4 V p.ll q x.l):=(a7.out.go M).apart (fun z B _=>by have:=G z B;omega) E
   have a5:Hid (SlC jaF 1 V4.heap.size V4 u p.ss.el y x.sk.e):=(a4.out.go M).apart (fun z B _=>by have:=R z B;omega) E;have a3:Hid (SlC jaF 1 V4.heap.size V4 ay p.ss.cl az x.sk.cl):=aX.apart (fun z B _=>by have:=o z B;omega) E;have a2:Hid (Bw wr V4):=al _ _ (Nat.le_refl _) (a1.out.trans (M.mono (by omega)));clear bh f g3 f3 d8 ac aX;go_wp2_with fail;refine (jeq p.ss.ga p.ss.gl p.ss.gc x.sk.gl V4 aR.out.1 av.out.2.2).mono ?_;rintro e w5 ⟨aS,aT,rfl,aY,ar,N⟩;have ad:=known N (Nat.le_refl _) j;have bv:=N.size;have g5:w5.cell? ⟨wr.heap.size,10,none⟩=some (.slice p.ss.ga p.ss.gl p.ss.gc):=cCc ad 10;have f5:w5.frozen? ⟨wr.heap.size,10,none⟩=false:=cFz ad 10;obtain⟨V5,br,an,F,am,bA,bE⟩:=jbT (i:=10) ad (.slice aS p.ss.gl aT);have aM:=(a8.out.go N).apart (fun z B _=>by have:=G z B;omega) F;have aJ:=(a5.out.go N).apart (fun z B _=>by have:=R z B;omega) F;have aI:=(a3.out.go N).apart (fun z B _=>by have:=o z B;omega) F;have aL:=aY.apart (fun z B _=>by have:=ar z B;omega) F;have J:Bw wr V5:=am _ _ (Nat.le_refl _) (a2.out.trans (N.mono (by omega)));have ai:Apart wr.heap.size w2 V5:=(((((C.trans (Apart.of_below L)).trans D).trans (Apart.of_below M)).trans E).trans (Apart.of_below N)).trans F;have aN:Hid (∀ z,V=some z->Loose V5 z.block):=fun z B=>(ag.out z B).of_heap (ai.2 _ (ag.out z B).lt (by have:=G z B;omega))
   clear ai;obtain⟨p',af⟩:∃ p':SerP,p'=⟨V,p.ll,q,⟨u,p.ss.el,y,ay,p.ss.cl,az,aS,p.ss.gl,aT⟩⟩:=⟨_,rfl⟩;have aG:p'.At V5.heap.size V5 x:=by subst af;exact⟨aM,aJ,aI,aL⟩
   have ax:p'.Off (fun b=>A<=b/\some b≠Value.ownBlock (.slice ua nn uc)):=by
    have aC:=HG.out.own.lt;have ae:∀ z,wr.heap.size<=z->A<=z/\some z≠Value.ownBlock (.slice ua nn uc):=fun z B=>⟨by have:=hB.size;omega,fun h=>by have:=(aC z h.symm).2;omega⟩
    subst af;exact⟨fun z H _=>ae _ (by have:=G z H;omega),fun z H _=>ae _ (by have:=R z H;omega),fun z H _=>ae _ (by have:=o z H;omega),fun z H _=>ae _ (by have:=ar z H;omega)⟩
   obtain⟨g6,ah,w6,P,aA,bf,bH,Q⟩:=(HG.out.go J).push (hB.trans (J.mono (by omega))) (Nat.le_refl _) (by have:=J.size;omega) (by rw[HN.out];exact aE) aG ax;have O:=(HG.out.go J).push_own (by rw[HN.out];exact aE) P;rw[HN.out] at P aA O;obtain⟨s0,s1,s2,s3,s4,s5,s6,s7,s8,s9,bI,bJ⟩:=jkX an
   have FI:Hid (∃ X:List (Ser × SerP),GrowS A (A <= ·) w6 (.slice (some ⟨g6,0,none⟩) (nn+1) ah) (m++X)/\X.length=k+1/\X.map (·.1)=(l.map (·.1)).take (k+1)/\Below A w w6/\w.heap.size<=w6.heap.size/\(∀ b,b<w.heap.size->some b≠Value.ownBlock (.slice va m.length vc)->w6.heap[b]? = w.heap[b]? /\ some b≠Value.ownBlock (.slice (some ⟨g6,0,none⟩) (nn+1) ah))/\(∀ e∈m++X,jbH w6 e)):=by
    have bG:=J.size;refine⟨S++[(x,p')],by rw[<- List.append_assoc];exact aA,by rw[List.length_append,HL.out];rfl,?_,bf,by omega,fun c I bm=>?_,fun e he z B aF=>?_⟩
    ·rw[List.map_append,aO.out,jaf HX.out];rfl
    ·obtain⟨H,h2⟩:=r.out c I bm
     refine⟨(Q c (by omega) h2).trans ((J.block c (by omega)).trans H),?_⟩;rcases O with h | ⟨g,h,hg⟩
     ·rw[h];exact h2
     ·rw[h];intro h3;injection h3 with h3;omega
    ·rw[<- List.append_assoc] at he
     rcases List.mem_append.1 he with he | he
     ·have H:=aK.out e he z B aF
      have h2:=H.lt;exact (H.of_heap (J.block _ h2)).of_heap (Q _ (by omega) ((HG.out.off e he).l z B aF).2)
     ·rw[List.mem_singleton] at he
      subst he;have h3:=ax.l z B aF;subst af;have H:=aN.out z B;exact H.of_heap (Q _ H.lt h3.2)
   unfold jbk at P;clear bn;subst af;dsimp only at P;clear bi j g4 f4 be ad aY aM aJ aI aL F E D C aA Q O ax aG an am al ak aj;go_wp2_with fail;go_roundw
   case rel =>
    obtain⟨X,H,h2,h3,h4,h5,h6,h7⟩:=FI.out;exact⟨k+1,X,by go_num,by omega,H,h2,h3,h4,h5,h6,h7⟩
   case measure=>simp[intOf];omega
  ·have H9:Hid (S.map (·.1)=l.map (·.1)):=by rw[Hid,aO.out,List.take_of_length_le (by rw[List.length_map];omega)]
   go_wp2_with fail;go_ret;exact⟨_,rfl,S,HG.out,H9.out,hB,fun a b h=>aK.out (a,b) (List.mem_append.2 h)⟩
end
section
open Go.Shelf
theorem Tab.drop {A:Nat} {w:World} {a:Option Addr} {len cap:Nat} {l:List (Ser × SerP)} (h:Tab A w a len cap l) (m:Nat) (C:m<=len):Tab A w (jcH a cap m 12) (len-m) (cap-m) (l.drop m):=⟨h.row.drop m C,fun e B=>h.at_ e (List.mem_of_mem_drop B)⟩
theorem jn3 (a:Option Addr) (len cap m:Nat) (w:World) (h:m<=cap):(Instr.slice 53 (.slice a len cap) none (some (.int .i64 (m:Int))) none).run Tryz.prog w=.ok (.slice a m cap) w:=by
 have B:=jf9 a cap 12;unfold jcH at B;have C:(sizeOf 90).run Tryz.prog w=.ok 12 w:=by kernel_rfl
 have A:Tryz.prog.elem 53=90:=by kernel_rfl
 rw[run_slice_h (t:=53) (a:=a) (len:=len) (cap:=cap) (w:=w) (ht:=by rw[A];exact jci) (kh:=.i64) (h:=(m:Int)) (by omega) (by omega),A,C];simp only[Result.andThen,sliced,Int.toNat_natCast,Nat.sub_zero,B]
theorem jjd (a:Option Addr) (len cap m:Nat) (w:World) (h:m<=len):(Instr.slice 53 (.slice a len cap) (some (.int .i64 (m:Int))) none none).run Tryz.prog w=.ok (.slice (jcH a cap m 12) (len-m) (cap-m)) w:=by
 have B:(sizeOf 90).run Tryz.prog w=.ok 12 w:=by kernel_rfl
 have A:Tryz.prog.elem 53=90:=by kernel_rfl
 rw[run_slice_l (t:=53) (a:=a) (len:=len) (cap:=cap) (w:=w) (ht:=by rw[A];exact jci) (kl:=.i64) (l:=(m:Int)) (by omega) (by omega),A,B];simp only[Result.andThen,sliced,Int.toNat_natCast,jcH]
theorem jwR {w:World} {x:Ser} {p:SerP} (h:p.At w.heap.size w x):Tab (w.alloc (.cells (jbk x p).toArray 90)).heap.size (w.alloc (.cells (jbk x p).toArray 90)) (some ⟨w.heap.size,0,none⟩) 1 1 [(x,p)]:=by
 have E:Bw w (w.alloc (.cells (jbk x p).toArray 90)):=(Below.refl _ w).alloc (Nat.le_refl _) _;have D:w.heap.size<(w.alloc (.cells (jbk x p).toArray 90)).heap.size:=by simp
 refine⟨⟨⟨rfl,fun j y C=>?_⟩,Nat.le_refl _,by unfold maxLen;omega,(fun h=>by cases h),fun z A _=>?_⟩,fun e B=>?_⟩
 ·have F:j=0:=by have:=(List.getElem?_eq_some_iff.1 C).1;simp at this;exact this
  subst F;obtain rfl:(x,p)=y:=by simpa using C
  refine⟨w.heap.size,0,rfl,D,fun i G=>?_⟩;have:=cCc (World.alloc_heap_new w (.cells (jbk x p).toArray 90)) i;simp[ja0]
 ·injection A with A
  subst A;exact⟨rfl,D⟩
 ·rw[List.mem_singleton] at B
  subst B;exact h.go E
theorem jiV (w:World) (c:Nat) (I:c<=1000):∃ w',(Instr.makeSlice 53 (.int .i64 0) (.int .i64 (c:Int))).run Tryz.prog w=.ok (.slice (some ⟨w.heap.size,0,none⟩) 0 c) w'/\GrowS w.heap.size (w.heap.size <= ·) w' (.slice (some ⟨w.heap.size,0,none⟩) 0 c) []/\Bw w w':=by
 obtain⟨i,F,H,A,C⟩:=info_parts jc4;obtain⟨w',D,E,B⟩:=run_makeSlice_owned (P:=Tryz.prog) w w.heap.size 53 90 i _ 12 jci F H A .i64 .i64 c (by omega) (by rw[C];omega) (by unfold maxLen;omega) (Nat.le_refl _);exact⟨w',D,⟨E,(fun e h=>by cases h),(fun e h=>by cases h)⟩,⟨B.os,B.tape,B.output,B.size,fun k G=>B.block k G (fun h=>by cases h)⟩⟩
def jf3 (l:List Ser) (x:Ser):List Ser:=l.take (jam l x.l)++x::l.drop (jam l x.l+(if jax l x.l then 1 else 0))
def jce (l:List Ser) (x:Ser):Bool:=jaj l&&jaI x&&(jax l x.l || !(l.length==20))
def jhc (l:List Ser) (x:Ser) (w:World) (e:Ending) (w':World):Prop :=
 Bw w w'/\((jce l x=false/\e=.returned (.tuple #[.slice none 0 0,.int .i64 120])) \/
  (jce l x=true/\∃ a' cap' m,e=.returned (.tuple #[.slice a' (List.length m) cap',.int .i64 0])/\Tab w'.heap.size w' a' m.length cap' m/\m.map (·.1)=jf3 l x/\(∀ z,a'=some z->w.heap.size<=z.block)/\(∀ e∈m,e.2.Off (fun b=>w.heap.size<=b/\∀ z,a'=some z->b≠z.block))/\(∀ z,a'=some z->Loose w' z.block)/\(∀ e∈m,jbH w' e)))
theorem SerFit.add {x:Ser} {p:SerP} (h:SerFit x p) (hr:jai x.l=true) {n:Nat} {w:World} (ha:p.At n w x):p.ll<2147483648/\p.ss.Short:=by
 refine⟨?_,h.short⟩;have A:=ha.l.1.1;have B:x.l.length<=6:=by simp[jai] at hr;exact hr.1.2
 omega
theorem jlZ:∀ (l:List Ser) (p:Option (List Lab)),jdd p l=true->∀ x∈l,jaI x=true
 | [],_,_,x,h=>by cases h
 | y::r,p,h,x,A=>by
  simp only[jdd,Bool.and_eq_true] at h;rcases List.mem_cons.1 A with rfl | A
  ·exact h.1.1
  ·exact jlZ r _ h.2 x A
theorem jfA {l:List (Ser × SerP)} {n:Nat} {w:World} {a:Option Addr} {len cap:Nat} (hr:jaj (l.map (·.1))=true) (C:jdl l) (D:Tab n w a len cap l):jfw l:=fun e A=>by
 simp only[jaj,Bool.and_eq_true] at hr;have B:=jlZ _ _ hr.2 e.1 (List.mem_map_of_mem A);simp only[jaI,Bool.and_eq_true] at B;exact (C e A).add B.1 (D.at_ e A)
theorem jlH {A:Nat} {L:List Ser} {x:Ser} {w w':World} {v:Value} {M:List (Ser × SerP)} (I:jce L x=true) (O:Bw w w') (hb:w.heap.size<=A) (h:GrowS A (A <= ·) w' v M) (P:M.map (·.1)=jf3 L x) (F:∀ e∈M,jbH w' e):jhc L x w (.returned (.tuple #[v,.int .i64 0])) w':=by
 have D:=h.own;obtain⟨N,B,rfl,E,G,H⟩:=h.tab;exact⟨O,.inr ⟨I,N,B,M,rfl,E,P,fun z J=>Nat.le_trans hb (G z J),fun e Q=>(H e Q).imp fun b C=>⟨Nat.le_trans hb C.1,C.2⟩,fun z J=>ji0 D rfl J,F⟩⟩
theorem jhP (w:World) (c:Nat) (A:c<=900):∃ w',(Instr.makeSlice 53 (.int .i64 0) (.int .i64 ((c:Int)+1))).run Tryz.prog w=.ok (.slice (some ⟨w.heap.size,0,none⟩) 0 (c+1)) w'/\GrowS w.heap.size (w.heap.size <= ·) w' (.slice (some ⟨w.heap.size,0,none⟩) 0 (c+1)) []/\Bw w w':=by
 have h:=jiV w (c+1) (by omega);rw[show ((c+1:Nat):Int)=(c:Int)+1 by omega] at h;exact h
theorem jm6 (a:Option Addr) (len cap m:Nat) (w:World) (h:m<len):(Instr.slice 53 (.slice a len cap) (some (.int .i64 ((m:Int)+1))) none none).run Tryz.prog w=.ok (.slice (jcH a cap (m+1) 12) (len-(m+1)) (cap-(m+1))) w:=by
 have h:=jjd a len cap (m+1) w h;rw[show ((m+1:Nat):Int)=(m:Int)+1 by omega] at h;exact h
theorem jjo (A:Nat) (m:List (Ser × SerP)) (v:Value) (l:List (Ser × SerP)) (a:Option Addr) (len cap:Nat) (W w:World) (P:W.heap.size<=A) (hb:Bw W w) (B:A<=w.heap.size) (G:GrowS A (A <= ·) w v m) (E:Tab W.heap.size W a len cap l) (J:jfw l) (M:m.length+l.length<4294967) (C:∀ e∈m,jbH w e) :
  Calls Tryz.prog 80 #[v,.slice a len cap] w fun e w'=>∃ v' F,e=.returned v'/\GrowS A (A <= ·) w' v' (m++F)/\F.map (·.1)=l.map (·.1)/\Below A w w'/\(∀ e∈m++F,jbH w' e):=by
 have D:=G.own.lt;refine jff A m v l a len cap w B G ((E.below hb).mono hb.size) J M (fun z N H h=>?_) (fun e L=>(E.at_ e L).off.imp fun b hb h=>?_) C
 ·have O:=(E.row.2.2.2.2 z N H).2
  have I:=(D _ h.symm).1;omega
 ·have I:=(D _ h.symm).1
  omega
theorem jp1 (A:Nat) (m:List (Ser × SerP)) (v:Value) (x:Ser) (p:SerP) (W w:World) (T:W.heap.size<=A) (hb:Bw W w) (B:A<=w.heap.size) (L:GrowS A (A <= ·) w v m) (M:p.At W.heap.size W x) (R:jfw [(x,p)]) (S:m.length+1<4294967) (C:∀ e∈m,jbH w e) :
  Calls Tryz.prog 80 #[v,.slice (some ⟨w.heap.size,0,none⟩) 1 1] (w.alloc (.cells #[.slice p.la p.ll p.lc,.int .i64 x.sk.kind,.int .i64 x.sk.level,.slice p.ss.ea p.ss.el p.ss.ec,.int .i64 x.sk.hb,.string x.sk.hr,.int .i64 x.sk.cr,.int .i64 x.sk.cc,.slice p.ss.ca p.ss.cl p.ss.cc,.int .i64 x.sk.gf,.slice p.ss.ga p.ss.gl p.ss.gc,.int .u64 x.seen] 90)) fun e w'=>∃ v' F,e=.returned v'/\GrowS A (A <= ·) w' v' (m++F)/\F.map (·.1)=[(x,p)].map (·.1)/\Below A w w'/\(∀ e∈m++F,jbH w' e):=by
 have E:=L.own.lt;have H:Bw w (w.alloc (.cells #[.slice p.la p.ll p.lc,.int .i64 x.sk.kind,.int .i64 x.sk.level,.slice p.ss.ea p.ss.el p.ss.ec,.int .i64 x.sk.hb,.string x.sk.hr,.int .i64 x.sk.cr,.int .i64 x.sk.cc,.slice p.ss.ca p.ss.cl p.ss.cc,.int .i64 x.sk.gf,.slice p.ss.ga p.ss.gl p.ss.gc,.int .u64 x.seen] 90)):=(Below.refl _ w).alloc (Nat.le_refl _) _;have D:=H.size;refine (jff A m v [(x,p)] (some ⟨w.heap.size,0,none⟩) 1 1 (w.alloc (.cells #[.slice p.la p.ll p.lc,.int .i64 x.sk.kind,.int .i64 x.sk.level,.slice p.ss.ea p.ss.el p.ss.ec,.int .i64 x.sk.hb,.string x.sk.hr,.int .i64 x.sk.cr,.int .i64 x.sk.cc,.slice p.ss.ca p.ss.cl p.ss.cc,.int .i64 x.sk.gf,.slice p.ss.ga p.ss.gl p.ss.gc,.int .u64 x.seen] 90)) (by omega) (L.go H) (jwR ((M.below hb).mono hb.size)) R S (fun z D J h=>?_) (fun e I=>?_) (fun e I z D J=>(C e I z D J).go H)).mono ?_
 ·injection D with D
  subst D;have G:=(E _ h.symm).2;dsimp only at G;omega
 ·rw[List.mem_singleton] at I
  subst I;refine M.off.imp fun b hb h=>?_
  have G:=(E _ h.symm).1;omega
 ·rintro e w' ⟨v',F,N,G,O,P,Q⟩
  exact⟨v',F,N,G,O,(H.mono B).trans P,Q⟩
theorem jiu (l:List (Ser × SerP)) (a:Option Addr) (len cap:Nat) (x:Ser) (p:SerP) (w:World) (hT:Tab w.heap.size w a len cap l) (hF:jdl l) (hP:p.At w.heap.size w x) (hS:SerFit x p) (hG:GW w) :
  Calls Tryz.prog 45 #[.slice a len cap,.agg #[.slice p.la p.ll p.lc,.int .i64 x.sk.kind,.int .i64 x.sk.level,.slice p.ss.ea p.ss.el p.ss.ec,.int .i64 x.sk.hb,.string x.sk.hr,.int .i64 x.sk.cr,.int .i64 x.sk.cc,.slice p.ss.ca p.ss.cl p.ss.cc,.int .i64 x.sk.gf,.slice p.ss.ga p.ss.gl p.ss.gc,.int .u64 x.seen]] w (jhc (l.map (·.1)) x w):=by
 have ax:=hT.row.1.1;subst ax;obtain⟨G,aR,aB,H,aJ⟩:=jab w #[.slice p.la p.ll p.lc,.int .i64 x.sk.kind,.int .i64 x.sk.level,.slice p.ss.ea p.ss.el p.ss.ec,.int .i64 x.sk.hb,.string x.sk.hr,.int .i64 x.sk.cr,.int .i64 x.sk.cc,.slice p.ss.ca p.ss.cl p.ss.cc,.int .i64 x.sk.gf,.slice p.ss.ga p.ss.gl p.ss.gc,.int .u64 x.seen] 90;obtain⟨c0,c1,c2,c3,c4,c5,c6,c7,c8,c9,aO,aP⟩:=jkX aB;have HT:=Lib.hid hT;have Q:Hid (Tab G.heap.size G a l.length cap l):=hT.go H;have HF:=Lib.hid hF;have HP:=Lib.hid hP;have r:Hid (p.At G.heap.size G x):=hP.go H;have HS:=Lib.hid hS;have ac:Hid (GW G):=hG.below H;have aS:w.heap.size<G.heap.size:=by omega
 have hR:=jaU l a l.length cap G Q.out HF.out ac.out;clear hT hF hP hS hG aJ
 cases hr:jaj (l.map (·.1)) with
 | false =>
  rw[hr] at hR;have R:Hid (jce (l.map (·.1)) x=false):=by rw[Hid,jce,hr];rfl
  clear hr;generalize l.map (·.1)=L at R ⊢;go_enter Tryz.func45,Tryz.ntmps45;go_wp2_with (go_at_call 57;refine hR.mono ?_;rintro e w1 ⟨rfl,B⟩);go_ret2;exact⟨H.trans (B.mono (by omega)),.inl ⟨R.out,rfl⟩⟩
 | true =>
  rw[hr] at hR;have P:Hid (∀ w',Bw G w'->Calls Tryz.prog 79 #[.agg #[.slice p.la p.ll p.lc,.int .i64 x.sk.kind,.int .i64 x.sk.level,.slice p.ss.ea p.ss.el p.ss.ec,.int .i64 x.sk.hb,.string x.sk.hr,.int .i64 x.sk.cr,.int .i64 x.sk.cc,.slice p.ss.ca p.ss.cl p.ss.cc,.int .i64 x.sk.gf,.slice p.ss.ga p.ss.gl p.ss.gc,.int .u64 x.seen]] w' fun e ap=>e=.returned (.bool (jaI x))/\Bw w' ap):=fun w' hb=>jda x p w' (r.out.go hb) HS.out (ac.out.below hb)
  cases M:jaI x with
  | false =>
   have R:Hid (jce (l.map (·.1)) x=false):=by rw[Hid,jce,hr,M];rfl
   rw[M] at P;clear hr M;generalize l.map (·.1)=L at R ⊢;go_enter Tryz.func45,Tryz.ntmps45
   go_wp2_with (first
    | (go_at_call 57;refine hR.mono ?_;rintro e w1 ⟨rfl,B⟩;obtain⟨am,an⟩:=jf5 B)
    | (go_at_call 79;refine (P.out _ B).mono ?_;rintro e w2 ⟨rfl,N⟩))
   go_ret2;exact⟨H.trans ((B.trans (N.mono B.size)).mono (by omega)),.inl ⟨R.out,rfl⟩⟩
  | true =>
   rw[M] at P;have hk:=jqL (l.map (·.1)) x.l;rw[List.length_map] at hk;have aQ:l.length<=20:=by simp[jaj] at hr;exact hr.1
   have aN:l.length<=cap:=HT.out.row.2.1;have aI:p.ll<=maxLen:=Nat.le_trans HP.out.l.2.1 HP.out.l.2.2.1
   have ab:Hid (∀ w',Bw G w'->Calls Tryz.prog 43 #[.slice a l.length cap,.slice p.la p.ll p.lc] w' fun e ap=>e=.returned (.tuple #[.int .i64 (jam (l.map (·.1)) x.l:Int),.bool (jax (l.map (·.1)) x.l)])/\Bw w' ap):=fun w' hb=>by
    have:=jeC l a l.length cap x.l p.la p.ll p.lc w' (Q.out.go hb) HF.out (ac.out.below hb) (r.out.go hb).l.1 aI;rw[hr,if_pos rfl,Bool.true_and] at this;exact this
   have q:Hid (jfw l):=jfA hr HF.out HT.out
   have u:Hid (jfw [(x,p)]):=fun e n=>by
    rw[List.mem_singleton] at n;subst n;simp only[jaI,Bool.and_eq_true] at M;exact HS.out.add M.1 HP.out
   have aj:Hid (jce (l.map (·.1)) x=(jax (l.map (·.1)) x.l || !((l.map (·.1)).length==20))):=by rw[Hid,jce,hr,M];rfl
   have ar:Hid (∀ s t m3:List (Ser × SerP),s.map (·.1)=(l.take (jam (l.map (·.1)) x.l)).map (·.1)->t.map (·.1)=[(x,p)].map (·.1)->m3.map (·.1)=(l.drop (jam (l.map (·.1)) x.l+(if jax (l.map (·.1)) x.l then 1 else 0))).map (·.1)->((([]++s)++t)++m3).map (fun e:Ser × SerP=>e.1)=jf3 (l.map (·.1)) x):=fun s t m3 h1 h2 h3=>by
    rw[List.map_append,List.map_append,List.nil_append,h1,h2,h3,jf3,List.map_take,List.map_drop];simp
   have aq:Hid ((l.map (·.1)).length=l.length):=List.length_map ..
   have aA:Hid (jax (l.map (·.1)) x.l=true->jam (l.map (·.1)) x.l<l.length):=fun h=>by
    unfold jax at h
    cases hx:(l.map (·.1))[jam (l.map (·.1)) x.l]? with
    | none=>rw[hx] at h;cases h
    | some y=>have:=(List.getElem?_eq_some_iff.1 hx).1;rw[List.length_map] at this;exact this
   clear hr M;generalize hkT:jam (l.map (·.1)) x.l=kT at *;generalize hbT:jax (l.map (·.1)) x.l=bT at *;generalize l.map (·.1)=L at *;clear hkT hbT
   cases bT with
   | false =>
    by_cases ak:l.length=20
    ·have R:Hid (jce L x=false):=by rw[Hid,aj.out,aq.out,ak];rfl
     have au:(l.length:Int)=20:=by omega
     clear ak;go_enter Tryz.func45,Tryz.ntmps45
     go_wp2_with (first
      | (go_at_call 57;refine hR.mono ?_;rintro e w1 ⟨rfl,B⟩;obtain⟨am,an⟩:=jf5 B)
      | (go_at_call 79;refine (P.out _ B).mono ?_;rintro e w2 ⟨rfl,N⟩;have A:=B.trans (N.mono B.size);obtain⟨av,aw⟩:=jf5 A)
      | (go_at_call 43;refine (ab.out _ A).mono ?_;rintro e o ⟨rfl,Z⟩))
     go_ret2;exact⟨H.trans ((A.trans (Z.mono A.size)).mono (by omega)),.inl ⟨R.out,rfl⟩⟩
    ·have R:Hid (jce L x=true):=by rw[Hid,aj.out,aq.out];simp;omega
     have au:¬ ((l.length:Int)=20):=by omega
     clear ak;go_enter Tryz.func45,Tryz.ntmps45
     go_wp2_with (first
      | (go_at_call 57;refine hR.mono ?_;rintro e w1 ⟨rfl,B⟩;obtain⟨am,an⟩:=jf5 B)
      | (go_at_call 79;refine (P.out _ B).mono ?_;rintro e w2 ⟨rfl,N⟩;have A:=B.trans (N.mono B.size);obtain⟨av,aw⟩:=jf5 A)
      | (go_at_call 43;refine (ab.out _ A).mono ?_;rintro e o ⟨rfl,Z⟩;have E:=A.trans (Z.mono A.size);obtain⟨w4,aH,T,b⟩:=jhP o l.length (by omega);have ao:=jn3 a l.length cap kT w4 (by omega);have C:=E.trans (b.mono E.size);obtain⟨aC,aE⟩:=jf5 C))
     have aK:=C.size;have D:=E.size;have m:=b.size;go_at_call 80;refine (jjo o.heap.size [] _ (l.take kT) a kT cap G w4 D C m T (Q.out.take kT hk) (fun e n=>q.out e (List.mem_of_mem_take n)) (by simp;omega) (fun e h=>by cases h)).mono ?_;rintro e w5 ⟨v5,s,rfl,U,j,c,f⟩;have F:Bw G w5:=C.trans (c.mono D);obtain⟨aD,aF⟩:=jf5 F;have aL:=c.size;have ad:=Lib.hid U;have v:=Lib.hid f;clear f;have S:=Lib.hid j;clear T U j;have ay:s.length<=20:=by have:=congrArg List.length S.out;simp at this;omega
     go_wp2_with fail;refine (jp1 o.heap.size _ _ x p G w5 D F (by omega) ad.out r.out u.out (by simp;omega) v.out).mono ?_;rintro e w6 ⟨v6,t,rfl,V,O,d,g⟩;have I:Bw G w6:=F.trans (d.mono D);have aM:=d.size;have ae:=Lib.hid V;have z:=Lib.hid g;clear g;have ah:=Lib.hid O;have J:t.length=1:=by have:=congrArg List.length O;simpa using this
     have ag:=Lib.hid J;have az:=jjd a l.length cap kT w6 hk;clear V O J ao;go_wp2_with fail;refine (jjo o.heap.size _ _ (l.drop kT) _ _ _ G w6 D I (by omega) ae.out (Q.out.drop kT (by omega)) (fun e n=>q.out e (List.mem_of_mem_drop n)) (by simp[ag.out];omega) z.out).mono ?_;rintro e w7 ⟨v7,m3,rfl,X,k,al,i⟩;have Y:Bw G w7:=I.trans (al.mono D);have af:=Lib.hid X;have aa:=Lib.hid i;clear i;have ai:=Lib.hid k;clear X k;go_wp2_with fail;go_ret2;exact jlH R.out (H.trans (Y.mono (by omega))) (by omega) af.out (ar.out s t m3 S.out ah.out ai.out) aa.out
   | true =>
    have R:Hid (jce L x=true):=aj.out;have aG:kT<l.length:=aA.out rfl;go_enter Tryz.func45,Tryz.ntmps45
    go_wp2_with (first
     | (go_at_call 57;refine hR.mono ?_;rintro e w1 ⟨rfl,B⟩;obtain⟨am,an⟩:=jf5 B)
     | (go_at_call 79;refine (P.out _ B).mono ?_;rintro e w2 ⟨rfl,N⟩;have A:=B.trans (N.mono B.size);obtain⟨av,aw⟩:=jf5 A)
     | (go_at_call 43;refine (ab.out _ A).mono ?_;rintro e o ⟨rfl,Z⟩;have E:=A.trans (Z.mono A.size);obtain⟨w4,aH,T,b⟩:=jhP o l.length (by omega);have ao:=jn3 a l.length cap kT w4 (by omega);have C:=E.trans (b.mono E.size);obtain⟨aC,aE⟩:=jf5 C))
    have aK:=C.size;have D:=E.size;have m:=b.size;go_at_call 80;refine (jjo o.heap.size [] _ (l.take kT) a kT cap G w4 D C m T (Q.out.take kT hk) (fun e n=>q.out e (List.mem_of_mem_take n)) (by simp;omega) (fun e h=>by cases h)).mono ?_;rintro e w5 ⟨v5,s,rfl,U,j,c,f⟩;have F:Bw G w5:=C.trans (c.mono D);obtain⟨aD,aF⟩:=jf5 F;have aL:=c.size;have ad:=Lib.hid U;have v:=Lib.hid f;clear f;have S:=Lib.hid j;clear T U j;have ay:s.length<=20:=by have:=congrArg List.length S.out;simp at this;omega
    go_wp2_with fail;refine (jp1 o.heap.size _ _ x p G w5 D F (by omega) ad.out r.out u.out (by simp;omega) v.out).mono ?_;rintro e w6 ⟨v6,t,rfl,V,O,d,g⟩;have I:Bw G w6:=F.trans (d.mono D);have aM:=d.size;have ae:=Lib.hid V;have z:=Lib.hid g;clear g;have ah:=Lib.hid O;have J:t.length=1:=by have:=congrArg List.length O;simpa using this
    have ag:=Lib.hid J;have az:=jm6 a l.length cap kT w6 aG;clear V O J ao;go_wp2_with fail;refine (jjo o.heap.size _ _ (l.drop (kT+1)) _ _ _ G w6 D I (by omega) ae.out (Q.out.drop (kT+1) (by omega)) (fun e n=>q.out e (List.mem_of_mem_drop n)) (by simp[ag.out];omega) z.out).mono ?_;rintro e w7 ⟨v7,m3,rfl,X,k,al,i⟩;have Y:Bw G w7:=I.trans (al.mono D);have af:=Lib.hid X;have aa:=Lib.hid i;clear i;have ai:=Lib.hid k;clear X k;go_wp2_with fail;go_ret2;exact jlH R.out (H.trans (Y.mono (by omega))) (by omega) af.out (ar.out s t m3 S.out ah.out ai.out) aa.out
def jaO (x:Ser):Int:=jbY x.sk+((jiz x.l).size:Int)
def jbh:List Ser->Int
 | []=>0
 | x::r=>jaO x+jbh r
theorem jk4 (a b:List Ser):jbh (a++b)=jbh a+jbh b:=by
 induction a with
 | nil=>simp[jbh]
 | cons x a ih=>simp only[List.cons_append,jbh,ih];omega
theorem jgx {x:Sk} {s:SS} {n:Nat} {w:World} (A:s.At n w x) (B:s.Short) (hr:x.hr.size<2147483648):0<=jbY x/\jbY x<=34359738400:=by
 have C:=A.e.1.1;have D:=A.c.1.1;have E:=A.g.1.1;obtain⟨F,G,H⟩:=B;unfold jbY
 repeat' split
 all_goals omega
theorem jia {l:List Lab} (h:jcK l):(jiz l).size<=180388625808:=by
 unfold jiz;split
 ·rename_i hr
  have A:l.length<=6:=by simp[jai] at hr;exact hr.1.2
  obtain⟨C,rfl⟩:=jjR l h;rw[jjS,Lib.size_eq]
  have D:=jjO [44] 30064770967 (((C.map (·.1)).map jc6).map (·.data.toList)) (fun x B=>by
   simp only[List.mem_map] at B;obtain⟨_,⟨_,⟨u,_,rfl⟩,rfl⟩,rfl⟩:=B;exact jhK u)
  simp only[List.length_map,List.length_singleton] at D A;have:C.length*(30064770967+1)<=6*(30064770967+1):=Nat.mul_le_mul_right _ A;simp only[];omega
 ·exact Nat.zero_le _
theorem jfZ {x:Ser} {p:SerP} {n:Nat} {w:World} (h:p.At n w x) (A:SerFit x p):0<=jaO x/\jaO x<=220000000000:=by
 have B:=jgx h.s A.short A.hr;have C:=jia A.lab;unfold jaO;omega
theorem jfk:∀ (l:List (Ser × SerP)) (n:Nat) (w:World),(∀ e∈l,e.2.At n w e.1)->jdl l->0<=jbh (l.map (·.1))/\jbh (l.map (·.1))<=220000000000*l.length
 | [],_,_,_,_=>by simp[jbh]
 | e::r,n,w,h,hf=>by
  have B:=jfZ (h e List.mem_cons_self) (hf e List.mem_cons_self);have C:=jfk r n w (fun e A=>h e (List.mem_cons_of_mem _ A)) (fun e A=>hf e (List.mem_cons_of_mem _ A));simp only[List.map_cons,jbh,List.length_cons];omega
def jbs (l:List Ser):Int:=if jaj l then jbh l else 0
theorem jdc (l:List (Ser × SerP)) (a:Option Addr) (len cap:Nat) (w:World) (E:Tab w.heap.size w a len cap l) (P:jdl l) (V:GW w) :
  CR 32 #[.slice a len cap] w (.int .i64 (jbs (l.map (·.1)))):=by
 have M:=jaU l a len cap w E P V;have N:=E.row.1.1;subst N;have j:=Lib.hid E;have o:=Lib.hid P;have q:=Lib.hid V;have hm:l.length<=maxLen:=Nat.le_trans E.row.2.1 E.row.2.2.1;unfold maxLen at hm
 have HK:Hid (∀ k,k<=l.length->0<=jbh ((l.map (·.1)).take k)/\jbh ((l.map (·.1)).take k)<=220000000000*k):=fun k n=>by
  have m:=jfk (l.take k) _ _ (fun e Z=>E.at_ e (List.mem_of_mem_take Z)) (fun e Z=>P e (List.mem_of_mem_take Z));rw[List.map_take,List.length_take,Nat.min_eq_left n] at m;exact m
 clear E P V
 cases hr:jaj (l.map (·.1)) with
 | false =>
  rw[hr] at M;have L:Hid (jbs (l.map (·.1))=0):=by rw[Hid,jbs,hr];rfl
  generalize jbs (l.map (·.1))=cR at L ⊢;clear hr;go_enter Tryz.func32,Tryz.ntmps32;go_wp2_with (go_at_call 57;refine M.mono ?_;rintro e w1 ⟨rfl,F⟩);go_ret;exact⟨by rw[L.out];rfl,F⟩
 | true =>
  rw[hr] at M;have L:Hid (jbs (l.map (·.1))=jbh (l.map (·.1))):=by rw[Hid,jbs,hr];rfl
  have v:l.length<=20:=by simp[jaj] at hr;exact hr.1
  generalize jbs (l.map (·.1))=cR at L ⊢;clear hr;go_enter Tryz.func32,Tryz.ntmps32;go_wp2_with (go_at_call 57;refine M.mono ?_;rintro e w1 ⟨rfl,F⟩);clear M;go_loopw [3,13] (fun c i wr=>∃ (k:Nat) (s:Int),i=.int .i64 k/\c=.int .i64 s/\k<=l.length/\Bw w wr/\Hid (s=jbh ((l.map (·.1)).take k))/\0<=s/\s<=220000000000*k) (fun _ i _=>l.length-(intOf i).toNat)
  case atStart=>exact⟨0,0,rfl,rfl,Nat.zero_le _,F,rfl,by omega,by omega⟩
  case round =>
   obtain⟨k,s,rfl,rfl,n,I,h,af,ag⟩:=hrel;have G:=I.size;by_cases d:k<l.length
   ·obtain⟨⟨x,p⟩,O⟩:∃ x,l[k]? = some x:=⟨_,List.getElem?_eq_getElem d⟩
    obtain⟨b,off,rfl,ac,B⟩:=(j.out.below I).row.1.2 k (x,p) O;have c0:wr.cell? ⟨b,off+k*12,none⟩=some (.slice p.la p.ll p.lc):=B 0 (by omega);have c1:wr.cell? ⟨b,off+k*12+1,none⟩=some (.int .i64 x.sk.kind):=B 1 (by omega);have c2:wr.cell? ⟨b,off+k*12+2,none⟩=some (.int .i64 x.sk.level):=B 2 (by omega);have c3:wr.cell? ⟨b,off+k*12+3,none⟩=some (.slice p.ss.ea p.ss.el p.ss.ec):=B 3 (by omega);have c4:wr.cell? ⟨b,off+k*12+4,none⟩=some (.int .i64 x.sk.hb):=B 4 (by omega);have c5:wr.cell? ⟨b,off+k*12+5,none⟩=some (.string x.sk.hr):=B 5 (by omega);have c6:wr.cell? ⟨b,off+k*12+6,none⟩=some (.int .i64 x.sk.cr):=B 6 (by omega);have c7:wr.cell? ⟨b,off+k*12+7,none⟩=some (.int .i64 x.sk.cc):=B 7 (by omega);have c8:wr.cell? ⟨b,off+k*12+8,none⟩=some (.slice p.ss.ca p.ss.cl p.ss.cc):=B 8 (by omega);have c9:wr.cell? ⟨b,off+k*12+9,none⟩=some (.int .i64 x.sk.gf):=B 9 (by omega);have t:wr.cell? ⟨b,off+k*12+10,none⟩=some (.slice p.ss.ga p.ss.gl p.ss.gc):=B 10 (by omega);have u:wr.cell? ⟨b,off+k*12+11,none⟩=some (.int .u64 x.seen):=B 11 (by omega);have r:Hid ((l.map (·.1))[k]? = some x):=by rw[Hid,List.getElem?_map,O];rfl
    have g:Hid (p.At wr.heap.size wr x):=((j.out.at_ _ (List.mem_of_getElem? O)).below I).mono G;have A:=Lib.hid (o.out _ (List.mem_of_getElem? O));obtain⟨H,ab,X,D,ai⟩:=jab wr #[.slice p.la p.ll p.lc,.int .i64 x.sk.kind,.int .i64 x.sk.level,.slice p.ss.ea p.ss.el p.ss.ec,.int .i64 x.sk.hb,.string x.sk.hr,.int .i64 x.sk.cr,.int .i64 x.sk.cc,.slice p.ss.ca p.ss.cl p.ss.cc,.int .i64 x.sk.gf,.slice p.ss.ga p.ss.gl p.ss.gc,.int .u64 x.seen] 90;obtain⟨r0,r1,r2,r3,r4,r5,r6,r7,r8,r9,aj,ak⟩:=jkX X;have J:Hid (p.At H.heap.size H x):=g.out.go D;have S:Hid (GW H):=q.out.below (I.trans (D.mono G));have ah:wr.heap.size<H.heap.size:=by omega
    have aa:=jia A.out.lab;obtain⟨y,z⟩:=jgx g.out.s A.out.short A.out.hr
    have Q:Hid (jbh ((l.map (·.1)).take (k+1))=s+(jbY x.sk+((jiz x.l).size:Int))):=by
     rw[Hid,jaf r.out,jk4,<- h.out];simp[jbh,jaO]
    have T:=jlr p.la p.ll p.lc x.l H J.out.l.1 A.out.lab S.out A.out.ll;have R:Hid (∀ w',Bw H w'->Calls Tryz.prog 59 #[.agg (skv x.sk p.ss)] w' fun e f=>e=.returned (.int .i64 (jbY x.sk))/\Bw w' f):=fun w' hb=>jhM x.sk p.ss w' (J.out.go hb).s A.out.short A.out.fit A.out.hr
    generalize jiz x.l=tx at *;generalize jbY x.sk=cx at *;clear B O
    go_wp2_with (first
     | (go_at_call 58;refine T.mono ?_;rintro e w2 ⟨rfl,C⟩;obtain⟨ad,ae⟩:=jf5 C)
     | (go_at_call 59;refine (R.out _ C).mono ?_;rintro e w3 ⟨rfl,Y⟩))
    have U:Bw w w3:=I.trans ((D.trans ((C.trans (Y.mono C.size)).mono (by omega))).mono G);go_roundw
    case rel=>exact⟨k+1,s+(cx+(tx.size:Int)),by go_num,by go_num,by omega,U,Q.out.symm,by omega,by omega⟩
    case measure=>simp[intOf];omega
   ·obtain rfl:k=l.length:=by omega
    have Q:Hid (cR=s):=by rw[Hid,L.out,h.out,List.take_of_length_le (by rw[List.length_map];exact Nat.le_refl _)]
    go_wp2_with fail;go_ret;exact⟨by rw[Q.out];rfl,I⟩
def Ser.wf (x:Ser):Prop:=x.sk.fit/\U64 x.seen
structure Ser.fine (x:Ser):Prop where
 lab:jcK x.l
 ll:x.l.length<=10
 e:x.sk.e.length<=70
 c:x.sk.cl.length<=200
 g:x.sk.gl.length<=300
 fit:x.sk.fit
 hr:x.sk.hr.size<=260
 seen:U64 x.seen
theorem Ser.fine.serFit {x:Ser} {p:SerP} {n:Nat} {w:World} (h:x.fine) (A:p.At n w x):SerFit x p:=by
 have B:=A.l.1.1;have C:=A.s.e.1.1;have D:=A.s.c.1.1;have E:=A.s.g.1.1;have F:=h.ll;have G:=h.e;have H:=h.c;have I:=h.g;have J:=h.hr;exact⟨h.lab,by omega,⟨by omega,by omega,by omega⟩,h.fit,by omega,h.seen⟩
theorem Ser.wf.cut {x:Ser} (h:x.wf):x.cut.fine:=by
 refine⟨fun y A=>?_,?_,?_,?_,?_,fun b hb=>h.1 b (List.mem_of_mem_take hb),?_,h.2⟩
 ·simp only[Ser.cut,List.mem_map] at A
  obtain⟨u,_,rfl⟩:=A;exact u.2
 ·simp only[Ser.cut,jxe,List.length_map,List.length_take];omega
 ·simp only[Ser.cut,Sk.cut,List.length_take];omega
 ·simp only[Ser.cut,Sk.cut,List.length_take];omega
 ·simp only[Ser.cut,Sk.cut,List.length_take];omega
 ·simp only[Ser.cut,Sk.cut]
  show (jl8 ((260:Nat):Int) x.sk.hr).size<=260;rw[jk7];omega
theorem jeG {l:List (Ser × SerP)} {n:Nat} {w:World} {a:Option Addr} {len cap:Nat} (B:Tab n w a len cap l) (h:∀ x∈l.map (·.1),Ser.fine x):jdl l:=fun e A=>(h e.1 (List.mem_map_of_mem A)).serFit (B.at_ e A)
end
section
open Go.ChangeShapes Go.WideShapes Go.ChangeAt Go.Lib Go.Deep Go.Shelf
def ren:Ren:=⟨fun x=>x,fun | 5=>5 | 119=>357 | 138=>359 | 139=>360 | n=>n,fun | 3=>1 | 4=>2 | n=>n⟩
theorem jsF:U8Types Tryz.prog ren:=⟨by kernel_rfl,by kernel_rfl,by kernel_rfl,by kernel_rfl⟩
theorem jsE:U8Extra Tryz.prog ren:=⟨by kernel_rfl,by kernel_rfl,by kernel_rfl,by kernel_rfl,by kernel_rfl,by kernel_rfl,by kernel_rfl⟩
theorem jwl:Rows.laid_unicode_utf8_first=firstData:=by kernel_rfl
theorem js9:(Rows.laid_unicode_utf8_acceptRanges:DataW Unit)=acceptData:=by kernel_rfl
def jq7 : List (String × DataW Unit) := [("unicode/utf8.acceptRanges", Rows.laid_unicode_utf8_acceptRanges), ("unicode/utf8.first", Rows.laid_unicode_utf8_first)]
theorem jxi {W:World} (B:laidMet Tryz.prog jq7 W) (G:W.ShapedOpen Tryz.prog):GW W:=by
 obtain⟨H,F,_⟩:=B;have C := LaidVars_reads F "unicode/utf8.first" Rows.laid_unicode_utf8_first (by unfold jq7; simp);have D := LaidVars_reads F "unicode/utf8.acceptRanges" Rows.laid_unicode_utf8_acceptRanges (by unfold jq7; simp);rw[jwl] at C;rw[js9] at D;have E:=utf8Tabs_of_readsT jsF jsE C D;have A:∃ m,W.cell? ⟨3,0,none⟩=some (.int .i64 m):=cell_of_shapedOpen_int G (g:=3) (t:=3) (zero:=#[.int .i64 0]) (of_decide_eq_true (by kernel_rfl)) (by kernel_rfl) (by kernel_rfl) (by kernel_rfl) (by kernel_rfl) (by kernel_rfl);refine⟨E,A,?_⟩
 first
  | exact World.block_lt_of_cell? W _ (E.2 0 (by decide)).1
  | (obtain⟨m,A⟩:=A;exact World.block_lt_of_cell? W _ A)
def juh : List (String × DataW Unit) := [("unicode/utf8.acceptRanges", Rows.laid_unicode_utf8_acceptRanges), eT, ("unicode/utf8.first", Rows.laid_unicode_utf8_first)]
theorem jxJ {W:World} (h:laidMetH Tryz.prog juh W):laidMet Tryz.prog jq7 W/\handlesMet Tryz.prog [eT] W:=h
noncomputable def laidWorldQ (os:Os):World :=
 let h0:=(World.holding Tryz.prog os ⟨#[],#[],[]⟩)
 { h0 with heap:=((h0.heap.modify 0 ju0).modify 1 fun
   | .cells _ t frozen=>.cells (firstTab.map (Value.int .u8)).toArray t frozen
   | o=>o).modify 2 fun
   | .cells _ t frozen=>.cells ((List.range 16).flatMap fun i=>[Value.int .u8 (accLo i),Value.int .u8 (accHi i)]).toArray t frozen
   | o=>o }
theorem jlu (A:Os) (args:Array Value):laidMetH Tryz.prog juh ((laidWorldQ A).forCall (fun _ _=>0) ⟨#[],args,[]⟩).memory :=
 laidMetH_of_parts (show laidMet Tryz.prog jq7 _ from laidMet_of_run' 8 (by kernel_rfl) (by kernel_rfl)) (by kernel_rfl)
end
structure Ent where
 seq:Int
 tm:Int
 text:ByteArray
 sum:Int
def Ent.enc (x:Ent):List Value:=[.int .u64 x.seq,.int .u64 x.tm,.string x.text,.int .u64 x.sum]
structure Lg where
 before:Int
 l:List Ent
abbrev jpJ:=Int->Int->Int->ByteArray->Int
def joT (a x:Ent):Bool:=decide (a.seq<18446744073709551615)&&(x.seq==a.seq+1)&&decide (a.tm<=x.tm)
def jbo:Option Ent->List Ent->Bool
 | _,[]=>true
 | p,x::xs=>decide (x.text.size<=200)&&(match p with | some a=>joT a x | none=>true)&&jbo (some x) xs
def jbG (S:jpJ):Int->List Ent->Bool
 | _,[]=>true
 | b,x::xs=>(x.sum==S b x.seq x.tm x.text)&&jbG S x.sum xs
def jiG (g:Lg):Bool:=match g.l with
 | []=>g.before==0
 | x::_ => !(decide (x.seq<1)||(x.seq==1&&g.before != 0))
def jmI (S:jpJ) (g:Lg):Bool:=decide (g.l.length<=30)&&jiG g&&jbo none g.l&&jbG S g.before g.l
def jhA (g:Lg):Int:=match g.l.getLast? with
 | some x=>x.sum
 | none=>g.before
def jby (g:Lg):Int:=match g.l.getLast? with
 | some x=>x.seq
 | none=>0
def jhO (g:Lg):Int:=match g.l.getLast? with
 | some x=>x.tm
 | none=>0
def jly (S:jpJ) (g:Lg) (tm:Int) (text:ByteArray):Ent:=⟨jby g+1,tm,text,S (jhA g) (jby g+1) tm text⟩
def jih (S:jpJ) (g:Lg) (tm:Int) (text:ByteArray):Bool:=jmI S g&&decide (text.size<=200)&&(jby g != 18446744073709551615)&&decide (jhO g<=tm)
def jbU (S:jpJ) (g:Lg) (tm:Int) (text:ByteArray):Lg :=
 if g.l.length=30 then ⟨(g.l.head?.map (·.sum)).getD 0,g.l.tail++[jly S g tm text]⟩ else ⟨g.before,g.l++[jly S g tm text]⟩
theorem jh6 (x:Ent):∀ (l:List Ent) (p:Option Ent),jbo p (l++[x])=(jbo p l&&decide (x.text.size<=200)&&(match (l.getLast?.or p) with | some a=>joT a x | none=>true))
 | [],p=>by cases p<;>simp[jbo]
 | y::ys,p=>by
  rw[List.cons_append];unfold jbo;rw[jh6 x ys (some y)]
  have e:((y::ys).getLast?.or p)=(ys.getLast?.or (some y)):=by
   cases ys with
   | nil=>rfl
   | cons z zs =>
    rw[List.getLast?_cons_cons]
    cases h:(z::zs).getLast? with
    | none=>simp at h
    | some a=>rfl
  rw[e];simp only[Bool.and_assoc]
theorem jhm (S:jpJ) (x:Ent):∀ (l:List Ent) (b:Int),jbG S b (l++[x])=(jbG S b l&&(x.sum==S ((l.getLast?.map (·.sum)).getD b) x.seq x.tm x.text))
 | [],b=>by simp[jbG]
 | y::ys,b=>by
  rw[List.cons_append];unfold jbG;rw[jhm S x ys y.sum]
  have e:((y::ys).getLast?.map (·.sum)).getD b=(ys.getLast?.map (·.sum)).getD y.sum:=by
   cases ys with
   | nil=>rfl
   | cons z zs =>
    rw[List.getLast?_cons_cons]
    cases h:(z::zs).getLast? with
    | none=>simp at h
    | some a=>rfl
  rw[e,Bool.and_assoc]
theorem jnb {p:Option Ent} {l:List Ent} (h:jbo p l=true):jbo none l=true:=by
 cases l with
 | nil=>rfl
 | cons x xs =>
  unfold jbo at h ⊢;simp only[Bool.and_eq_true] at h ⊢;exact⟨⟨h.1.1,trivial⟩,h.2⟩
theorem jt4 {a x:Ent} (h:joT a x=true):x.seq=a.seq+1:=by
 unfold joT at h;simp only[Bool.and_eq_true,beq_iff_eq] at h;exact h.1.2
theorem ji5 {S:jpJ} {g:Lg} {tm:Int} {text:ByteArray} (h:jih S g tm text=true) (M:∀ x,g.l.getLast? = some x->x.seq<=18446744073709551615):jmI S (jbU S g tm text)=true:=by
 unfold jih jmI at h;simp only[Bool.and_eq_true,decide_eq_true_eq,bne_iff_ne] at h;obtain⟨⟨⟨⟨⟨⟨N,D⟩,I⟩,J⟩,L⟩,H⟩,F⟩:=h
 have A:jbo none (g.l++[jly S g tm text])=true:=by
  rw[jh6,I,Bool.true_and,Bool.and_eq_true];refine⟨decide_eq_true L,?_⟩;rw[Option.or_none]
  cases E:g.l.getLast? with
  | none=>rfl
  | some a =>
   have P:=M a E;unfold jby at H;unfold jhO at F;rw[E] at H F;dsimp only at H F ⊢;unfold joT jly jby;rw[E];simp only[Bool.and_eq_true,decide_eq_true_eq,beq_self_eq_true,and_true];exact⟨by omega,F⟩
 have B:jbG S g.before (g.l++[jly S g tm text])=true:=by
  rw[jhm,J,Bool.true_and,beq_iff_eq]
  have e:jhA g=(g.l.getLast?.map (·.sum)).getD g.before:=by
   unfold jhA
   cases g.l.getLast?<;>rfl
  rw[<- e];rfl
 unfold jbU;by_cases C:g.l.length=30
 ·rw[if_pos C]
  unfold jmI;obtain⟨b,l⟩:=g
  cases l with
  | nil=>simp at C
  | cons x xs =>
   dsimp only[List.head?,Option.map,Option.getD,List.tail] at A B ⊢;rw[List.cons_append] at A B;unfold jbo at A;unfold jbG at B;simp only[Bool.and_eq_true] at A B;simp only[Bool.and_eq_true];simp only[List.length_cons] at C;refine⟨⟨⟨by simp;omega,?_⟩,jnb A.2⟩,B.2⟩
   cases xs with
   | nil=>simp at C
   | cons y ys =>
    have G:=A.2;rw[List.cons_append] at G;unfold jbo at G;simp only[Bool.and_eq_true] at G;have O:=jt4 G.1.2;unfold jiG at D ⊢;dsimp only[List.cons_append] at D ⊢;simp only[Bool.not_eq_true',Bool.or_eq_false_iff,decide_eq_false_iff_not,Bool.and_eq_false_iff,beq_eq_false_iff_ne] at D ⊢;exact⟨by omega,.inl (by omega)⟩
 ·rw[if_neg C]
  unfold jmI;dsimp only;rw[A,B,Bool.and_true,Bool.and_true,Bool.and_eq_true];refine⟨by simp;omega,?_⟩;unfold jiG at D ⊢
  cases E:g.l with
  | nil =>
   rw[E] at D;dsimp only at D;simp only[List.nil_append];unfold jly jby;rw[E];simp only[beq_iff_eq] at D;simp[D]
  | cons x xs =>
   rw[E] at D;simpa using D
end Go.Proofs.YtnegciklhanmbaaGreatDoor

/- series.add. series.Put: printed by wip/tools/gen_t5.py. series.Put. Series of Go's sizes; aviarylaw12.shown. A series as an argument has it. What rows have in common: series opened, the tables of unicode/utf8. Printed by gen_rz.py. Package ladder: a body's add and lower through the interface. -/
import Derived.Lib.LaidTab
import Derived.Lib.LaidU8T
import Derived.Test.YtafhpamnegmilaaGreatDoorZRK
import Derived.Test.YtafhpamnegmilaaGreatDoorZT7
set_option maxHeartbeats 4000000
set_option maxRecDepth 100000
namespace Go.Proofs.YtafhpamnegmilaaGreatDoor
open Go Go.RowKit Go.Shelf
section
def Loose (w:World) (b:Nat):Prop:=∃ c t,w.heap[b]? = some (.cells c t (0,0))
theorem Loose.of_heap {A B:World} {b:Nat} (h:Loose A b) (e:B.heap[b]? = A.heap[b]?):Loose B b:=by obtain⟨c,t,h⟩:=h;exact⟨c,t,e.trans h⟩
theorem Loose.lt {A:World} {b:Nat} (h:Loose A b):b<A.heap.size:=by obtain⟨c,t,h⟩:=h;exact (Array.getElem?_eq_some_iff.1 h).1
theorem Loose.go {A B:World} {b:Nat} (h:Loose A b) (C:Bw A B):Loose B b:=h.of_heap (C.block b h.lt)
theorem jjK {w:World} {A e B n m:Nat} {v:Value} {xs:List Value} (h:w.ownsRow A e B v n xs) {a:Option Addr} {c:Nat} (C:v=.slice a m c) {x:Addr} (F:a=some x):Loose w x.block:=by
 subst F;rcases h.2 with⟨rfl,_⟩ | ⟨g,cap,D,rfl,_,E,_⟩
 ·cases C
 ·injection C with h1 h2 h3
  injection h1 with h1
  subst h1;exact⟨_,_,E⟩
def jdI (w:World) (e:Ser × SerP):Prop:=∀ z,e.2.la=some z->0<e.2.lc->Loose w z.block
theorem jmW (a:Option Addr) (len cap:Nat) (l:List Lab) (w:World) (H:SlE Lab.enc 2 w.heap.size w a len l) (R:len<2147483648) :
  Calls Tryz.prog 95 #[.slice a len cap] w fun e w'=>∃ M C,e=.returned (.slice M len C)/\SlC Lab.enc 2 w'.heap.size w' M len C l/\(∀ x,M=some x->w.heap.size<=x.block)/\Bw w w'/\(∀ x,M=some x->Loose w' x.block):=by
 have Z:=jo8 a len cap;have B:=H.1
 cases a with
 | none =>
  have Q:l=[]:=by
   cases l with
   | nil=>rfl
   | cons y ys=>obtain⟨b,off,e,_⟩:=H.2 0 y rfl;cases e
  subst Q;obtain rfl:len=0:=B;clear H;go_enter Tryz.func95,Tryz.ntmps95;go_wp2_with fail;go_ret;exact⟨none,0,rfl,SlC.nil,(fun x h=>by cases h),Below.refl _ _,(fun x h=>by cases h)⟩
 | some a =>
  have G:Bw w (w.alloc (.cells #[] 57)):=(Below.refl _ w).alloc (Nat.le_refl _) _;have E:(w.alloc (.cells #[] 57)).ownsRow w.heap.size 57 2 (.slice (some ⟨w.heap.size,0,none⟩) 0 0) 0 []:=⟨rfl,.inr ⟨w.heap.size,0,#[],rfl,Nat.le_refl _,World.alloc_heap_new _ _,Nat.le_refl _,by unfold maxLen;omega,rfl,rfl⟩⟩;have I:=H.go G;obtain⟨v4,S,J,A,O,Y,-,-⟩:=jaE Tryz.prog (cap:=cap) 58 jss jtT rfl (by decide) E G (Nat.le_refl _) (by simp) (fun _=>rfl) I jv2 (by omega) R (by decide);rw[Nat.zero_add,List.nil_append,B] at A;have D:∀ a c,v4=.slice a l.length c->∀ x,a=some x->Loose S x.block:=fun a c V x X=>jjK A V X
  obtain⟨T,c4,F,L,P⟩:=jaz (enc:=Lab.enc) (fun _=>rfl) A;have N:=Lib.hid (D T c4 F);have U:Hid (SlC Lab.enc 2 S.heap.size S T len c4 l):=by rw[Hid,B];exact L
  rw[<- B] at F;subst F;clear H I E L A B D;go_enter Tryz.func95,Tryz.ntmps95;go_wp2_with (at_builtin;refine jb0 rfl _ _ _ rfl rfl rfl J ?_);go_ret;exact⟨_,_,rfl,U.out,P,O,N.out⟩
attribute [-go_sem] Builtin.append_
def Apart (B:Nat) (A A':World):Prop:=A.heap.size<=A'.heap.size/\∀ b,b<A.heap.size->b≠B->A'.heap[b]? = A.heap[b]?
section
variable {B:Nat} {A A' A'':World}
theorem Apart.of_below (h:Bw A A'):Apart B A A':=⟨h.size,fun b C _=>h.block b C⟩
theorem Apart.trans (h:Apart B A A') (C:Apart B A' A''):Apart B A A'':=⟨Nat.le_trans h.1 C.1,fun b D E=>(C.2 b (Nat.lt_of_lt_of_le D h.1) E).trans (h.2 b D E)⟩
theorem Apart.set (i:Nat) (v:Value):Apart B A (A.setCell ⟨B,i,none⟩ v):=⟨by rw[World.size_setCell];exact Nat.le_refl _,fun b _ C=>jae (fun h=>C h.symm) v⟩
theorem SlC.apart {α:Type} {enc:α->List Value} {k:Nat} {a:Option Addr} {len cap:Nat} {l:List α} (D:SlC enc k A.heap.size A a len cap l) (C:∀ z,a=some z->0<cap->z.block≠B) (h:Apart B A A'):SlC enc k A'.heap.size A' a len cap l :=
 (D.frame (q:=(· ≠ B)) C h.2).mono h.1
end
theorem jj8 {W:World} {B i:Nat} {c:Array Value} {t:TypeId} (h:W.heap[B]? = some (.cells c t (0,0))) (v:Value):∃ V,W.setCell ⟨B,i,none⟩ v=V/\V.heap[B]? = some (.cells (c.setIfInBounds i v) t (0,0))/\Apart B W V/\(∀ n A,n<=B->Below n A W->Below n A V)/\V.heap.size<=W.heap.size/\W.heap.size<=V.heap.size :=
 ⟨_,rfl,hSk h v,Apart.set i v,fun _ _ D C=>C.setCell (p:=⟨B,i,none⟩) D v,Nat.le_of_eq (World.size_setCell ..),Nat.le_of_eq (World.size_setCell ..).symm⟩
theorem GrowS.push_own {B:Nat} {q:Nat->Prop} {W F:World} {v v':Value} {l:List (Ser × SerP)} (h:GrowS B q W v l) (G:l.length<4294967) {x:Ser} {p:SerP}
  (C:(Builtin.append_ #[22,22] 22 #[v,.slice (some ⟨W.heap.size,0,none⟩) 1 1]).run Tryz.prog (W.alloc (.cells (jbq x p).toArray 60))=.ok v' F):v'.ownBlock=v.ownBlock\/∃ g,v'.ownBlock=some g/\W.heap.size<=g:=by
 have A:∀ j u,(jbq x p)[j]? = some u->(W.alloc (.cells (jbq x p).toArray 60)).cell? ((⟨W.heap.size,0,none⟩:Addr).add j)=some u:=fun j u E=>by
  have:=cCc (World.alloc_heap_new W (.cells (jbq x p).toArray 60)) j;have D:(⟨W.heap.size,0,none⟩:Addr).add j=⟨W.heap.size,j,none⟩:=by unfold Addr.add;split<;>simp_all
  rw[D,this];simpa using E
 rcases jgY 22 jcY jek (h.own.alloc _) (n:=l.length) (m:=1) rfl A (jgU (x,p)) (by omega) (by unfold maxLen;omega) (by omega) C with e | ⟨g,e,hg⟩
 ·exact .inl e
 ·refine .inr ⟨g,e,?_⟩
  simp at hg;omega
def jjn (l:List (Ser × SerP)):Prop:=∀ e∈l,e.2.ll<2147483648/\e.2.ss.Short
theorem jfw (A:Nat) (m:List (Ser × SerP)) (v:Value) (l:List (Ser × SerP)) (a:Option Addr) (len cap:Nat) (w:World) (bm:A<=w.heap.size) (hM:GrowS A (A <= ·) w v m) (hT:Tab w.heap.size w a len cap l) (hA:jjn l) (hn:m.length+l.length<4294967) (aq:∀ z,a=some z->0<cap->some z.block≠v.ownBlock) (av:∀ e∈l,e.2.Off (fun b=>some b≠v.ownBlock)) (o:∀ e∈m,jdI w e) :
  Calls Tryz.prog 54 #[v,.slice a len cap] w fun e w'=>∃ v' S,e=.returned v'/\GrowS A (A <= ·) w' v' (m++S)/\S.map (·.1)=l.map (·.1)/\Below A w w'/\(∀ e∈m++S,jdI w' e):=by
 have a0:=hT.row.1.1;subst a0;have HT:=Lib.hid hT;have HA:=Lib.hid hA;have HM:=Lib.hid hM;have HO:=Lib.hid (And.intro aq av);have hm:l.length<=maxLen:=Nat.le_trans hT.row.2.1 hT.row.2.2.1;unfold maxLen at hm;obtain⟨va,vc,rfl⟩:=hM.form;have ax:=Lib.hid o;clear hT hA hM aq av o;go_enter Tryz.func54,Tryz.ntmps54;go_wp2_with fail;go_loopw [0,9] (fun v i wr=>∃ (k:Nat) (S:List (Ser × SerP)),i=.int .i64 k/\k<=l.length/\GrowS A (A <= ·) wr v (m++S)/\Hid (S.length=k)/\Hid (S.map (·.1)=(l.map (·.1)).take k)/\Below A w wr/\w.heap.size<=wr.heap.size/\Hid (∀ b,b<w.heap.size->some b≠Value.ownBlock (.slice va m.length vc)->wr.heap[b]? = w.heap[b]? /\ some b≠v.ownBlock)/\Hid (∀ e∈m++S,jdI wr e)) (fun _ i _=>l.length-(intOf i).toNat)
 case atStart=>exact⟨0,[],rfl,Nat.zero_le _,by rw[List.append_nil];exact HM.out,rfl,rfl,Below.refl _ _,Nat.le_refl _,(fun b _ h=>⟨rfl,h⟩),by rw[List.append_nil];exact ax.out⟩
 case round =>
  obtain⟨k,S,rfl,hk,hG,HL,aP,hB,bq,t,aL⟩:=hrel;have HG:=Lib.hid hG;obtain⟨ua,uc,hu⟩:=hG.form;subst hu;have aF:(m++S).length<4294967:=by rw[List.length_append,HL.out];omega
  obtain⟨nn,aE⟩:∃ nn,(m++S).length=nn:=⟨_,rfl⟩;have HN:=Lib.hid aE;rw[aE] at HG t aF ⊢;clear hG aE;by_cases aD:k<l.length
  ·obtain⟨⟨x,p⟩,hx⟩:∃ x,l[k]? = some x:=⟨_,List.getElem?_eq_getElem aD⟩
   obtain⟨b,off,rfl,bn,I⟩:=HT.out.row.1.2 k (x,p) hx;have ap:wr.heap[b]? = w.heap[b]? := (t.out b bn (HO.out.1 _ rfl (by have:=HT.out.row.2.1;omega))).1;replace I:∀ i,i<12->wr.cell? ⟨b,off+k*12+i,none⟩=(jev (x,p))[i]? := fun i hi=>(jlq (p:=⟨b,off+k*12+i,none⟩) ap).trans (I i hi)
   have c0:wr.cell? ⟨b,off+k*12,none⟩=some (.slice p.la p.ll p.lc):=I 0 (by omega);have c1:wr.cell? ⟨b,off+k*12+1,none⟩=some (.int .i64 x.sk.kind):=I 1 (by omega);have c2:wr.cell? ⟨b,off+k*12+2,none⟩=some (.int .i64 x.sk.level):=I 2 (by omega);have c3:wr.cell? ⟨b,off+k*12+3,none⟩=some (.slice p.ss.ea p.ss.el p.ss.ec):=I 3 (by omega);have c4:wr.cell? ⟨b,off+k*12+4,none⟩=some (.int .i64 x.sk.hb):=I 4 (by omega);have c5:wr.cell? ⟨b,off+k*12+5,none⟩=some (.string x.sk.hr):=I 5 (by omega);have c6:wr.cell? ⟨b,off+k*12+6,none⟩=some (.int .i64 x.sk.cr):=I 6 (by omega);have c7:wr.cell? ⟨b,off+k*12+7,none⟩=some (.int .i64 x.sk.cc):=I 7 (by omega);have c8:wr.cell? ⟨b,off+k*12+8,none⟩=some (.slice p.ss.ca p.ss.cl p.ss.cc):=I 8 (by omega);have c9:wr.cell? ⟨b,off+k*12+9,none⟩=some (.int .i64 x.sk.gf):=I 9 (by omega);have be:wr.cell? ⟨b,off+k*12+10,none⟩=some (.slice p.ss.ga p.ss.gl p.ss.gc):=I 10 (by omega);have bf:wr.cell? ⟨b,off+k*12+11,none⟩=some (.int .u64 x.seen):=I 11 (by omega);have HX:Hid ((l.map (·.1))[k]? = some x):=by rw[Hid,List.getElem?_map,hx];rfl
   have aI:=Lib.hid (HA.out _ (List.mem_of_getElem? hx));have HP:Hid (p.At wr.heap.size wr x):=((HT.out.at_ _ (List.mem_of_getElem? hx)).frame (HO.out.2 _ (List.mem_of_getElem? hx)) (fun b hb hq=>(t.out b hb hq).1)).mono bq;obtain⟨W1,bl,aC,aV,bp⟩:=jaf wr #[.slice p.la p.ll p.lc,.int .i64 x.sk.kind,.int .i64 x.sk.level,.slice p.ss.ea p.ss.el p.ss.ec,.int .i64 x.sk.hb,.string x.sk.hr,.int .i64 x.sk.cr,.int .i64 x.sk.cc,.slice p.ss.ca p.ss.cl p.ss.cc,.int .i64 x.sk.gf,.slice p.ss.ga p.ss.gl p.ss.gc,.int .u64 x.seen] 60;obtain⟨r0,r1,r2,r3,r4,r5,r6,r7,r8,r9,br,bs⟩:=jhS aC;have u:Hid (p.At W1.heap.size W1 x):=HP.out.go aV;have bH:wr.heap.size<W1.heap.size:=by omega
   have T:Hid (p.Off (· ≠ wr.heap.size)):=HP.out.off.imp (fun b hb=>Nat.ne_of_lt hb);clear I hx ap;go_wp2_with fail;have aw:Hid (p.ss.Short):=aI.out.2;refine (jmW p.la p.ll p.lc x.l W1 u.out.l.1 aI.out.1).mono ?_;rintro e w2 ⟨V,r,rfl,aW,G,U,ar⟩;have ah:=Lib.hid ar;clear ar;have ab:=jab U (Nat.le_refl _) aC;have bu:=U.size;have g2:w2.cell? ⟨wr.heap.size,0,none⟩=some (.slice p.la p.ll p.lc):=cCc ab 0;have f2:w2.frozen? ⟨wr.heap.size,0,none⟩=false:=cFz ab 0;obtain⟨Y,bi,f,C,ak,bz,bD⟩:=jj8 (i:=0) ab (.slice V p.ll r);have d3:Y.cell? ⟨wr.heap.size,3,none⟩=some (.slice p.ss.ea p.ss.el p.ss.ec):=cCc f 3;have bb:Hid (SlC jaG 1 Y.heap.size Y p.ss.ea p.ss.el p.ss.ec x.sk.e):=((u.out.go U).s.e).apart (T.out.e) C;have ba:Hid (SlC jaG 1 Y.heap.size Y p.ss.ca p.ss.cl p.ss.cc x.sk.cl):=((u.out.go U).s.c).apart (T.out.c) C;have bc:Hid (SlC jbO 2 Y.heap.size Y p.ss.ga p.ss.gl p.ss.gc x.sk.gl):=((u.out.go U).s.g).apart (T.out.g) C;have a7:Hid (SlC Lab.enc 2 Y.heap.size Y V p.ll r x.l):=aW.apart (fun z B _=>by have:=G z B;omega) C;have a1:Hid (Bw wr Y):=ak _ _ (Nat.le_refl _) (aV.trans (U.mono (by omega)));clear r0 r1 r2 r3 r4 r5 r6 r7 r8 r9 br bs c0 c1 c2 c3 c4 c5 c6 c7 c8 c9 be bf aC bl ab aW;go_wp2_with fail;refine (jfZ p.ss.ea p.ss.el p.ss.ec x.sk.e Y bb.out.1 aw.out.1).mono ?_;rintro e w3 ⟨y,aa,rfl,aX,R,L⟩;have ac:=jab L (Nat.le_refl _) f;have bv:=L.size;have g3:w3.cell? ⟨wr.heap.size,3,none⟩=some (.slice p.ss.ea p.ss.el p.ss.ec):=cCc ac 3
   have f3:w3.frozen? ⟨wr.heap.size,3,none⟩=false:=cFz ac 3;obtain⟨Z,bj,j,D,al,bA,bE⟩:=jj8 (i:=3) ac (.slice y p.ss.el aa);have d8:Z.cell? ⟨wr.heap.size,8,none⟩=some (.slice p.ss.ca p.ss.cl p.ss.cc):=cCc j 8;have aQ:Hid (SlC jaG 1 Z.heap.size Z p.ss.ca p.ss.cl p.ss.cc x.sk.cl):=(ba.out.go L).apart (T.out.c) D;have aR:Hid (SlC jbO 2 Z.heap.size Z p.ss.ga p.ss.gl p.ss.gc x.sk.gl):=(bc.out.go L).apart (T.out.g) D;have a8:Hid (SlC Lab.enc 2 Z.heap.size Z V p.ll r x.l):=(a7.out.go L).apart (fun z B _=>by have:=G z B;omega) D;have a5:Hid (SlC jaG 1 Z.heap.size Z y p.ss.el aa x.sk.e):=aX.apart (fun z B _=>by have:=R z B;omega) D;have a2:Hid (Bw wr Z):=al _ _ (Nat.le_refl _) (a1.out.trans (L.mono (by omega)));clear bi f g2 f2 d3 ac aX;go_wp2_with fail;refine (jfZ p.ss.ca p.ss.cl p.ss.cc x.sk.cl Z aQ.out.1 aw.out.2.1).mono ?_;rintro e w4 ⟨az,aA,rfl,aY,q,M⟩;have ad:=jab M (Nat.le_refl _) j;have bw:=M.size;have g4:w4.cell? ⟨wr.heap.size,8,none⟩=some (.slice p.ss.ca p.ss.cl p.ss.cc):=cCc ad 8;have f4:w4.frozen? ⟨wr.heap.size,8,none⟩=false:=cFz ad 8;obtain⟨d,bk,n,E,am,bB,bF⟩:=jj8 (i:=8) ad (.slice az p.ss.cl aA);have bg:d.cell? ⟨wr.heap.size,10,none⟩=some (.slice p.ss.ga p.ss.gl p.ss.gc):=cCc n 10;have aS:Hid (SlC jbO 2 d.heap.size d p.ss.ga p.ss.gl p.ss.gc x.sk.gl):=(aR.out.go M).apart (T.out.g) E;have a9:Hid (SlC Lab.enc 2 d.heap.size d V p.ll r x.l):=(a8.out.go M).apart (fun z B _=>by have:=G z B;omega) E
   have a6:Hid (SlC jaG 1 d.heap.size d y p.ss.el aa x.sk.e):=(a5.out.go M).apart (fun z B _=>by have:=R z B;omega) E;have a4:Hid (SlC jaG 1 d.heap.size d az p.ss.cl aA x.sk.cl):=aY.apart (fun z B _=>by have:=q z B;omega) E;have a3:Hid (Bw wr d):=am _ _ (Nat.le_refl _) (a2.out.trans (M.mono (by omega)));clear bj j g3 f3 d8 ad aY;go_wp2_with fail;refine (jls p.ss.ga p.ss.gl p.ss.gc x.sk.gl d aS.out.1 aw.out.2.2).mono ?_;rintro e w5 ⟨aT,aU,rfl,aZ,au,N⟩;have ae:=jab N (Nat.le_refl _) n;have bx:=N.size;have g5:w5.cell? ⟨wr.heap.size,10,none⟩=some (.slice p.ss.ga p.ss.gl p.ss.gc):=cCc ae 10;have f5:w5.frozen? ⟨wr.heap.size,10,none⟩=false:=cFz ae 10;obtain⟨V5,bt,ao,F,an,bC,bG⟩:=jj8 (i:=10) ae (.slice aT p.ss.gl aU);have aN:=(a9.out.go N).apart (fun z B _=>by have:=G z B;omega) F;have aK:=(a6.out.go N).apart (fun z B _=>by have:=R z B;omega) F;have aJ:=(a4.out.go N).apart (fun z B _=>by have:=q z B;omega) F;have aM:=aZ.apart (fun z B _=>by have:=au z B;omega) F;have J:Bw wr V5:=an _ _ (Nat.le_refl _) (a3.out.trans (N.mono (by omega)));have aj:Apart wr.heap.size w2 V5:=(((((C.trans (Apart.of_below L)).trans D).trans (Apart.of_below M)).trans E).trans (Apart.of_below N)).trans F;have aO:Hid (∀ z,V=some z->Loose V5 z.block):=fun z B=>(ah.out z B).of_heap (aj.2 _ (ah.out z B).lt (by have:=G z B;omega))
   clear aj;obtain⟨p',ag⟩:∃ p':SerP,p'=⟨V,p.ll,r,⟨y,p.ss.el,aa,az,p.ss.cl,aA,aT,p.ss.gl,aU⟩⟩:=⟨_,rfl⟩;have aH:p'.At V5.heap.size V5 x:=by subst ag;exact⟨aN,aK,aJ,aM⟩
   have ay:p'.Off (fun b=>A<=b/\some b≠Value.ownBlock (.slice ua nn uc)):=by
    have aD:=HG.out.own.lt;have af:∀ z,wr.heap.size<=z->A<=z/\some z≠Value.ownBlock (.slice ua nn uc):=fun z B=>⟨by have:=hB.size;omega,fun h=>by have:=(aD z h.symm).2;omega⟩
    subst ag;exact⟨fun z H _=>af _ (by have:=G z H;omega),fun z H _=>af _ (by have:=R z H;omega),fun z H _=>af _ (by have:=q z H;omega),fun z H _=>af _ (by have:=au z H;omega)⟩
   obtain⟨g6,ai,w6,P,aB,bh,bJ,Q⟩:=(HG.out.go J).push (hB.trans (J.mono (by omega))) (Nat.le_refl _) (by have:=J.size;omega) (by rw[HN.out];exact aF) aH ay;have O:=(HG.out.go J).push_own (by rw[HN.out];exact aF) P;rw[HN.out] at P aB O;obtain⟨s0,s1,s2,s3,s4,s5,s6,s7,s8,s9,bK,bL⟩:=jhS ao
   have FI:Hid (∃ X:List (Ser × SerP),GrowS A (A <= ·) w6 (.slice (some ⟨g6,0,none⟩) (nn+1) ai) (m++X)/\X.length=k+1/\X.map (·.1)=(l.map (·.1)).take (k+1)/\Below A w w6/\w.heap.size<=w6.heap.size/\(∀ b,b<w.heap.size->some b≠Value.ownBlock (.slice va m.length vc)->w6.heap[b]? = w.heap[b]? /\ some b≠Value.ownBlock (.slice (some ⟨g6,0,none⟩) (nn+1) ai))/\(∀ e∈m++X,jdI w6 e)):=by
    have bI:=J.size;refine⟨S++[(x,p')],by rw[<- List.append_assoc];exact aB,by rw[List.length_append,HL.out];rfl,?_,bh,by omega,fun c I bo=>?_,fun e he z B aG=>?_⟩
    ·rw[List.map_append,aP.out,jai HX.out];rfl
    ·obtain⟨H,h2⟩:=t.out c I bo
     refine⟨(Q c (by omega) h2).trans ((J.block c (by omega)).trans H),?_⟩;rcases O with h | ⟨g,h,hg⟩
     ·rw[h];exact h2
     ·rw[h];intro h3;injection h3 with h3;omega
    ·rw[<- List.append_assoc] at he
     rcases List.mem_append.1 he with he | he
     ·have H:=aL.out e he z B aG
      have h2:=H.lt;exact (H.of_heap (J.block _ h2)).of_heap (Q _ (by omega) ((HG.out.off e he).l z B aG).2)
     ·rw[List.mem_singleton] at he
      subst he;have h3:=ay.l z B aG;subst ag;have H:=aO.out z B;exact H.of_heap (Q _ H.lt h3.2)
   unfold jbq at P;clear bp;subst ag;dsimp only at P;clear bk n g4 f4 bg ae aZ aN aK aJ aM F E D C aB Q O ay aH ao an am al ak;go_wp2_with fail;go_roundw
   case rel =>
    obtain⟨X,H,h2,h3,h4,h5,h6,h7⟩:=FI.out;exact⟨k+1,X,by go_num,by omega,H,h2,h3,h4,h5,h6,h7⟩
   case measure=>simp[intOf];omega
  ·have H9:Hid (S.map (·.1)=l.map (·.1)):=by rw[Hid,aP.out,List.take_of_length_le (by rw[List.length_map];omega)]
   go_wp2_with fail;go_ret;exact⟨_,rfl,S,HG.out,H9.out,hB,fun a b h=>aL.out (a,b) (List.mem_append.2 h)⟩
end
theorem Tab.drop {A:Nat} {w:World} {a:Option Addr} {len cap:Nat} {l:List (Ser × SerP)} (h:Tab A w a len cap l) (m:Nat) (C:m<=len):Tab A w (jef a cap m 12) (len-m) (cap-m) (l.drop m):=⟨h.row.drop m C,fun e B=>h.at_ e (List.mem_of_mem_drop B)⟩
theorem joA (a:Option Addr) (len cap m:Nat) (w:World) (h:m<=cap):(Instr.slice 22 (.slice a len cap) none (some (.int .i64 (m:Int))) none).run Tryz.prog w=.ok (.slice a m cap) w:=by
 have B:=jfd a cap 12;unfold jef at B;have C:(sizeOf 60).run Tryz.prog w=.ok 12 w:=by kernel_rfl
 have A:Tryz.prog.elem 22=60:=by kernel_rfl
 rw[run_slice_h (t:=22) (a:=a) (len:=len) (cap:=cap) (w:=w) (ht:=by rw[A];exact jcY) (kh:=.i64) (h:=(m:Int)) (by omega) (by omega),A,C];simp only[Result.andThen,sliced,Int.toNat_natCast,Nat.sub_zero,B]
theorem jjT (a:Option Addr) (len cap m:Nat) (w:World) (h:m<=len):(Instr.slice 22 (.slice a len cap) (some (.int .i64 (m:Int))) none none).run Tryz.prog w=.ok (.slice (jef a cap m 12) (len-m) (cap-m)) w:=by
 have B:(sizeOf 60).run Tryz.prog w=.ok 12 w:=by kernel_rfl
 have A:Tryz.prog.elem 22=60:=by kernel_rfl
 rw[run_slice_l (t:=22) (a:=a) (len:=len) (cap:=cap) (w:=w) (ht:=by rw[A];exact jcY) (kl:=.i64) (l:=(m:Int)) (by omega) (by omega),A,B];simp only[Result.andThen,sliced,Int.toNat_natCast,jef]
theorem jwe {w:World} {x:Ser} {p:SerP} (h:p.At w.heap.size w x):Tab (w.alloc (.cells (jbq x p).toArray 60)).heap.size (w.alloc (.cells (jbq x p).toArray 60)) (some ⟨w.heap.size,0,none⟩) 1 1 [(x,p)]:=by
 have E:Bw w (w.alloc (.cells (jbq x p).toArray 60)):=(Below.refl _ w).alloc (Nat.le_refl _) _;have D:w.heap.size<(w.alloc (.cells (jbq x p).toArray 60)).heap.size:=by simp
 refine⟨⟨⟨rfl,fun j y C=>?_⟩,Nat.le_refl _,by unfold maxLen;omega,(fun h=>by cases h),fun z A _=>?_⟩,fun e B=>?_⟩
 ·have F:j=0:=by have:=(List.getElem?_eq_some_iff.1 C).1;simp at this;exact this
  subst F;obtain rfl:(x,p)=y:=by simpa using C
  refine⟨w.heap.size,0,rfl,D,fun i G=>?_⟩;have:=cCc (World.alloc_heap_new w (.cells (jbq x p).toArray 60)) i;simp[jev]
 ·injection A with A
  subst A;exact⟨rfl,D⟩
 ·rw[List.mem_singleton] at B
  subst B;exact h.go E
theorem jps (w:World) (c:Nat) (I:c<=1000):∃ w',(Instr.makeSlice 22 (.int .i64 0) (.int .i64 (c:Int))).run Tryz.prog w=.ok (.slice (some ⟨w.heap.size,0,none⟩) 0 c) w'/\GrowS w.heap.size (w.heap.size <= ·) w' (.slice (some ⟨w.heap.size,0,none⟩) 0 c) []/\Bw w w':=by
 obtain⟨i,F,H,A,C⟩:=info_parts jek;obtain⟨w',D,E,B⟩:=run_makeSlice_owned (P:=Tryz.prog) w w.heap.size 22 60 i _ 12 jcY F H A .i64 .i64 c (by omega) (by rw[C];omega) (by unfold maxLen;omega) (Nat.le_refl _);exact⟨w',D,⟨E,(fun e h=>by cases h),(fun e h=>by cases h)⟩,⟨B.os,B.tape,B.output,B.size,fun k G=>B.block k G (fun h=>by cases h)⟩⟩
def jwV (l:List Ser) (x:Ser):List Ser:=l.take (jcs l x.l)++x::l.drop (jcs l x.l+(if jcK l x.l then 1 else 0))
def jgK (l:List Ser) (x:Ser):Bool:=jas l&&jaV x&&(jcK l x.l || !(l.length==20))
def jqe (l:List Ser) (x:Ser) (w:World) (e:Ending) (w':World):Prop :=
 Bw w w'/\((jgK l x=false/\e=.returned (.tuple #[.slice none 0 0,.int .i64 120])) \/
  (jgK l x=true/\∃ a' cap' m,e=.returned (.tuple #[.slice a' (List.length m) cap',.int .i64 0])/\Tab w'.heap.size w' a' m.length cap' m/\m.map (·.1)=jwV l x/\(∀ z,a'=some z->w.heap.size<=z.block)/\(∀ e∈m,e.2.Off (fun b=>w.heap.size<=b/\∀ z,a'=some z->b≠z.block))/\(∀ z,a'=some z->Loose w' z.block)/\(∀ e∈m,jdI w' e)))
theorem SerFit.add {x:Ser} {p:SerP} (h:SerFit x p) (hr:jal x.l=true) {n:Nat} {w:World} (ha:p.At n w x):p.ll<2147483648/\p.ss.Short:=by
 refine⟨?_,h.short⟩;have A:=ha.l.1.1;have B:x.l.length<=6:=by simp[jal] at hr;exact hr.1.2
 omega
theorem jmy:∀ (l:List Ser) (p:Option (List Lab)),jca p l=true->∀ x∈l,jaV x=true
 | [],_,_,x,h=>by cases h
 | y::r,p,h,x,A=>by
  simp only[jca,Bool.and_eq_true] at h;rcases List.mem_cons.1 A with rfl | A
  ·exact h.1.1
  ·exact jmy r _ h.2 x A
theorem jqf {l:List (Ser × SerP)} {n:Nat} {w:World} {a:Option Addr} {len cap:Nat} (hr:jas (l.map (·.1))=true) (C:jdl l) (D:Tab n w a len cap l):jjn l:=fun e A=>by
 simp only[jas,Bool.and_eq_true] at hr;have B:=jmy _ _ hr.2 e.1 (List.mem_map_of_mem A);simp only[jaV,Bool.and_eq_true] at B;exact (C e A).add B.1 (D.at_ e A)
theorem jmb {A:Nat} {L:List Ser} {x:Ser} {w w':World} {v:Value} {M:List (Ser × SerP)} (I:jgK L x=true) (P:Bw w w') (N:w.heap.size<=A) (h:GrowS A (A <= ·) w' v M) (Q:M.map (·.1)=jwV L x) (F:∀ e∈M,jdI w' e):jqe L x w (.returned (.tuple #[v,.int .i64 0])) w':=by
 have D:=h.own;obtain⟨O,B,rfl,E,G,H⟩:=h.tab;exact⟨P,.inr ⟨I,O,B,M,rfl,E,Q,fun z J=>Nat.le_trans N (G z J),fun e R=>(H e R).imp fun b C=>⟨Nat.le_trans N C.1,C.2⟩,fun z J=>jjK D rfl J,F⟩⟩
theorem jio (w:World) (c:Nat) (A:c<=900):∃ w',(Instr.makeSlice 22 (.int .i64 0) (.int .i64 ((c:Int)+1))).run Tryz.prog w=.ok (.slice (some ⟨w.heap.size,0,none⟩) 0 (c+1)) w'/\GrowS w.heap.size (w.heap.size <= ·) w' (.slice (some ⟨w.heap.size,0,none⟩) 0 (c+1)) []/\Bw w w':=by
 have h:=jps w (c+1) (by omega);rw[show ((c+1:Nat):Int)=(c:Int)+1 by omega] at h;exact h
theorem jnO (a:Option Addr) (len cap m:Nat) (w:World) (h:m<len):(Instr.slice 22 (.slice a len cap) (some (.int .i64 ((m:Int)+1))) none none).run Tryz.prog w=.ok (.slice (jef a cap (m+1) 12) (len-(m+1)) (cap-(m+1))) w:=by
 have h:=jjT a len cap (m+1) w h;rw[show ((m+1:Nat):Int)=(m:Int)+1 by omega] at h;exact h
theorem jj3 (A:Nat) (m:List (Ser × SerP)) (v:Value) (l:List (Ser × SerP)) (a:Option Addr) (len cap:Nat) (W w:World) (Q:W.heap.size<=A) (F:Bw W w) (B:A<=w.heap.size) (H:GrowS A (A <= ·) w v m) (E:Tab W.heap.size W a len cap l) (L:jjn l) (N:m.length+l.length<4294967) (C:∀ e∈m,jdI w e) :
  Calls Tryz.prog 54 #[v,.slice a len cap] w fun e w'=>∃ v' G,e=.returned v'/\GrowS A (A <= ·) w' v' (m++G)/\G.map (·.1)=l.map (·.1)/\Below A w w'/\(∀ e∈m++G,jdI w' e):=by
 have D:=H.own.lt;refine jfw A m v l a len cap w B H ((E.below F).mono F.size) L N (fun z O I h=>?_) (fun e M=>(E.at_ e M).off.imp fun b F h=>?_) C
 ·have P:=(E.row.2.2.2.2 z O I).2
  have J:=(D _ h.symm).1;omega
 ·have J:=(D _ h.symm).1
  omega
theorem jqg (A:Nat) (m:List (Ser × SerP)) (v:Value) (x:Ser) (p:SerP) (W w:World) (U:W.heap.size<=A) (J:Bw W w) (B:A<=w.heap.size) (M:GrowS A (A <= ·) w v m) (N:p.At W.heap.size W x) (S:jjn [(x,p)]) (T:m.length+1<4294967) (C:∀ e∈m,jdI w e) :
  Calls Tryz.prog 54 #[v,.slice (some ⟨w.heap.size,0,none⟩) 1 1] (w.alloc (.cells #[.slice p.la p.ll p.lc,.int .i64 x.sk.kind,.int .i64 x.sk.level,.slice p.ss.ea p.ss.el p.ss.ec,.int .i64 x.sk.hb,.string x.sk.hr,.int .i64 x.sk.cr,.int .i64 x.sk.cc,.slice p.ss.ca p.ss.cl p.ss.cc,.int .i64 x.sk.gf,.slice p.ss.ga p.ss.gl p.ss.gc,.int .u64 x.seen] 60)) fun e w'=>∃ v' F,e=.returned v'/\GrowS A (A <= ·) w' v' (m++F)/\F.map (·.1)=[(x,p)].map (·.1)/\Below A w w'/\(∀ e∈m++F,jdI w' e):=by
 have E:=M.own.lt;have H:Bw w (w.alloc (.cells #[.slice p.la p.ll p.lc,.int .i64 x.sk.kind,.int .i64 x.sk.level,.slice p.ss.ea p.ss.el p.ss.ec,.int .i64 x.sk.hb,.string x.sk.hr,.int .i64 x.sk.cr,.int .i64 x.sk.cc,.slice p.ss.ca p.ss.cl p.ss.cc,.int .i64 x.sk.gf,.slice p.ss.ga p.ss.gl p.ss.gc,.int .u64 x.seen] 60)):=(Below.refl _ w).alloc (Nat.le_refl _) _;have D:=H.size;refine (jfw A m v [(x,p)] (some ⟨w.heap.size,0,none⟩) 1 1 (w.alloc (.cells #[.slice p.la p.ll p.lc,.int .i64 x.sk.kind,.int .i64 x.sk.level,.slice p.ss.ea p.ss.el p.ss.ec,.int .i64 x.sk.hb,.string x.sk.hr,.int .i64 x.sk.cr,.int .i64 x.sk.cc,.slice p.ss.ca p.ss.cl p.ss.cc,.int .i64 x.sk.gf,.slice p.ss.ga p.ss.gl p.ss.gc,.int .u64 x.seen] 60)) (by omega) (M.go H) (jwe ((N.below J).mono J.size)) S T (fun z D L h=>?_) (fun e I=>?_) (fun e I z D L=>(C e I z D L).go H)).mono ?_
 ·injection D with D
  subst D;have G:=(E _ h.symm).2;dsimp only at G;omega
 ·rw[List.mem_singleton] at I
  subst I;refine N.off.imp fun b J h=>?_
  have G:=(E _ h.symm).1;omega
 ·rintro e w' ⟨v',F,O,G,P,Q,R⟩
  exact⟨v',F,O,G,P,(H.mono B).trans Q,R⟩
theorem jjj (l:List (Ser × SerP)) (a:Option Addr) (len cap:Nat) (x:Ser) (p:SerP) (w:World) (hT:Tab w.heap.size w a len cap l) (hF:jdl l) (hP:p.At w.heap.size w x) (hS:SerFit x p) (hG:GW w) :
  Calls Tryz.prog 23 #[.slice a len cap,.agg #[.slice p.la p.ll p.lc,.int .i64 x.sk.kind,.int .i64 x.sk.level,.slice p.ss.ea p.ss.el p.ss.ec,.int .i64 x.sk.hb,.string x.sk.hr,.int .i64 x.sk.cr,.int .i64 x.sk.cc,.slice p.ss.ca p.ss.cl p.ss.cc,.int .i64 x.sk.gf,.slice p.ss.ga p.ss.gl p.ss.gc,.int .u64 x.seen]] w (jqe (l.map (·.1)) x w):=by
 have ax:=hT.row.1.1;subst ax;obtain⟨G,aR,aB,H,aJ⟩:=jaf w #[.slice p.la p.ll p.lc,.int .i64 x.sk.kind,.int .i64 x.sk.level,.slice p.ss.ea p.ss.el p.ss.ec,.int .i64 x.sk.hb,.string x.sk.hr,.int .i64 x.sk.cr,.int .i64 x.sk.cc,.slice p.ss.ca p.ss.cl p.ss.cc,.int .i64 x.sk.gf,.slice p.ss.ga p.ss.gl p.ss.gc,.int .u64 x.seen] 60;obtain⟨c0,c1,c2,c3,c4,c5,c6,c7,c8,c9,aO,aP⟩:=jhS aB;have HT:=Lib.hid hT;have Q:Hid (Tab G.heap.size G a l.length cap l):=hT.go H;have HF:=Lib.hid hF;have HP:=Lib.hid hP;have r:Hid (p.At G.heap.size G x):=hP.go H;have HS:=Lib.hid hS;have ac:Hid (GW G):=hG.below H;have aS:w.heap.size<G.heap.size:=by omega
 have hR:=jbm l a l.length cap G Q.out HF.out ac.out;clear hT hF hP hS hG aJ
 cases hr:jas (l.map (·.1)) with
 | false =>
  rw[hr] at hR;have R:Hid (jgK (l.map (·.1)) x=false):=by rw[Hid,jgK,hr];rfl
  clear hr;generalize l.map (·.1)=L at R ⊢;go_enter Tryz.func23,Tryz.ntmps23;go_wp2_with (go_at_call 26;refine hR.mono ?_;rintro e w1 ⟨rfl,B⟩);go_ret2;exact⟨H.trans (B.mono (by omega)),.inl ⟨R.out,rfl⟩⟩
 | true =>
  rw[hr] at hR;have P:Hid (∀ w',Bw G w'->Calls Tryz.prog 52 #[.agg #[.slice p.la p.ll p.lc,.int .i64 x.sk.kind,.int .i64 x.sk.level,.slice p.ss.ea p.ss.el p.ss.ec,.int .i64 x.sk.hb,.string x.sk.hr,.int .i64 x.sk.cr,.int .i64 x.sk.cc,.slice p.ss.ca p.ss.cl p.ss.cc,.int .i64 x.sk.gf,.slice p.ss.ga p.ss.gl p.ss.gc,.int .u64 x.seen]] w' fun e ap=>e=.returned (.bool (jaV x))/\Bw w' ap):=fun w' hb=>jdw x p w' (r.out.go hb) HS.out (ac.out.below hb)
  cases M:jaV x with
  | false =>
   have R:Hid (jgK (l.map (·.1)) x=false):=by rw[Hid,jgK,hr,M];rfl
   rw[M] at P;clear hr M;generalize l.map (·.1)=L at R ⊢;go_enter Tryz.func23,Tryz.ntmps23
   go_wp2_with (first
    | (go_at_call 26;refine hR.mono ?_;rintro e w1 ⟨rfl,B⟩;obtain⟨am,an⟩:=jfA B)
    | (go_at_call 52;refine (P.out _ B).mono ?_;rintro e w2 ⟨rfl,N⟩))
   go_ret2;exact⟨H.trans ((B.trans (N.mono B.size)).mono (by omega)),.inl ⟨R.out,rfl⟩⟩
  | true =>
   rw[M] at P;have hk:=jqW (l.map (·.1)) x.l;rw[List.length_map] at hk;have aQ:l.length<=20:=by simp[jas] at hr;exact hr.1
   have aN:l.length<=cap:=HT.out.row.2.1;have aI:p.ll<=maxLen:=Nat.le_trans HP.out.l.2.1 HP.out.l.2.2.1
   have ab:Hid (∀ w',Bw G w'->Calls Tryz.prog 53 #[.slice a l.length cap,.slice p.la p.ll p.lc] w' fun e ap=>e=.returned (.tuple #[.int .i64 (jcs (l.map (·.1)) x.l:Int),.bool (jcK (l.map (·.1)) x.l)])/\Bw w' ap):=fun w' hb=>by
    have:=je1 l a l.length cap x.l p.la p.ll p.lc w' (Q.out.go hb) HF.out (ac.out.below hb) (r.out.go hb).l.1 aI;rw[hr,if_pos rfl,Bool.true_and] at this;exact this
   have q:Hid (jjn l):=jqf hr HF.out HT.out
   have u:Hid (jjn [(x,p)]):=fun e n=>by
    rw[List.mem_singleton] at n;subst n;simp only[jaV,Bool.and_eq_true] at M;exact HS.out.add M.1 HP.out
   have aj:Hid (jgK (l.map (·.1)) x=(jcK (l.map (·.1)) x.l || !((l.map (·.1)).length==20))):=by rw[Hid,jgK,hr,M];rfl
   have ar:Hid (∀ s t m3:List (Ser × SerP),s.map (·.1)=(l.take (jcs (l.map (·.1)) x.l)).map (·.1)->t.map (·.1)=[(x,p)].map (·.1)->m3.map (·.1)=(l.drop (jcs (l.map (·.1)) x.l+(if jcK (l.map (·.1)) x.l then 1 else 0))).map (·.1)->((([]++s)++t)++m3).map (fun e:Ser × SerP=>e.1)=jwV (l.map (·.1)) x):=fun s t m3 h1 h2 h3=>by
    rw[List.map_append,List.map_append,List.nil_append,h1,h2,h3,jwV,List.map_take,List.map_drop];simp
   have aq:Hid ((l.map (·.1)).length=l.length):=List.length_map ..
   have aA:Hid (jcK (l.map (·.1)) x.l=true->jcs (l.map (·.1)) x.l<l.length):=fun h=>by
    unfold jcK at h
    cases hx:(l.map (·.1))[jcs (l.map (·.1)) x.l]? with
    | none=>rw[hx] at h;cases h
    | some y=>have:=(List.getElem?_eq_some_iff.1 hx).1;rw[List.length_map] at this;exact this
   clear hr M;generalize hkT:jcs (l.map (·.1)) x.l=kT at *;generalize hbT:jcK (l.map (·.1)) x.l=bT at *;generalize l.map (·.1)=L at *;clear hkT hbT
   cases bT with
   | false =>
    by_cases ak:l.length=20
    ·have R:Hid (jgK L x=false):=by rw[Hid,aj.out,aq.out,ak];rfl
     have au:(l.length:Int)=20:=by omega
     clear ak;go_enter Tryz.func23,Tryz.ntmps23
     go_wp2_with (first
      | (go_at_call 26;refine hR.mono ?_;rintro e w1 ⟨rfl,B⟩;obtain⟨am,an⟩:=jfA B)
      | (go_at_call 52;refine (P.out _ B).mono ?_;rintro e w2 ⟨rfl,N⟩;have A:=B.trans (N.mono B.size);obtain⟨av,aw⟩:=jfA A)
      | (go_at_call 53;refine (ab.out _ A).mono ?_;rintro e o ⟨rfl,Z⟩))
     go_ret2;exact⟨H.trans ((A.trans (Z.mono A.size)).mono (by omega)),.inl ⟨R.out,rfl⟩⟩
    ·have R:Hid (jgK L x=true):=by rw[Hid,aj.out,aq.out];simp;omega
     have au:¬ ((l.length:Int)=20):=by omega
     clear ak;go_enter Tryz.func23,Tryz.ntmps23
     go_wp2_with (first
      | (go_at_call 26;refine hR.mono ?_;rintro e w1 ⟨rfl,B⟩;obtain⟨am,an⟩:=jfA B)
      | (go_at_call 52;refine (P.out _ B).mono ?_;rintro e w2 ⟨rfl,N⟩;have A:=B.trans (N.mono B.size);obtain⟨av,aw⟩:=jfA A)
      | (go_at_call 53;refine (ab.out _ A).mono ?_;rintro e o ⟨rfl,Z⟩;have E:=A.trans (Z.mono A.size);obtain⟨w4,aH,T,b⟩:=jio o l.length (by omega);have ao:=joA a l.length cap kT w4 (by omega);have C:=E.trans (b.mono E.size);obtain⟨aC,aE⟩:=jfA C))
     have aK:=C.size;have D:=E.size;have m:=b.size;go_at_call 54;refine (jj3 o.heap.size [] _ (l.take kT) a kT cap G w4 D C m T (Q.out.take kT hk) (fun e n=>q.out e (List.mem_of_mem_take n)) (by simp;omega) (fun e h=>by cases h)).mono ?_;rintro e w5 ⟨v5,s,rfl,U,j,c,f⟩;have F:Bw G w5:=C.trans (c.mono D);obtain⟨aD,aF⟩:=jfA F;have aL:=c.size;have ad:=Lib.hid U;have v:=Lib.hid f;clear f;have S:=Lib.hid j;clear T U j;have ay:s.length<=20:=by have:=congrArg List.length S.out;simp at this;omega
     go_wp2_with fail;refine (jqg o.heap.size _ _ x p G w5 D F (by omega) ad.out r.out u.out (by simp;omega) v.out).mono ?_;rintro e w6 ⟨v6,t,rfl,V,O,d,g⟩;have I:Bw G w6:=F.trans (d.mono D);have aM:=d.size;have ae:=Lib.hid V;have z:=Lib.hid g;clear g;have ah:=Lib.hid O;have J:t.length=1:=by have:=congrArg List.length O;simpa using this
     have ag:=Lib.hid J;have az:=jjT a l.length cap kT w6 hk;clear V O J ao;go_wp2_with fail;refine (jj3 o.heap.size _ _ (l.drop kT) _ _ _ G w6 D I (by omega) ae.out (Q.out.drop kT (by omega)) (fun e n=>q.out e (List.mem_of_mem_drop n)) (by simp[ag.out];omega) z.out).mono ?_;rintro e w7 ⟨v7,m3,rfl,X,k,al,i⟩;have Y:Bw G w7:=I.trans (al.mono D);have af:=Lib.hid X;have aa:=Lib.hid i;clear i;have ai:=Lib.hid k;clear X k;go_wp2_with fail;go_ret2;exact jmb R.out (H.trans (Y.mono (by omega))) (by omega) af.out (ar.out s t m3 S.out ah.out ai.out) aa.out
   | true =>
    have R:Hid (jgK L x=true):=aj.out;have aG:kT<l.length:=aA.out rfl;go_enter Tryz.func23,Tryz.ntmps23
    go_wp2_with (first
     | (go_at_call 26;refine hR.mono ?_;rintro e w1 ⟨rfl,B⟩;obtain⟨am,an⟩:=jfA B)
     | (go_at_call 52;refine (P.out _ B).mono ?_;rintro e w2 ⟨rfl,N⟩;have A:=B.trans (N.mono B.size);obtain⟨av,aw⟩:=jfA A)
     | (go_at_call 53;refine (ab.out _ A).mono ?_;rintro e o ⟨rfl,Z⟩;have E:=A.trans (Z.mono A.size);obtain⟨w4,aH,T,b⟩:=jio o l.length (by omega);have ao:=joA a l.length cap kT w4 (by omega);have C:=E.trans (b.mono E.size);obtain⟨aC,aE⟩:=jfA C))
    have aK:=C.size;have D:=E.size;have m:=b.size;go_at_call 54;refine (jj3 o.heap.size [] _ (l.take kT) a kT cap G w4 D C m T (Q.out.take kT hk) (fun e n=>q.out e (List.mem_of_mem_take n)) (by simp;omega) (fun e h=>by cases h)).mono ?_;rintro e w5 ⟨v5,s,rfl,U,j,c,f⟩;have F:Bw G w5:=C.trans (c.mono D);obtain⟨aD,aF⟩:=jfA F;have aL:=c.size;have ad:=Lib.hid U;have v:=Lib.hid f;clear f;have S:=Lib.hid j;clear T U j;have ay:s.length<=20:=by have:=congrArg List.length S.out;simp at this;omega
    go_wp2_with fail;refine (jqg o.heap.size _ _ x p G w5 D F (by omega) ad.out r.out u.out (by simp;omega) v.out).mono ?_;rintro e w6 ⟨v6,t,rfl,V,O,d,g⟩;have I:Bw G w6:=F.trans (d.mono D);have aM:=d.size;have ae:=Lib.hid V;have z:=Lib.hid g;clear g;have ah:=Lib.hid O;have J:t.length=1:=by have:=congrArg List.length O;simpa using this
    have ag:=Lib.hid J;have az:=jnO a l.length cap kT w6 aG;clear V O J ao;go_wp2_with fail;refine (jj3 o.heap.size _ _ (l.drop (kT+1)) _ _ _ G w6 D I (by omega) ae.out (Q.out.drop (kT+1) (by omega)) (fun e n=>q.out e (List.mem_of_mem_drop n)) (by simp[ag.out];omega) z.out).mono ?_;rintro e w7 ⟨v7,m3,rfl,X,k,al,i⟩;have Y:Bw G w7:=I.trans (al.mono D);have af:=Lib.hid X;have aa:=Lib.hid i;clear i;have ai:=Lib.hid k;clear X k;go_wp2_with fail;go_ret2;exact jmb R.out (H.trans (Y.mono (by omega))) (by omega) af.out (ar.out s t m3 S.out ah.out ai.out) aa.out
def Ser.wf (x:Ser):Prop:=x.sk.fit/\U64 x.seen
structure Ser.fine (x:Ser):Prop where
 lab:jfs x.l
 ll:x.l.length<=10
 e:x.sk.e.length<=70
 c:x.sk.cl.length<=200
 g:x.sk.gl.length<=300
 fit:x.sk.fit
 hr:x.sk.hr.size<=260
 seen:U64 x.seen
theorem Ser.fine.serFit {x:Ser} {p:SerP} {n:Nat} {w:World} (h:x.fine) (A:p.At n w x):SerFit x p:=by
 have B:=A.l.1.1;have C:=A.s.e.1.1;have D:=A.s.c.1.1;have E:=A.s.g.1.1;have F:=h.ll;have G:=h.e;have H:=h.c;have I:=h.g;have J:=h.hr;exact⟨h.lab,by omega,⟨by omega,by omega,by omega⟩,h.fit,by omega,h.seen⟩
theorem Ser.wf.cut {x:Ser} (h:x.wf):x.cut.fine:=by
 refine⟨fun y A=>?_,?_,?_,?_,?_,fun b B=>h.1 b (List.mem_of_mem_take B),?_,h.2⟩
 ·simp only[Ser.cut,List.mem_map] at A
  obtain⟨u,_,rfl⟩:=A;exact u.2
 ·simp only[Ser.cut,jeh,List.length_map,List.length_take];omega
 ·simp only[Ser.cut,Sk.cut,List.length_take];omega
 ·simp only[Ser.cut,Sk.cut,List.length_take];omega
 ·simp only[Ser.cut,Sk.cut,List.length_take];omega
 ·simp only[Ser.cut,Sk.cut]
  show (jmX ((260:Nat):Int) x.sk.hr).size<=260;rw[jlv];omega
theorem jmx {l:List (Ser × SerP)} {n:Nat} {w:World} {a:Option Addr} {len cap:Nat} (B:Tab n w a len cap l) (h:∀ x∈l.map (·.1),Ser.fine x):jdl l:=fun e A=>(h e.1 (List.mem_map_of_mem A)).serFit (B.at_ e A)
theorem jof {l:List Ser} (h:∀ x∈l,x.wf):∀ x∈jh4 l,x.fine:=fun x A=>by
 simp only[jh4,List.mem_map] at A;obtain⟨y,B,rfl⟩:=A;exact (h y (List.mem_of_mem_take B)).cut
theorem jsM (q:List Lab) (D:Option Addr) (C I:Nat) (w:World) (F:GW w) (L:SlE Lab.enc 2 w.heap.size w D C q) (B:C<=maxLen) :
  CR 24 #[.slice none 0 0,.slice D C I] w (.tuple #[.slice none 0 0,.int .i64 121]):=by
 have M:=jbm [] none 0 0 w Tab.nil (fun e h=>by cases h) F
 have E:Hid (∀ w',Bw w w'->Calls Tryz.prog 53 #[.slice none 0 0,.slice D C I] w' fun e J=>e=.returned (.tuple #[.int .i64 0,.bool false])/\Bw w' J):=fun w' G =>
  je1 [] none 0 0 q D C I w' Tab.nil (fun e h=>by cases h) (F.below G) ((L.below G).mono G.size) B
 rw[show jas (([]:List (Ser × SerP)).map (·.1))=true from rfl] at M;clear F L B;go_enter Tryz.func24,Tryz.ntmps24
 go_wp2_with (first
  | (go_at_call 26;refine M.mono ?_;rintro e N ⟨rfl,A⟩)
  | (go_at_call 53;refine (E.out _ A).mono ?_;rintro e O ⟨rfl,H⟩))
 go_ret2;exact⟨rfl,A.trans (H.mono A.size)⟩
def shSer:Ser:=⟨[⟨⟨#[97]⟩,⟨#[120]⟩⟩],⟨1,0,[7],0,⟨#[]⟩,0,0,[],0,[]⟩,0⟩
theorem jxp:jgK [] shSer=true:=by kernel_rfl
theorem jw2:jwV [] shSer=[shSer]:=by kernel_rfl
theorem jwb:je6 [shSer]=27:=by kernel_rfl
theorem juz:jas [shSer]=true:=by kernel_rfl
theorem sh_fine:shSer.fine:=by
 refine⟨fun y A=>?_,by decide,by decide,by decide,by decide,(fun b B=>by cases B),by decide,by unfold U64;decide⟩;simp only[shSer,List.mem_singleton] at A;subst A;exact⟨by decide,by decide⟩
theorem jkX {α:Type} {enc:α->List Value} {k b:Nat} {W:World} {x:α} {t:TypeId} (h:W.heap[b]? = some (.cells (enc x).toArray t (0,0))):SlC enc k W.heap.size W (some ⟨b,0,none⟩) 1 1 [x]:=by
 have B:=(Array.getElem?_eq_some_iff.1 h).1;refine⟨⟨rfl,fun j y C=>?_⟩,Nat.le_refl _,by unfold maxLen;omega,(fun h=>by cases h),fun z A _=>?_⟩
 ·have D:j=0:=by have:=(List.getElem?_eq_some_iff.1 C).1;simp at this;exact this
  subst D;obtain rfl:x=y:=by simpa using C
  refine⟨b,0,rfl,B,fun i E=>?_⟩;have:=cCc h i;simpa using this
 ·injection A with A
  subst A;exact⟨rfl,B⟩
theorem jnJ (w:World) (Z:GW w):CR 5 #[] w (.bool true):=by
 go_enter Tryz.func5,Tryz.ntmps5;go_wp2_with fail;obtain⟨A,o,S,T,N,X⟩:=jaI w #[.string ⟨#[97]⟩,.string ⟨#[120]⟩] 57 #[.int .u64 7] 48;obtain⟨L,P,H,E,j⟩:=jaf A #[.slice (some ⟨w.heap.size,0,none⟩) 1 1,.int .i64 1,.int .i64 0,.slice (some ⟨w.heap.size+1,0,none⟩) 1 1,.int .i64 0,.string ⟨#[]⟩,.int .i64 0,.int .i64 0,.slice none 0 0,.int .i64 0,.slice none 0 0,.int .u64 0] 60;rw[o,P];have Q:=jab E (Nat.le_refl _) S;have R:=jab E (Nat.le_refl _) T;rw[X] at H;have M:Bw w L:=N.trans (E.mono (by omega));have y:L.heap.size=w.heap.size+3:=by omega
 clear P o S T N E X j;have d:Hid (SerP.At ⟨some ⟨w.heap.size,0,none⟩,1,1,⟨some ⟨w.heap.size+1,0,none⟩,1,1,none,0,0,none,0,0⟩⟩ L.heap.size L shSer):=⟨jkX (t:=57) Q,jkX (t:=48) R,SlC.nil,SlC.nil⟩;have s:L.cell? ⟨w.heap.size+2,0,none⟩=some (.slice (some ⟨w.heap.size,0,none⟩) 1 1):=cCc H 0;refine (jjj [] none 0 0 shSer ⟨some ⟨w.heap.size,0,none⟩,1,1,⟨some ⟨w.heap.size+1,0,none⟩,1,1,none,0,0,none,0,0⟩⟩ L Tab.nil (fun e h=>by cases h) d.out (sh_fine.serFit d.out) (Z.below M)).mono ?_;rintro e a ⟨F,h⟩;rcases h with⟨h,-⟩ | ⟨-,Y,C,m,rfl,O,p,-,-⟩
 ·exact absurd (h.symm.trans jxp) (by decide)
 have V:m.map (·.1)=[shSer]:=p.trans jw2;have c:=Lib.hid V;have G:=Lib.hid O;have B:Bw w a:=M.trans (F.mono (by omega));have z:=F.size;obtain⟨u,v⟩:=jfA F;have r:=Lib.hid (jsM shSer.l (some ⟨w.heap.size,0,none⟩) 1 1 a (Z.below B) (d.out.go F).l.1 (by unfold maxLen;omega));have n:=Lib.hid Z;clear p V O Z Q R H;have k:Hid (jdl m):=jmx G.out (by rw[c.out];intro x q;rw[List.mem_singleton] at q;subst q;exact sh_fine);generalize m.length=nm at *
 have b:Hid (∀ w',Bw a w'->Calls Tryz.prog 25 #[.slice Y nm C] w' fun e J=>e=.returned (.int .i64 27)/\Bw w' J):=fun w' U=>by
  have:=jiS m Y nm C w' (G.out.go U) k.out (n.out.below (B.trans (U.mono B.size)));rw[c.out,jwb] at this;exact this
 have f:Hid (∀ w',Bw a w'->Calls Tryz.prog 26 #[.slice Y nm C] w' fun e J=>e=.returned (.bool true)/\Bw w' J):=fun w' U=>by
  have:=jbm m Y nm C w' (G.out.go U) k.out (n.out.below (B.trans (U.mono B.size)));rw[c.out,juz] at this;exact this
 go_wp2_with (first
  | (go_at_call 24;refine r.out.mono ?_;rintro e w2 ⟨rfl,I⟩)
  | (go_at_call 25;refine (b.out _ I).mono ?_;rintro e w3 ⟨rfl,g⟩;have D:=I.trans (g.mono I.size))
  | (go_at_call 26;refine (f.out _ D).mono ?_;rintro e w4 ⟨rfl,i⟩))
 go_ret;exact⟨rfl,B.trans ((D.trans (i.mono D.size)).mono B.size)⟩
def Ser.wn (x:Ser):Prop:=x.sk.arg/\U64 x.seen
theorem Ser.wn.wf {x:Ser} (h:x.wn):x.wf:=⟨fun b A=>(h.1.g b A).1.2,h.2⟩
section
open Go.ChangeShapes Go.WideShapes Go.ChangeAt Go.Lib Go.Deep
def ren:Ren:=⟨fun x=>x,fun | 5=>5 | 119=>275 | 138=>277 | 139=>278 | n=>n,fun | 3=>2 | 4=>3 | n=>n⟩
theorem jsm:U8Types Tryz.prog ren:=⟨by kernel_rfl,by kernel_rfl,by kernel_rfl,by kernel_rfl⟩
theorem jsl:U8Extra Tryz.prog ren:=⟨by kernel_rfl,by kernel_rfl,by kernel_rfl,by kernel_rfl,by kernel_rfl,by kernel_rfl,by kernel_rfl⟩
theorem jvB:Rows.laid_unicode_utf8_first=firstData:=by kernel_rfl
theorem jsP:(Rows.laid_unicode_utf8_acceptRanges:DataW Unit)=acceptData:=by kernel_rfl
def jrj : List (String × DataW Unit) := [("unicode/utf8.acceptRanges", Rows.laid_unicode_utf8_acceptRanges), ("unicode/utf8.first", Rows.laid_unicode_utf8_first)]
theorem jxj {W:World} (C:laidMet Tryz.prog jrj W) (E:W.ShapedOpen Tryz.prog):GW W:=by
 obtain⟨G,D,_⟩:=C;have A := LaidVars_reads D "unicode/utf8.first" Rows.laid_unicode_utf8_first (by unfold jrj; simp);have B := LaidVars_reads D "unicode/utf8.acceptRanges" Rows.laid_unicode_utf8_acceptRanges (by unfold jrj; simp);rw[jvB] at A;rw[jsP] at B;refine⟨utf8Tabs_of_readsT jsm jsl A B,?_,?_⟩
 ·exact cell_of_shapedOpen_int E (g:=1) (t:=3) (zero:=#[.int .i64 0]) (of_decide_eq_true (by kernel_rfl)) (by kernel_rfl) (by kernel_rfl) (by kernel_rfl) (by kernel_rfl) (by kernel_rfl)
 ·have F:=utf8Tabs_of_readsT jsm jsl A B
  exact World.block_lt_of_cell? W _ (F.2 0 (by decide)).1
section
variable {H:Type} {enc:TypeId × Value->H} {w:World} {base:Nat} {held:Bool}
theorem jtY (n:Nat) (A:List Value) (x:DataW H × List MemPlace) (h:DataW.trod enc Tryz.prog w base (fun _=>true) held n 57 A=some x):∃ y:Lab,A=y.enc:=by
 obtain⟨I,m,E⟩:=jcm Tryz.underlying57 (by kernel_rfl) (by kernel_rfl) h;obtain⟨v0,M,C,F⟩:=E 0 _ rfl;obtain⟨v1,N,D,G⟩:=E 1 _ rfl;obtain⟨J,B,-,-⟩:=DataW.trod_string joK F;obtain⟨L,c1,-,-⟩:=DataW.trod_string joK G
 match A,I with
 | [a,b],_ =>
  simp only[List.getElem?_cons_zero,List.getElem?_cons_succ,Option.some.injEq,List.cons.injEq,and_true] at C D B c1;exact⟨⟨J,L⟩,by rw[C,D,B,c1];rfl⟩
theorem jrh (n:Nat) (A:List Value) (x:DataW H × List MemPlace) (h:DataW.trod enc Tryz.prog w base (fun _=>true) held n 57 A=some x):∃ y:Lab,A=y.enc/\True:=by
 obtain⟨y,h⟩:=jtY n A x h;exact⟨y,h,trivial⟩
end
def jvK : List (String × DataW Unit) := [("unicode/utf8.acceptRanges", Rows.laid_unicode_utf8_acceptRanges), eT, ("unicode/utf8.first", Rows.laid_unicode_utf8_first)]
theorem jxz {W:World} (h:laidMetH Tryz.prog jvK W):laidMet Tryz.prog jrj W/\handlesMet Tryz.prog [eT] W:=h
noncomputable def laidWorldQ (os:Os):World :=
 let h0:=(World.holding Tryz.prog os ⟨#[],#[],[]⟩)
 { h0 with heap:=((h0.heap.modify 0 juK).modify 2 fun
   | .cells _ t frozen=>.cells (firstTab.map (Value.int .u8)).toArray t frozen
   | o=>o).modify 3 fun
   | .cells _ t frozen=>.cells ((List.range 16).flatMap fun i=>[Value.int .u8 (accLo i),Value.int .u8 (accHi i)]).toArray t frozen
   | o=>o }
theorem jrk (A:Os) (args:Array Value):laidMetH Tryz.prog jvK ((laidWorldQ A).forCall (fun _ _=>0) ⟨#[],args,[]⟩).memory :=
 laidMetH_of_parts (show laidMet Tryz.prog jrj _ from laidMet_of_run' 8 (by kernel_rfl) (by kernel_rfl)) (by kernel_rfl)
end
theorem joi (f:Nat):∀ (l:List (Int × Int)) (A:Int),jb5 l->(∀ b∈l,A<b.1)->(∀ b∈l,b.2≠0)->(∀ b∈l,jao f b.1=true)->(jb7 (jbw f) A l).isSome=true
 | [],A,_,_,_,_=>by simp[jgc]
 | b::t,A,hu,h1,h2,h3=>by
  obtain⟨F,G⟩:=jdh hu
  have E:jbw f A b=some b.1:=by
   unfold jbw;have H:=h1 b List.mem_cons_self;have C:=h2 b List.mem_cons_self;have D:=h3 b List.mem_cons_self;rw[if_neg];simp[C,D];omega
  rw[jdj,E];exact joi f t b.1 F G (fun c B=>h2 c (List.mem_cons_of_mem _ B)) (fun c B=>h3 c (List.mem_cons_of_mem _ B))
theorem jd1 (f:Nat) (l:List (Int × Int)) (B:f<=3) (E:jb5 l) (C:∀ b∈l,b.2≠0) (A:∀ b∈l,jao f b.1=true):jaP f l=true:=by
 unfold jaP;rw[jcj f B,joi f l (-1) E (fun b D=>by have:=jcp f B b.1 (A b D);omega) C A];rfl
theorem jvd:∀ (l:List (Int × Int)) (A:Int),jb5 l->(∀ b∈l,A<b.1)->(∀ b∈l,b.1<=512)->A<=512->(l.length:Int)<=512-A
 | [],A,_,_,_,h=>by simp;omega
 | b::t,A,hu,h1,h2,h=>by
  obtain⟨D,E⟩:=jdh hu;have F:=h1 b List.mem_cons_self;have B:=h2 b List.mem_cons_self;have:=jvd t b.1 D E (fun c C=>h2 c (List.mem_cons_of_mem _ C)) B;simp only[List.length_cons];omega
theorem jfc (f:Nat) (l:List (Int × Int)) (C:f<=3) (D:jb5 l) (B:∀ b∈l,jao f b.1=true):l.length<=513:=by
 have:=jvd l (-1) D (fun b A=>by have:=jcp f C b.1 (B b A);omega) (fun b A=>(jcp f C b.1 (B b A)).2) (by omega);omega
theorem jhB (f:Nat) (l:List (Int × Int)) (C:f<=3) (A:∀ b∈l,jao f b.1=true):∀ b∈l,I64 b.1:=fun b B=>by have:=jcp f C b.1 (A b B);unfold I64;omega
theorem jhU {c A:Nat} (h:c*2^A=32) (B:A<=3):c=4\/c=8\/c=16\/c=32:=by
 rcases (by omega:A=0\/A=1\/A=2\/A=3) with rfl | rfl | rfl | rfl<;>simp at h<;>omega
theorem jtx {c A:Nat} (h:c*2^A=32) (B:A<3):c=8\/c=16\/c=32:=by
 rcases (by omega:A=0\/A=1\/A=2) with rfl | rfl | rfl<;>simp at h<;>omega
theorem jru (x : Value) (w : World) : (method 495 234 (.agg #[x]) "aviary/ladder.lower").run Tryz.prog w = .ok (233, .agg #[x]) w := by kernel_rfl
theorem jrv (x y : Value) (w : World) : (method 495 236 (.agg #[x, y]) "aviary/ladder.lower").run Tryz.prog w = .ok (261, .agg #[x, y]) w := by kernel_rfl
theorem jrt (x y z : Value) (w : World) : (method 495 237 (.agg #[x, y, z]) "aviary/ladder.lower").run Tryz.prog w = .ok (269, .agg #[x, y, z]) w := by kernel_rfl
theorem jrs (x y : Value) (w : World) : (method 495 239 (.agg #[x, y]) "aviary/ladder.lower").run Tryz.prog w = .ok (283, .agg #[x, y]) w := by kernel_rfl
theorem juc {w : World} {v : Value} {B : Bd} {E A : Nat} (M : BdAt w v B) (C : B.Ok E A) (V : A < jc1 E) : ∃ T O f, v = .iface T O /\ (∀ W, (method 495 T O "aviary/ladder.lower").run Tryz.prog W = .ok (f, O) W) /\ (∀ args W, (callFunc f args).run Tryz.prog W = .ok (.enter f args) W) /\
  ∀ W,BdAt W v B->Calls Tryz.prog f #[O] W (jbi (some B.low) W):=by
 cases B with
 | num l =>
  obtain⟨a,len,cap,rfl,-⟩:=M;obtain⟨-,-,N,I,G⟩:=C;refine⟨_,_,_,rfl,fun W=>jru _ W,enters_of Tryz.func233 (by kernel_rfl) rfl,fun W H=>?_⟩;obtain⟨S,F,D,e,J⟩:=H
  cases e
  exact jvR l a len cap W J G (by omega)
 | reg b r =>
  obtain rfl:v=_:=M;obtain⟨L,U,N,I,G,Q⟩:=C;subst L;have:jc1 1=4:=rfl;refine⟨_,_,_,rfl,fun W=>jrv _ _ W,enters_of Tryz.func261 (by kernel_rfl) rfl,fun W H=>?_⟩;exact jvS b r W (by omega) (by omega) G Q
 | cnt c l =>
  obtain⟨a,len,cap,rfl,-⟩:=M;obtain⟨L,U,N,I,G⟩:=C;subst L;have:jc1 2=3:=rfl;refine⟨_,_,_,rfl,fun W=>jrt _ _ _ W,enters_of Tryz.func269 (by kernel_rfl) rfl,fun W H=>?_⟩;obtain⟨S,F,D,e,J⟩:=H
  cases e
  exact jvP c l a len cap W (jtx N (by omega)) J I G
 | bkt f l =>
  obtain⟨a,len,cap,rfl,-⟩:=M;obtain⟨L,U,N,I,G,Q,R⟩:=C;subst L;have:jc1 3=3:=rfl;refine⟨_,_,_,rfl,fun W=>jrs _ _ W,enters_of Tryz.func283 (by kernel_rfl) rfl,fun W H=>?_⟩;obtain⟨S,F,D,e,J⟩:=H
  cases e
  have P:f<=3:=by omega
  exact jvO f l a len cap W (by omega) P J (jd1 f l P I G R) R Q (by have:=jfc f l P I R;omega)
end Go.Proofs.YtafhpamnegmilaaGreatDoor

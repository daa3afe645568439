/- audit.From; clock.Advance. clock.copied, tenant.Table: printed by wip/tools/gen_sj.py. Package ladder: lowered. Package ladder: a sketch as a value and its body at work. A right sketch is that of a body at work. No program in sight. Sketches as bodies, in plain data. No program in sight. Quota in plain data: a table's jdN, what is fitted. No program in sight. The clock as plain data: which series are stale, a table without them. No program in sight. Package ladder: what sketches cost, in plain data. -/
import Derived.Test.YtnegciklhanmbaaGreatDoorZG2
set_option maxHeartbeats 4000000
set_option maxRecDepth 100000
namespace Go.Proofs.YtnegciklhanmbaaGreatDoor
open Go Go.RowKit
section
open Go.Shelf
def jdi (q:Int) (l:List Ent):List Ent:=l.filter fun x=>decide (q<=x.seq)
theorem joW (q:Int) {l:List Ent} {k:Nat} {x:Ent} (h:l[k]? = some x):jdi q (l.take (k+1))=jdi q (l.take k)++(if q<=x.seq then [x] else []):=by
 rw[jaf h,jdi,List.filter_append];congr 1;by_cases A:q<=x.seq
 ·rw[if_pos A];simp[A]
 ·rw[if_neg A];simp[A]
attribute [-go_sem] Builtin.append_
theorem js3 (q B:Int) (l:List Ent) (a:Option Addr) (n cap:Nat) (w:World) (h:jii w.heap.size w a n cap l) (hn:n<4294967) :
  Calls Tryz.prog 31 #[.agg #[.int .u64 B,.slice a n cap],.int .u64 q] w fun e w'=>∃ P T,e=.returned (.slice P (jdi q l).length T)/\jii w'.heap.size w' P (jdi q l).length T (jdi q l)/\(∀ z,P=some z->w.heap.size<=z.block)/\Bw w w':=by
 obtain⟨W0,aa,Q,Y,ad⟩:=jab w #[.int .u64 B,.slice a n cap] 77;obtain⟨c0,c1⟩:=cl2 Q;have N:=Lib.hid h.1.1;have H:=Lib.hid h;clear h Q;go_enter Tryz.func31,Tryz.ntmps31;go_wp2_with fail;go_loopw [5,11] (fun v i wr=>∃ k:Nat,i=.int .i64 k/\k<=n/\wr.ownsRow w.heap.size 135 4 v (jdi q (l.take k)).length ((jdi q (l.take k)).flatMap Ent.enc)/\Bw w wr) (fun _ i _=>n-(intOf i).toNat)
 case atStart=>exact⟨0,rfl,Nat.zero_le _,World.ownsRow_nil _ _ _ _,Y⟩
 case round =>
  obtain⟨k,rfl,hk,E,U⟩:=hrel;by_cases f:k<n
  ·obtain⟨x,V⟩:∃ x,l[k]? = some x:=⟨_,List.getElem?_eq_getElem (by rw[<- N.out];exact f)⟩
   obtain⟨b,off,rfl,ac,r0,r1,r2,r3⟩:=jdt (H.out.below U) V;obtain⟨X,ab,I,G,m⟩:=jab wr #[.int .u64 x.seq,.int .u64 x.tm,.string x.text,.int .u64 x.sum] 135;obtain⟨x0,x1,x2,x3⟩:=cl4 I;have C:=U.trans (G.mono U.size);have S:=Lib.hid (joW q V);have O:=Lib.hid E;obtain⟨s,t,rfl⟩:=jbD E
   have R:(jdi q (l.take k)).length<=n:=by
    have y:(jdi q (l.take k)).length<=(l.take k).length:=List.length_filter_le ..;rw[List.length_take] at y;omega
   by_cases L:q<=x.seq
   ·obtain⟨g,c,o,J,D,Z,ae,-,-⟩:=jap Tryz.prog 50 jg9 jg1 rfl (by decide) (W:=X) (jd3 E G) C (Nat.le_refl _) C.size (Ent.enc x) rfl (jmN x) (by omega) (by decide)
    have M:Hid (o.ownsRow w.heap.size 135 4 (.slice (some ⟨g,0,none⟩) ((jdi q (l.take k)).length+1) c) (jdi q (l.take (k+1))).length ((jdi q (l.take (k+1))).flatMap Ent.enc)):=by
     rw[Hid,S.out,if_pos L,List.length_append,List.flatMap_append];simpa using D
    have u:=Lib.hid L;have j:decide (q<=x.seq)=true:=decide_eq_true L;obtain⟨F,A⟩:∃ F,(jdi q (l.take k)).length=F:=⟨_,rfl⟩;rw[A] at J M ⊢;have p:(Builtin.append_ #[50,50] 50 #[.slice s F t,.slice (some ⟨wr.heap.size+1,0,none⟩) 1 1]).run Tryz.prog (X.alloc (.cells #[.int .u64 x.seq,.int .u64 x.tm,.string x.text,.int .u64 x.sum] 135))=.ok (.slice (some ⟨g,0,none⟩) (F+1) c) o:=by rw[<- m];exact J
    clear E D V R A I J O;go_wp2_with fail;go_roundw
    case rel=>exact⟨k+1,by go_num,by omega,M.out,Z⟩
    case measure=>simp[intOf];omega
   ·have M:Hid (X.ownsRow w.heap.size 135 4 (.slice s (jdi q (l.take k)).length t) (jdi q (l.take (k+1))).length ((jdi q (l.take (k+1))).flatMap Ent.enc)):=by
     rw[Hid,S.out,if_neg L,List.append_nil];exact jd3 E G
    have u:=Lib.hid L;have j:decide (q<=x.seq)=false:=decide_eq_false L;obtain⟨F,A⟩:∃ F,(jdi q (l.take k)).length=F:=⟨_,rfl⟩;rw[A] at M ⊢;clear E V R A I O L;go_wp2_with fail;go_roundw
    case rel=>exact⟨k+1,by go_num,by omega,M.out,C⟩
    case measure=>simp[intOf];omega
  ·obtain rfl:k=n:=by omega
   rw[List.take_of_length_le (by rw[<- N.out];exact Nat.le_refl _)] at E;obtain⟨P,T,rfl,r,d⟩:=jaM (enc:=Ent.enc) (fun _=>rfl) E;have S:=Lib.hid r;clear E r;go_wp2_with fail;go_ret;exact⟨P,T,rfl,S.out,d,U⟩
theorem jl9 (A next:Int) (w:World):Calls Tryz.prog 62 #[.int .u64 A,.int .u64 next] w fun e w'=>e=.returned (.tuple (if next<A then #[.int .u64 0,.int .i64 140] else #[.int .u64 next,.int .i64 0]))/\w'=w:=by
 by_cases h:next<A
 ·rw[if_pos h]
  go_enter Tryz.func62,Tryz.ntmps62;go_wp2;go_ret2;exact⟨rfl,rfl⟩
 ·rw[if_neg h]
  go_enter Tryz.func62,Tryz.ntmps62;go_wp2;go_ret2;exact⟨rfl,rfl⟩
end
section
open Go.Shelf
attribute [-go_sem] Builtin.append_
theorem jk3 (l:List (Ser × SerP)) (a:Option Addr) (cap:Nat) (w:World) (hT:Tab w.heap.size w a l.length cap l) (hA:jfw l) (bp:l.length<=20) :
  Calls Tryz.prog 101 #[.slice a l.length cap] w fun e w'=>∃ a' c' m,e=.returned (.slice a' (List.length m) c')/\Tab w'.heap.size w' a' m.length c' m/\m.map (·.1)=l.map (·.1)/\GrowS w.heap.size (w.heap.size <= ·) w' (.slice a' m.length c') m/\(∀ e∈m,jbH w' e)/\Bw w w':=by
 have HT:=Lib.hid hT;have HA:=Lib.hid hA;obtain⟨V0,bq,aM,ba⟩:=jiV w l.length (by omega);have aZ:=Lib.hid aM;clear hT hA aM;go_enter Tryz.func101,Tryz.ntmps101;go_wp2_with fail;go_loopw [3,11] (fun v i wr=>∃ (k:Nat) (j:List (Ser × SerP)),i=.int .i64 k/\k<=l.length/\GrowS w.heap.size (w.heap.size <= ·) wr v j/\Hid (j.length=k)/\Hid (j.map (·.1)=(l.map (·.1)).take k)/\Bw w wr/\Hid (∀ e∈j,jbH wr e)) (fun _ i _=>l.length-(intOf i).toNat)
 case atStart=>exact⟨0,[],rfl,Nat.zero_le _,aZ.out,rfl,rfl,ba,fun e h=>by cases h⟩
 case round =>
  obtain⟨k,j,rfl,hk,hG,HL,aE,hB,aA⟩:=hrel;have bv:=hB.size;have HG:=Lib.hid hG;obtain⟨ua,uc,hu⟩:=hG.form;subst hu;have aS:j.length<4294967:=by rw[HL.out];omega
  obtain⟨nn,au⟩:∃ nn,j.length=nn:=⟨_,rfl⟩;have HN:=Lib.hid au;rw[au] at HG aS ⊢;clear hG au;by_cases ar:k<l.length
  ·obtain⟨⟨x,p⟩,hx⟩:∃ x,l[k]? = some x:=⟨_,List.getElem?_eq_getElem ar⟩
   obtain⟨b,off,rfl,bg,L⟩:=HT.out.row.1.2 k (x,p) hx;replace L:∀ i,i<12->wr.cell? ⟨b,off+k*12+i,none⟩=(ja0 (x,p))[i]? := fun i hi=>(jdB (p:=⟨b,off+k*12+i,none⟩) (hB.block _ bg)).trans (L i hi)
   have c0:wr.cell? ⟨b,off+k*12,none⟩=some (.slice p.la p.ll p.lc):=L 0 (by omega);have c1:wr.cell? ⟨b,off+k*12+1,none⟩=some (.int .i64 x.sk.kind):=L 1 (by omega);have c2:wr.cell? ⟨b,off+k*12+2,none⟩=some (.int .i64 x.sk.level):=L 2 (by omega);have c3:wr.cell? ⟨b,off+k*12+3,none⟩=some (.slice p.ss.ea p.ss.el p.ss.ec):=L 3 (by omega);have c4:wr.cell? ⟨b,off+k*12+4,none⟩=some (.int .i64 x.sk.hb):=L 4 (by omega);have c5:wr.cell? ⟨b,off+k*12+5,none⟩=some (.string x.sk.hr):=L 5 (by omega);have c6:wr.cell? ⟨b,off+k*12+6,none⟩=some (.int .i64 x.sk.cr):=L 6 (by omega);have c7:wr.cell? ⟨b,off+k*12+7,none⟩=some (.int .i64 x.sk.cc):=L 7 (by omega);have c8:wr.cell? ⟨b,off+k*12+8,none⟩=some (.slice p.ss.ca p.ss.cl p.ss.cc):=L 8 (by omega);have c9:wr.cell? ⟨b,off+k*12+9,none⟩=some (.int .i64 x.sk.gf):=L 9 (by omega);have a7:wr.cell? ⟨b,off+k*12+10,none⟩=some (.slice p.ss.ga p.ss.gl p.ss.gc):=L 10 (by omega);have a8:wr.cell? ⟨b,off+k*12+11,none⟩=some (.int .u64 x.seen):=L 11 (by omega);have HX:Hid ((l.map (·.1))[k]? = some x):=by rw[Hid,List.getElem?_map,hx];rfl
   have ax:=Lib.hid (HA.out _ (List.mem_of_getElem? hx));have HP:Hid (p.At wr.heap.size wr x):=(HT.out.at_ _ (List.mem_of_getElem? hx)).go hB;obtain⟨W1,bf,aq,aL,bh⟩:=jab wr #[.slice p.la p.ll p.lc,.int .i64 x.sk.kind,.int .i64 x.sk.level,.slice p.ss.ea p.ss.el p.ss.ec,.int .i64 x.sk.hb,.string x.sk.hr,.int .i64 x.sk.cr,.int .i64 x.sk.cc,.slice p.ss.ca p.ss.cl p.ss.cc,.int .i64 x.sk.gf,.slice p.ss.ga p.ss.gl p.ss.gc,.int .u64 x.seen] 90;obtain⟨r0,r1,r2,r3,r4,r5,r6,r7,r8,r9,bi,bj⟩:=jkX aq;have n:Hid (p.At W1.heap.size W1 x):=HP.out.go aL;have bB:wr.heap.size<W1.heap.size:=by omega
   have N:Hid (p.Off (· ≠ wr.heap.size)):=HP.out.off.imp (fun b hb=>Nat.ne_of_lt hb);clear L hx;go_wp2_with fail;have al:Hid (p.ss.Short):=ax.out.2;refine (jfi p.la p.ll p.lc x.l W1 n.out.l.1 ax.out.1).mono ?_;rintro e w2 ⟨P,f,rfl,aN,F,O,aj⟩;have ac:=Lib.hid aj;clear aj;have r:=known O (Nat.le_refl _) aq;have bl:=O.size;have g2:w2.cell? ⟨wr.heap.size,0,none⟩=some (.slice p.la p.ll p.lc):=cCc r 0;have f2:w2.frozen? ⟨wr.heap.size,0,none⟩=false:=cFz r 0;obtain⟨R,bc,U,B,ae,br,bw⟩:=jbT (i:=0) r (.slice P p.ll f);have d3:R.cell? ⟨wr.heap.size,3,none⟩=some (.slice p.ss.ea p.ss.el p.ss.ec):=cCc U 3;have a5:Hid (SlC jaF 1 R.heap.size R p.ss.ea p.ss.el p.ss.ec x.sk.e):=((n.out.go O).s.e).apart (N.out.e) B;have a4:Hid (SlC jaF 1 R.heap.size R p.ss.ca p.ss.cl p.ss.cc x.sk.cl):=((n.out.go O).s.c).apart (N.out.c) B;have a6:Hid (SlC jb4 2 R.heap.size R p.ss.ga p.ss.gl p.ss.gc x.sk.gl):=((n.out.go O).s.g).apart (N.out.g) B;have a0:Hid (SlC Lab.enc 2 R.heap.size R P p.ll f x.l):=aN.apart (fun z A _=>by have:=F z A;omega) B;have aT:Hid (Bw wr R):=ae _ _ (Nat.le_refl _) (aL.trans (O.mono (by omega)));clear r0 r1 r2 r3 r4 r5 r6 r7 r8 r9 bi bj c0 c1 c2 c3 c4 c5 c6 c7 c8 c9 a7 a8 aq bf r aN;go_wp2_with fail;refine (jbM p.ss.ea p.ss.el p.ss.ec x.sk.e R a5.out.1 al.out.1).mono ?_;rintro e w3 ⟨o,q,rfl,aO,M,H⟩;have t:=known H (Nat.le_refl _) U;have bm:=H.size;have g3:w3.cell? ⟨wr.heap.size,3,none⟩=some (.slice p.ss.ea p.ss.el p.ss.ec):=cCc t 3;have f3:w3.frozen? ⟨wr.heap.size,3,none⟩=false:=cFz t 3
   obtain⟨S,bd,V,C,af,bs,bx⟩:=jbT (i:=3) t (.slice o p.ss.el q);have d8:S.cell? ⟨wr.heap.size,8,none⟩=some (.slice p.ss.ca p.ss.cl p.ss.cc):=cCc V 8;have aF:Hid (SlC jaF 1 S.heap.size S p.ss.ca p.ss.cl p.ss.cc x.sk.cl):=(a4.out.go H).apart (N.out.c) C;have aG:Hid (SlC jb4 2 S.heap.size S p.ss.ga p.ss.gl p.ss.gc x.sk.gl):=(a6.out.go H).apart (N.out.g) C;have a1:Hid (SlC Lab.enc 2 S.heap.size S P p.ll f x.l):=(a0.out.go H).apart (fun z A _=>by have:=F z A;omega) C;have aX:Hid (SlC jaF 1 S.heap.size S o p.ss.el q x.sk.e):=aO.apart (fun z A _=>by have:=M z A;omega) C;have aU:Hid (Bw wr S):=af _ _ (Nat.le_refl _) (aT.out.trans (H.mono (by omega)));clear bc U g2 f2 d3 t aO;go_wp2_with fail;refine (jbM p.ss.ca p.ss.cl p.ss.cc x.sk.cl S aF.out.1 al.out.2.1).mono ?_;rintro e w4 ⟨an,ao,rfl,aP,d,I⟩;have u:=known I (Nat.le_refl _) V;have bn:=I.size;have g4:w4.cell? ⟨wr.heap.size,8,none⟩=some (.slice p.ss.ca p.ss.cl p.ss.cc):=cCc u 8;have f4:w4.frozen? ⟨wr.heap.size,8,none⟩=false:=cFz u 8;obtain⟨V4,be,X,D,ag,bt,bz⟩:=jbT (i:=8) u (.slice an p.ss.cl ao);have a9:V4.cell? ⟨wr.heap.size,10,none⟩=some (.slice p.ss.ga p.ss.gl p.ss.gc):=cCc X 10;have aH:Hid (SlC jb4 2 V4.heap.size V4 p.ss.ga p.ss.gl p.ss.gc x.sk.gl):=(aG.out.go I).apart (N.out.g) D;have a2:Hid (SlC Lab.enc 2 V4.heap.size V4 P p.ll f x.l):=(a1.out.go I).apart (fun z A _=>by have:=F z A;omega) D;have aY:Hid (SlC jaF 1 V4.heap.size V4 o p.ss.el q x.sk.e):=(aX.out.go I).apart (fun z A _=>by have:=M z A;omega) D
   have aW:Hid (SlC jaF 1 V4.heap.size V4 an p.ss.cl ao x.sk.cl):=aP.apart (fun z A _=>by have:=d z A;omega) D;have aV:Hid (Bw wr V4):=ag _ _ (Nat.le_refl _) (aU.out.trans (I.mono (by omega)));clear bd V g3 f3 d8 u aP;go_wp2_with fail;refine (jeq p.ss.ga p.ss.gl p.ss.gc x.sk.gl V4 aH.out.1 al.out.2.2).mono ?_;rintro e w5 ⟨aJ,aK,rfl,aQ,ak,J⟩;have y:=known J (Nat.le_refl _) X;have bo:=J.size;have g5:w5.cell? ⟨wr.heap.size,10,none⟩=some (.slice p.ss.ga p.ss.gl p.ss.gc):=cCc y 10;have f5:w5.frozen? ⟨wr.heap.size,10,none⟩=false:=cFz y 10;obtain⟨V5,bk,ai,E,ah,bu,bA⟩:=jbT (i:=10) y (.slice aJ p.ss.gl aK);have aC:=(a2.out.go J).apart (fun z A _=>by have:=F z A;omega) E;have az:=(aY.out.go J).apart (fun z A _=>by have:=M z A;omega) E;have ay:=(aW.out.go J).apart (fun z A _=>by have:=d z A;omega) E;have aB:=aQ.apart (fun z A _=>by have:=ak z A;omega) E;have T:Bw wr V5:=ah _ _ (Nat.le_refl _) (aV.out.trans (J.mono (by omega)));have ad:Apart wr.heap.size w2 V5:=(((((B.trans (Apart.of_below H)).trans C).trans (Apart.of_below I)).trans D).trans (Apart.of_below J)).trans E;have aD:Hid (∀ z,P=some z->Loose V5 z.block):=fun z A=>(ac.out z A).of_heap (ad.2 _ (ac.out z A).lt (by have:=F z A;omega))
   clear ad;obtain⟨p',ab⟩:∃ p':SerP,p'=⟨P,p.ll,f,⟨o,p.ss.el,q,an,p.ss.cl,ao,aJ,p.ss.gl,aK⟩⟩:=⟨_,rfl⟩;have aw:p'.At V5.heap.size V5 x:=by subst ab;exact⟨aC,az,ay,aB⟩
   have am:p'.Off (fun b=>w.heap.size<=b/\some b≠Value.ownBlock (.slice ua nn uc)):=by
    have ar:=HG.out.own.lt;have aa:∀ z,wr.heap.size<=z->w.heap.size<=z/\some z≠Value.ownBlock (.slice ua nn uc):=fun z A=>⟨by have:=hB.size;omega,fun h=>by have:=(ar z h.symm).2;omega⟩
    subst ab;exact⟨fun z G _=>aa _ (by have:=F z G;omega),fun z G _=>aa _ (by have:=M z G;omega),fun z G _=>aa _ (by have:=d z G;omega),fun z G _=>aa _ (by have:=ak z G;omega)⟩
   obtain⟨g6,aI,w6,Y,ap,bb,bD,Z⟩:=(HG.out.go T).push (hB.trans (T.mono (by omega))) (Nat.le_refl _) (by have:=T.size;omega) (by rw[HN.out];exact aS) aw am;rw[HN.out] at Y ap;obtain⟨s0,s1,s2,s3,s4,s5,s6,s7,s8,s9,bE,bF⟩:=jkX ai
   have FI:Hid (∃ Q:List (Ser × SerP),GrowS w.heap.size (w.heap.size <= ·) w6 (.slice (some ⟨g6,0,none⟩) (nn+1) aI) Q/\Q.length=k+1/\Q.map (·.1)=(l.map (·.1)).take (k+1)/\Bw w w6/\(∀ e∈Q,jbH w6 e)):=by
    have bC:=T.size;refine⟨j++[(x,p')],ap,by rw[List.length_append,HL.out];rfl,?_,bb,fun e he z A av=>?_⟩
    ·rw[List.map_append,aE.out,jaf HX.out];rfl
    ·rcases List.mem_append.1 he with he | he
     ·have G:=aA.out e he z A av
      have h2:=G.lt;exact (G.of_heap (T.block _ h2)).of_heap (Z _ (by omega) ((HG.out.off e he).l z A av).2)
     ·rw[List.mem_singleton] at he
      subst he;have h3:=am.l z A av;subst ab;have G:=aD.out z A;exact G.of_heap (Z _ G.lt h3.2)
   unfold jbk at Y;clear bh;subst ab;dsimp only at Y;clear be X g4 f4 a9 y aQ aC az ay aB E D C B ap Z am aw ai ah ag af ae;go_wp2_with fail;go_roundw
   case rel =>
    obtain⟨Q,G,h2,h3,h4,h7⟩:=FI.out;exact⟨k+1,Q,by go_num,by omega,G,h2,h3,h4,h7⟩
   case measure=>simp[intOf];omega
  ·have H9:Hid (j.map (·.1)=l.map (·.1)):=by rw[Hid,aE.out,List.take_of_length_le (by rw[List.length_map];omega)]
   have aR:nn=j.length:=HN.out.symm;have a3:=Lib.hid aR;clear aR;go_wp2_with fail;go_ret;have hG:=HG.out;rw[a3.out] at hG ⊢;obtain⟨a',c',e,G,-,-⟩:=hG.tab;injection e with e1 e2 e3
   subst e1;subst e3;exact⟨_,_,j,rfl,G,H9.out,hG,fun a b h=>aA.out (a,b) h,hB⟩
end
section
open Go.Shelf
theorem jkS {B:Bd} {kind level:Nat} (h:B.Ok kind level):jaH (kind:Int)=(jdQ kind:Int)/\level<=jdQ kind:=by
 cases B with
 | num l=>obtain⟨rfl,rfl,-⟩:=h;exact⟨rfl,by decide⟩
 | reg b r=>obtain⟨rfl,-,h,-⟩:=h;exact⟨rfl,h⟩
 | cnt c l=>obtain⟨rfl,h,-⟩:=h;exact⟨rfl,h⟩
 | bkt f l=>obtain⟨rfl,h,-⟩:=h;exact⟨rfl,h⟩
theorem jaD {W:World} {v:Value} {B:Bd} (h:BdAt W v B):∃ T A,v=.iface T A:=by
 cases B with
 | num l=>obtain⟨a,len,cap,rfl,-⟩:=h;exact⟨_,_,rfl⟩
 | reg b r=>exact⟨_,_,h⟩
 | cnt c l=>obtain⟨a,len,cap,rfl,-⟩:=h;exact⟨_,_,rfl⟩
 | bkt f l=>obtain⟨a,len,cap,rfl,-⟩:=h;exact⟨_,_,rfl⟩
def OnlyAt (b:Nat) (W V:World):Prop:=V.heap.size=W.heap.size/\∀ k,k≠b->V.heap[k]? = W.heap[k]?
theorem OnlyAt.refl (b:Nat) (W:World):OnlyAt b W W:=⟨rfl,fun _ _=>rfl⟩
theorem OnlyAt.set {b:Nat} {W V:World} (h:OnlyAt b W V) (o:Nat) (v:Value):OnlyAt b W (V.setCell ⟨b,o,none⟩ v):=⟨(jbR V _ v).trans h.1,fun k A=>(jaa (p:=⟨b,o,none⟩) (fun e=>A e.symm) v).trans (h.2 k A)⟩
theorem ja5 {α:Type} {enc:α->List Value} {k i0:Nat} (B:i0<k) (D:∀ x,∃ u,(enc x)[i0]? = some (.int .u64 u)) {W V:World} {b:Nat} {E:Array Value} {t:TypeId} (H:W.heap[b]? = some (.cells E t (0,0))) (I:∀ (i:Nat) (u:Int),E[i]? ≠ some (Value.int .u64 u)) (G:OnlyAt b W V)
  {a:Option Addr} {len cap:Nat} {l:List α} (h:SlC enc k W.heap.size W a len cap l):SlC enc k V.heap.size V a len cap l:=by
 rw[G.1];refine⟨⟨h.1.1,fun j x L=>?_⟩,h.2⟩;obtain⟨g,off,e,J,A⟩:=h.1.2 j x L
 have C:g≠b:=fun e=>by
  subst e;obtain⟨u,D⟩:=D x;have F:=A i0 B;rw[D,cCc H] at F;exact I _ u F
 exact⟨g,off,e,J,fun i B=>(World.cell?_of_block (show V.heap[g]? = W.heap[g]? from G.2 g C)).trans (A i B)⟩
theorem BdAt.apart {W V:World} {v:Value} {B:Bd} (h:BdAt W v B) {b:Nat} {G:Array Value} {t:TypeId} (E:W.heap[b]? = some (.cells G t (0,0))) (F:∀ (i:Nat) (u:Int),G[i]? ≠ some (Value.int .u64 u)) (D:OnlyAt b W V):BdAt V v B:=by
 cases B with
 | num l=>obtain⟨a,len,cap,A,C⟩:=h;exact⟨a,len,cap,A,ja5 (i0:=0) (by decide) (fun x=>⟨x,rfl⟩) E F D C⟩
 | reg b r=>exact h
 | cnt c l=>obtain⟨a,len,cap,A,C⟩:=h;exact⟨a,len,cap,A,ja5 (i0:=0) (by decide) (fun x=>⟨x,rfl⟩) E F D C⟩
 | bkt f l=>obtain⟨a,len,cap,A,C⟩:=h;exact⟨a,len,cap,A,ja5 (i0:=1) (by decide) (fun x=>⟨x.2,rfl⟩) E F D C⟩
theorem jvs {i:Nat} {x y z:Value} (A:∀ u,x≠.int .u64 u) (B:∀ u,y≠.int .u64 u) (C:∀ u,z≠.int .u64 u) (u:Int):(#[x,y,z]:Array Value)[i]? ≠ some (.int .u64 u):=by
 intro h;rcases i with _ | _ | _ | i
 ·exact A u (by simpa using h)
 ·exact B u (by simpa using h)
 ·exact C u (by simpa using h)
 ·simp at h
theorem jdV {w:World} (n:Nat):Bw w (w.drewN n):=bDr (Below.refl _ _) n
theorem jfm (v:Value) (B:Bd) (kind level:Nat) (w:World) (hb:BdAt w v B) (J:B.Ok kind level) (a:level<jdQ kind) :
  Calls Tryz.prog 121 #[.agg #[v,.int .i64 kind,.int .i64 level]] w fun e w'=>∃ v',e=.returned (.tuple #[.agg #[v',.int .i64 kind,.int .i64 ((level:Int)+1)],.nilIface])/\BdAt w' v' B.low/\Bw w w':=by
 obtain⟨T,z,f,rfl,hm,n,b⟩:=juq hb J a;obtain⟨h,l,I,Q,H,o⟩:=jas w #[.iface T z,.int .i64 kind,.int .i64 level] 117 #[.nilIface,.int .i64 0,.int .i64 0] 117;have U:Hid (∀ w,Calls Tryz.prog 87 #[.int .i64 kind] w fun e w'=>e=.returned (.int .i64 (jdQ kind:Nat))/\w'=w):=fun w=>(jdy kind w).mono fun e w' ⟨j,k⟩=>⟨by rw[j,(jkS J).1],k.symm⟩
 obtain⟨c0,c1,c2⟩:=cl3 I;have Y:=Lib.hid I;have Z:=Lib.hid Q;have M:=Lib.hid H;have c:=Lib.hid (hb.go H);have d:=Lib.hid b;have t1:decide ((jdQ kind:Int)<=(level:Int))=false:=by simp;omega
 have m:jdQ kind<=4:=by unfold jdQ;split<;>omega
 clear I Q H hb b J;go_enter Tryz.func121,Tryz.ntmps121;go_wp2_with fail;go_quiet ((go_at_call 87;exact Calls.quiet_of_same (U.out _)));go_wp2_with fail;have C:=jdV (w:=h) nq;refine (d.out _ (c.out.go C)).mono ?_;rintro e S ⟨E,v',rfl,L⟩;obtain⟨G,A,rfl⟩:=jaD L;have O:=known (C.trans E) (Nat.le_refl _) Y.out;have D:=known (C.trans E) (Nat.le_refl _) Z.out;have F:Bw w S:=M.out.trans ((C.trans E).mono M.out.size);have r:wrap64 ((level:Int)+1)=(level:Int)+1:=by unfold wrap64;omega
 have s:IntKind.i64.wrap ((level:Int)+1)=((level:Int)+1):=IntWalk.i64_in _ (by omega);obtain⟨d0,d1,d2⟩:=cl3 O;obtain⟨r0,r1,r2⟩:=cl3 D;obtain⟨g0,g1,g2⟩:=cz3 D;have P:=jcs (u:=.iface G A) (v:=.int .i64 kind) (q:=.int .i64 ((level:Int)+1)) D;have N:=((F.setCell (p:=⟨w.heap.size+1,0,none⟩) (Nat.le_succ _) (.iface G A)).setCell (p:=⟨w.heap.size+1,1,none⟩) (Nat.le_succ _) (.int .i64 kind)).setCell (p:=⟨w.heap.size+1,2,none⟩) (Nat.le_succ _) (.int .i64 ((level:Int)+1));have g:Hid (BdAt S (.iface G A) B.low):=L;have X:=Lib.hid D;clear O D F L E C;go_wp2_with fail;have R:BdAt (((S.setCell ⟨w.heap.size+1,0,none⟩ (.iface G A)).setCell ⟨w.heap.size+1,1,none⟩ (.int .i64 kind)).setCell ⟨w.heap.size+1,2,none⟩ (.int .i64 ((level:Int)+1))) (.iface G A) B.low:=BdAt.apart (B:=B.low) g.out X.out (fun i u=>jvs (by simp) (by simp) (by simp) u) ((((OnlyAt.refl _ _).set _ _).set _ _).set _ _);generalize ((S.setCell ⟨w.heap.size+1,0,none⟩ (.iface G A)).setCell ⟨w.heap.size+1,1,none⟩ (.int .i64 kind)).setCell ⟨w.heap.size+1,2,none⟩ (.int .i64 ((level:Int)+1))=V at P N R ⊢;obtain⟨t,x,y⟩:=cl3 P;exact bodyPost_ret (v:=.tuple #[.agg #[.iface G A,.int .i64 kind,.int .i64 ((level:Int)+1)],.nilIface]) (by simp[results,Tryz.f121,go_sem,t,x,y]) rfl ⟨_,rfl,R,N⟩
def jcy (kind level:Nat):Bd->Sk
 | .num l=>jgY kind level l
 | .reg b r=>jpt kind level b (jat r)
 | .cnt c l=>jm3 kind level 2 c l
 | .bkt f l=>jm2 kind level f l
theorem jwP (x:Sk):jbc x x=true:=by simp[jbc]
theorem jaL (k L:Nat) (B:Bd):(jcy k L B).kind=k/\(jcy k L B).level=L:=by cases B<;>exact⟨rfl,rfl⟩
theorem jwF {B:Bd} {k L:Nat} (h:B.Ok k L):k=1\/k=2\/k=3:=by
 cases B with
 | num l=>exact .inl h.1
 | reg b r=>exact .inl h.1
 | cnt c l=>exact .inr (.inl h.1)
 | bkt f l=>exact .inr (.inr h.1)
theorem jtQ {c level:Nat} (h:c*2^level=32) (A:level<=3):((c:Int)==32 / 2^level)=true:=by
 rw[beq_iff_eq];rcases (by omega:level=0\/level=1\/level=2\/level=3) with rfl | rfl | rfl | rfl<;>simp at h ⊢<;>omega
theorem jps {B:Bd} {k L:Nat} (h:B.Ok k L):ja8 (jcy k L B)=jcy k L B:=by
 cases B with
 | num l =>
  obtain⟨rfl,rfl,-⟩:=h;rfl
 | reg b r =>
  obtain⟨rfl,C,-⟩:=h;have A:(((L:Nat):Int)==0)=false:=by simp;omega
  show (if ((1:Nat):Int)==1 then if (L:Int)==0 then _ else _ else _)=_;rw[A];rfl
 | cnt c l =>
  obtain⟨rfl,-⟩:=h;rfl
 | bkt f l =>
  obtain⟨rfl,-⟩:=h;rfl
theorem jsh {B:Bd} {k L:Nat} (h:B.Ok k L):jaQ (jcy k L B)=true:=by
 cases B with
 | num l =>
  obtain⟨rfl,rfl,A,C,-⟩:=h;exact jd7 l A C
 | reg b r =>
  obtain⟨rfl,H,D,A,C,E⟩:=h;have F:(((L:Nat):Int)==0)=false:=by simp;omega
  show (if ((1:Nat):Int)==1 then if (L:Int)==0 then _ else jbw (b:Int) (jat r)&&((b:Int)==8-(L:Int)) else _)=true;rw[F,jc3 b r (by omega) (by omega) C E];simp;omega
 | cnt c l =>
  obtain⟨rfl,D,A,C,-⟩:=h;show (jbJ 2 (c:Int) l&&((2:Int)==2)&&((c:Int)==32 / 2^((L:Int)).toNat))=true;rw[Int.toNat_natCast,jtQ A D];unfold jbJ;rw[jdK c (jdR A D)];simp;omega
 | bkt f l =>
  obtain⟨rfl,D,A,C,E,-,G⟩:=h;show (jaR (f:Int) l&&((f:Int)==3-(L:Int)))=true;rw[jcX f l (by omega) C E G];simp;omega
theorem jh0 {B:Bd} {k L:Nat} (h:B.Ok k L):jfv (jcy k L B)=true:=by
 unfold jfv;rw[jsh h,jps h,jwP,(jaL k L B).1,(jaL k L B).2,(jkS h).1];have A:=(jkS h).2;have C:=jwF h;simp;omega
theorem jki {B:Bd} {k L:Nat} (h:B.Ok k L):(jcy k L B).fit:=by
 cases B with
 | bkt f l =>
  obtain⟨rfl,C,D,E,F,-,A⟩:=h;exact fun b hb=>(jfC f l (by omega) A b hb).2
 | num l=>exact fun b hb=>by cases hb
 | reg b r=>exact fun b hb=>by cases hb
 | cnt c l=>exact fun b hb=>by cases hb
def SkB (W:World) (v:Value) (k L:Nat) (B:Bd):Prop:=∃ (y:Sk) (s:SS),y=jcy k L B/\v=.agg (skv y s)/\s.At W.heap.size W y
theorem SkB.go {W A:World} {v:Value} {k L:Nat} {B:Bd} (h:SkB W v k L B) (hb:Bw W A):SkB A v k L B:=by
 obtain⟨y,s,C,D,E⟩:=h;exact⟨y,s,C,D,E.go hb⟩
theorem jth {s:SS} {k L:Nat} {B:Bd} {n:Nat} {W:World} (h:B.Ok k L) (C:s.At n W (jcy k L B)):s.Short:=by
 have F:s.el=(jcy k L B).e.length:=C.e.1.1;have G:s.cl=(jcy k L B).cl.length:=C.c.1.1;have H:s.gl=(jcy k L B).gl.length:=C.g.1.1;unfold SS.Short;rw[F,G,H]
 cases B with
 | num l =>
  obtain⟨-,-,-,A,-⟩:=h;show l.length<_/\0<_/\0<_;omega
 | reg b r=>show 0<_/\0<_/\0<_;omega
 | cnt c l =>
  obtain⟨-,D,E,A,-⟩:=h;have:=jdR E D;show 0<_/\l.length<_/\0<_;omega
 | bkt f l =>
  obtain⟨-,D,E,A,-,-,I⟩:=h;have:=jdn f l (by omega) A I;show 0<_/\0<_/\l.length<_;omega
theorem jsg {s:SS} {k L:Nat} {B:Bd} {W:World} (h:B.Ok k L) (A:s.At W.heap.size W (jcy k L B)):BdAt W (jb2 (jcy k L B) s) B:=by
 cases B with
 | num l =>
  obtain⟨rfl,rfl,-⟩:=h;exact⟨s.ea,s.el,s.ec,rfl,A.e⟩
 | reg b r =>
  obtain⟨rfl,D,-⟩:=h;have C:(((L:Nat):Int)==0)=false:=by simp;omega
  show (if ((1:Nat):Int)==1 then if (L:Int)==0 then _ else _ else _)=_;rw[C];rfl
 | cnt c l =>
  obtain⟨rfl,-⟩:=h;exact⟨s.ca,s.cl,s.cc,rfl,A.c⟩
 | bkt f l =>
  obtain⟨rfl,-⟩:=h;exact⟨s.ga,s.gl,s.gc,rfl,A.g⟩
theorem jc8 {k L:Nat} {B:Bd} {v:Value} {w:World} (h:B.Ok k L) (E:SkB w v k L B) :
  Calls Tryz.prog 47 #[v] w fun e w'=>∃ b,e=.returned (.tuple #[.agg #[b,.int .i64 k,.int .i64 L],.nilIface])/\BdAt w' b B/\Bw w w':=by
 obtain⟨y,s,rfl,rfl,A⟩:=E;refine (jd2 (jcy k L B) s w A (jth h A) (jki h)).mono ?_;rintro e w' ⟨C,D⟩;rw[jh0 h,(jaL k L B).1,(jaL k L B).2] at C;exact⟨_,C,jsg h (A.go D),D⟩
theorem jsj {k L:Nat} {B:Bd} {v:Value} {w:World} (h:B.Ok k L) (D:BdAt w v B) :
  Calls Tryz.prog 89 #[.agg #[v,.int .i64 k,.int .i64 L]] w fun e w'=>∃ x,e=.returned x/\SkB w' x k L B/\Bw w w':=by
 cases B with
 | num l =>
  obtain⟨a,len,cap,rfl,A⟩:=D;refine (jgr k L l a len cap w A.1 (by have:=h.2.2.2.1;have:=A.1.1;omega)).mono ?_;rintro e w' ⟨s,rfl,C,-,-,-,hb⟩;exact⟨_,rfl,⟨_,s,rfl,rfl,C⟩,hb⟩
 | reg b r =>
  obtain rfl:v=_:=D;refine (jgs k L b (jat r) w).mono ?_;rintro e w' ⟨s,rfl,C,-,-,-,hb⟩;exact⟨_,rfl,⟨_,s,rfl,rfl,C⟩,hb⟩
 | cnt c l =>
  obtain⟨a,len,cap,rfl,A⟩:=D;refine (jgq k L 2 c l a len cap w A.1 (by have:=jdR h.2.2.1 h.2.1;have:=h.2.2.2.1;have:=A.1.1;omega)).mono ?_;rintro e w' ⟨s,rfl,C,-,-,-,hb⟩;exact⟨_,rfl,⟨_,s,rfl,rfl,C⟩,hb⟩
 | bkt f l =>
  obtain⟨a,len,cap,rfl,A⟩:=D;refine (jgp k L f l a len cap w A.1 (by have:=jdn f l (by have:=h.2.2.1;omega) h.2.2.2.1 h.2.2.2.2.2.2;have:=A.1.1;omega)).mono ?_;rintro e w' ⟨s,rfl,C,-,-,-,hb⟩;exact⟨_,rfl,⟨_,s,rfl,rfl,C⟩,hb⟩
theorem jx0 {x y:Sk} (h:jbc x y=true):x=y:=by
 simp only[jbc,Bool.and_eq_true,beq_iff_eq] at h;obtain⟨⟨⟨⟨⟨D,E⟩,F,B⟩,G⟩,⟨H,I⟩,J⟩,L,A⟩:=h
 have C:x.hr=y.hr:=by
  rw[Lib.toList_data,Lib.toList_data] at B
  cases M:x.hr with | mk a=>cases N:y.hr with | mk b =>
  rw[M,N] at B;rw[show a=b from Array.toList_inj.1 B]
 cases x;cases y
 simp only at *;subst D E F C G H I J L A;rfl
def jcu (s:ByteArray):List Nat:=s.data.toList.map (·.toNat)
theorem jnd (s:ByteArray):jat (jcu s)=s:=by
 unfold jat jcu
 have h:(strOfNums ((s.data.toList.map (·.toNat)).map fun (n:Nat)=>(n:Int))).data.toList=s.data.toList:=by
  rw[strOfNums_data,List.map_map,List.map_map]
  conv=>rhs;rw[<- List.map_id s.data.toList]
  refine List.map_congr_left (fun x _=>?_);simp
 generalize strOfNums ((s.data.toList.map (·.toNat)).map fun (n:Nat)=>(n:Int))=z at h
 cases z with | mk a=>cases s with | mk b =>
 have A:a.toList=b.toList:=h;rw[Array.toList_inj.1 A]
theorem jnc (s:ByteArray):(jcu s).length=s.size:=by unfold jcu;rw[List.length_map];exact Array.length_toList
theorem jpz (b:Nat) (s:ByteArray) (h:jfW b s=true):∀ i,(jcu s).getD i 0<=65-b:=fun i=>by
 rw[List.getD_eq_getElem?_getD]
 cases D:(jcu s)[i]? with
 | none=>exact Nat.zero_le _
 | some r =>
  have A:=List.mem_of_getElem? D;unfold jcu at A;obtain⟨c,C,rfl⟩:=List.mem_map.1 A;unfold jfW at h;have B:=List.all_eq_true.1 h c C;have E:¬ (65-(b:Int)<(c.toNat:Int)):=by simpa using B
  show c.toNat<=65-b;omega
theorem jlf (f:Int):∀ (l:List (Int × Int)) (A:Int),(jck (jcw f) A l).isSome=true->jbA l/\(∀ b∈l,A<b.1)/\(∀ b∈l,b.2≠0)/\∀ b∈l,jaz f b.1=true
 | [],_,_=>⟨List.Pairwise.nil,(fun _ h=>by cases h),(fun _ h=>by cases h),fun _ h=>by cases h⟩
 | b::t,A,h=>by
  rw[jdD] at h
  cases C:jcw f A b with
  | none=>rw[C] at h;cases h
  | some z =>
   rw[C] at h
   have D:z=b.1/\b.2≠0/\jaz f b.1=true/\A<b.1:=by
    unfold jcw at C;split at C
    ·cases C
    ·rename_i B
     simp only[Bool.or_eq_true,beq_iff_eq,Bool.not_eq_true',decide_eq_true_eq,not_or,Bool.not_eq_false] at B;exact⟨(Option.some.inj C).symm,B.1.1,B.1.2,by omega⟩
   obtain⟨rfl,F,G,H⟩:=D;obtain⟨I,E,J,L⟩:=jlf f t b.1 h;refine⟨List.pairwise_cons.2 ⟨E,I⟩,fun c B=>?_,fun c B=>?_,fun c B=>?_⟩
   ·rcases List.mem_cons.1 B with rfl | B
    ·exact H
    ·have:=E c B;omega
   ·rcases List.mem_cons.1 B with rfl | B
    ·exact F
    ·exact J c B
   ·rcases List.mem_cons.1 B with rfl | B
    ·exact G
    ·exact L c B
theorem jxZ (x:Sk) (h:jfv x=true) (j:jdh x.e) (g:jdh x.cl) (m:jbl x.gl):∃ (k L:Nat) (B:Bd),x=jcy k L B/\B.Ok k L:=by
 simp only[jfv,Bool.and_eq_true,decide_eq_true_eq] at h;obtain⟨⟨⟨o,p⟩,q,V⟩,hb,T⟩:=h;have O:=jx0 T;obtain⟨L,D⟩:∃ L:Nat,x.level=L:=⟨x.level.toNat,by omega⟩;rcases (by omega:x.kind=1\/x.kind=2\/x.kind=3) with A | A | A
 ·have E:jaH x.kind=4:=by rw[A];rfl
  rw[E,D] at V;by_cases d:L=0
  ·subst d
   have F:ja8 x=jgY 1 0 x.e:=by unfold ja8;rw[A,D];rfl
   have G:jaJ x.e=true:=by unfold jaQ at hb;rw[A,D] at hb;exact hb
   obtain⟨X,Z⟩:=jeQ x.e G;exact⟨1,0,.num x.e,by rw[F] at O;exact O,rfl,rfl,X,Z,j⟩
  ·have N:((L:Int)==0)=false:=by simp;omega
   have F:ja8 x=jpt 1 L x.hb x.hr:=by
    unfold ja8;rw[A,D];show (if ((1:Int)==1) then if ((L:Int)==0) then _ else _ else _)=_;rw[N];rfl
   have G:(jbw x.hb x.hr&&(x.hb==8-(L:Int)))=true:=by
    unfold jaQ at hb;rw[A,D] at hb;have I:(if ((L:Int)==0) then jaJ x.e else jbw x.hb x.hr&&(x.hb==8-(L:Int)))=true:=hb;rw[N] at I;exact I
   rw[Bool.and_eq_true,beq_iff_eq] at G;obtain⟨C,H⟩:=G;unfold jbw at C;rw[Bool.and_eq_true,Bool.and_eq_true,beq_iff_eq] at C;obtain⟨⟨Q,P⟩,Y⟩:=C;obtain⟨b,R⟩:∃ b:Nat,x.hb=b:=⟨x.hb.toNat,by omega⟩;rw[R] at H P Y F
   have U:x.hr.size=2^b:=by
    rw[Int.toNat_natCast] at P;have:((2:Int)^b)=((2^b:Nat):Int):=by simp
    omega
   refine⟨1,L,.reg b (jcu x.hr),?_,rfl,by omega,by omega,by omega,by rw[jnc];exact U,jpz b x.hr Y⟩;show x=jpt 1 L b (jat (jcu x.hr));rw[jnd];exact O.trans F
 ·have E:jaH x.kind=3:=by rw[A];rfl
  rw[E,D] at V;have F:ja8 x=jm3 2 L x.cr x.cc x.cl:=by unfold ja8;rw[A,D];rfl
  have G:(jbJ x.cr x.cc x.cl&&(x.cr==2)&&(x.cc==32 / 2^L))=true:=by
   unfold jaQ at hb;rw[A,D,Int.toNat_natCast] at hb;exact hb
  rw[Bool.and_eq_true,Bool.and_eq_true,beq_iff_eq,beq_iff_eq] at G;obtain⟨⟨C,H⟩,Q⟩:=G;unfold jbJ at C;rw[Bool.and_eq_true,beq_iff_eq] at C;have P:=C.2;obtain⟨c,M⟩:∃ c:Nat,x.cc=c:=⟨32 / 2^L,by rw[Q];simp⟩
  have J:c*2^L=32:=by
   have i:(c:Int)=((32 / 2^L:Nat):Int):=by rw[<- M,Q];simp
   have S:c=32 / 2^L:=by omega
   rw[S];rcases (by omega:L=0\/L=1\/L=2\/L=3) with rfl | rfl | rfl | rfl<;>rfl
  rw[H,M] at P F;refine⟨2,L,.cnt c x.cl,?_,rfl,by omega,J,by omega,g⟩;exact O.trans F
 ·have E:jaH x.kind=3:=by rw[A];rfl
  rw[E,D] at V;have F:ja8 x=jm2 3 L x.gf x.gl:=by unfold ja8;rw[A,D];rfl
  have G:(jaR x.gf x.gl&&(x.gf==3-(L:Int)))=true:=by
   unfold jaQ at hb;rw[A,D] at hb;exact hb
  rw[Bool.and_eq_true,beq_iff_eq] at G;obtain⟨C,H⟩:=G;unfold jaR at C;rw[Bool.and_eq_true] at C;obtain⟨X,Z,n,a⟩:=jlf x.gf x.gl (-1) C.2;obtain⟨f,l⟩:∃ f:Nat,x.gf=f:=⟨x.gf.toNat,by omega⟩;rw[l] at a H F;refine⟨3,L,.bkt f x.gl,O.trans F,rfl,by omega,by omega,X,n,m,a⟩
def jxP (x:Sk):Bd:=if x.kind==1 then (if x.level==0 then .num x.e else .reg x.hb.toNat (jcu x.hr)) else if x.kind==2 then .cnt x.cc.toNat x.cl else .bkt x.gf.toNat x.gl
theorem juH (r:List Nat) (h:∀ i,r.getD i 0<=255):jcu (jat r)=r:=by
 unfold jcu jat;rw[strOfNums_data,List.map_map,List.map_map]
 conv=>rhs;rw[<- List.map_id r]
 refine List.map_congr_left (fun x C=>?_);obtain⟨i,B⟩:=List.mem_iff_getElem?.1 C;have A:=h i;rw[List.getD_eq_getElem?_getD,B,Option.getD_some] at A;show (UInt8.ofNat ((x:Int)).toNat).toNat=x;rw[Int.toNat_natCast];simp;omega
theorem jqd {k L:Nat} {B:Bd} (h:B.Ok k L):jxP (jcy k L B)=B:=by
 cases B with
 | num l=>obtain⟨rfl,rfl,-⟩:=h;rfl
 | reg b r =>
  obtain⟨rfl,D,-,E,-,C⟩:=h;have A:(((L:Nat):Int)==0)=false:=by simp;omega
  show (if (((1:Nat):Int)==1) then (if ((L:Int)==0) then _ else Bd.reg ((b:Int)).toNat (jcu (jat r))) else _)=_;rw[A,Int.toNat_natCast,juH r (fun i=>by have:=C i;omega)];rfl
 | cnt c l=>obtain⟨rfl,-⟩:=h;rfl
 | bkt f l=>obtain⟨rfl,-⟩:=h;rfl
def jpr (x:Sk):Sk:=jcy x.kind.toNat (x.level.toNat+1) (jxP x).low
def SkGood (x:Sk):Prop:=∃ k L B,x=jcy k L B/\Bd.Ok k L B
theorem jkh {k L:Nat} {B:Bd} (h:B.Ok k L):jpr (jcy k L B)=jcy k (L+1) B.low:=by
 unfold jpr;rw[jqd h,(jaL k L B).1,(jaL k L B).2,Int.toNat_natCast,Int.toNat_natCast]
theorem SkGood.of {x:Sk} (h:jfv x=true) (B:jdh x.e) (A:jdh x.cl) (C:jbl x.gl):SkGood x:=jxZ x h B A C
theorem SkGood.ok {x:Sk} (h:SkGood x):jfv x=true:=by obtain⟨k,L,B,rfl,h⟩:=h;exact jh0 h
def jcO (x:Ser):Bool:=decide (x.sk.level<jaH x.sk.kind)
def jgF (x:Ser):Ser:=⟨x.l,jpr x.sk,x.seen⟩
theorem jlw {k L:Nat} {B:Bd} (h:B.Ok k L) (l:List Lab) (n:Int):jcO ⟨l,jcy k L B,n⟩=decide (L<jdQ k):=by
 unfold jcO;rw[(jaL k L B).1,(jaL k L B).2,(jkS h).1];by_cases A:L<jdQ k
 ·rw[decide_eq_true A];simp;omega
 ·rw[decide_eq_false A];simp;omega
structure Ser.good (x:Ser):Prop where
 fine:x.fine
 sk:SkGood x.sk
theorem jnB {k L:Nat} {B:Bd} (h:B.Ok k L) (E:∀ f l,B=.bkt f l->l.length<=300):(jcy k L B).e.length<=70/\(jcy k L B).cl.length<=200/\(jcy k L B).gl.length<=300/\(jcy k L B).hr.size<=260:=by
 cases B with
 | num l=>obtain⟨-,-,-,C,-⟩:=h;exact⟨by show l.length<=70;omega,Nat.zero_le _,Nat.zero_le _,Nat.zero_le _⟩
 | reg b r =>
  obtain⟨-,F,-,A,C,-⟩:=h;have:2^b<=2^8:=Nat.pow_le_pow_right (by omega) (by omega);exact⟨Nat.zero_le _,Nat.zero_le _,Nat.zero_le _,by show (jat r).size<=260;rw[jbC];omega⟩
 | cnt c l =>
  obtain⟨-,D,A,C,-⟩:=h;have:=jdR A D;exact⟨Nat.zero_le _,by show l.length<=200;omega,Nat.zero_le _,Nat.zero_le _⟩
 | bkt f l=>exact⟨Nat.zero_le _,Nat.zero_le _,E f l rfl,Nat.zero_le _⟩
theorem jmk {B:Bd} (A:∀ f l,B=.bkt f l->l.length<=300):∀ f l,B.low=.bkt f l->l.length<=300:=by
 intro f l h
 cases B with
 | bkt f' l' =>
  simp only[Bd.low,Bd.bkt.injEq] at h;obtain⟨-,rfl⟩:=h;exact Nat.le_trans (jqU l') (A f' l' rfl)
 | num l'=>cases h
 | reg b r=>cases h
 | cnt c l'=>cases h
theorem jqN {x:Ser} (h:x.fine) {k L:Nat} {B:Bd} (e:x.sk=jcy k L B):∀ f l,B=.bkt f l->l.length<=300:=by
 rintro f l rfl;have:=h.g;rw[e] at this;exact this
theorem Ser.good.with {x:Ser} (h:x.good) {k L:Nat} {B:Bd} (A:B.Ok k L) (G:∀ f l,B=.bkt f l->l.length<=300):Ser.good ⟨x.l,jcy k L B,x.seen⟩:=by
 obtain⟨C,D,E,F⟩:=jnB A G;exact⟨⟨h.fine.lab,h.fine.ll,C,D,E,jki A,F,h.fine.seen⟩,⟨k,L,B,rfl,A⟩⟩
theorem Ser.good.low {x:Ser} (h:x.good) (D:jcO x=true):(jgF x).good:=by
 obtain⟨k,L,B,e,A⟩:=h.sk;have E:x=⟨x.l,jcy k L B,x.seen⟩:=by rw[<- e]
 have C:L<jdQ k:=by rw[E,jlw A] at D;simpa using D
 unfold jgF;rw[e,jkh A];exact h.with (jb5 A C) (jmk (jqN h.fine e))
theorem jnN {x:Ser} (h:x.good):(jgF x).sk.kind=x.sk.kind/\(jgF x).sk.level=x.sk.level+1:=by
 obtain⟨k,L,B,e,A⟩:=h.sk;unfold jgF;dsimp only;rw[e,jkh A,(jaL _ _ _).1,(jaL _ _ _).2,(jaL _ _ _).1,(jaL _ _ _).2];exact⟨rfl,by omega⟩
def jgv (i:Nat) (x:Ser) (s:Nat × Int × Bool):Nat × Int × Bool:=if jcO x&&(!s.2.2||decide (s.2.1<jaO x)) then (i,jaO x,true) else s
def jfs (l:List Ser):Nat->Nat × Int × Bool
 | 0=>(0,0,false)
 | k+1=>match l[k]? with
  | some x=>jgv k x (jfs l k)
  | none=>jfs l k
def vic (l:List Ser):Nat × Int × Bool:=jfs l l.length
theorem jjj {l:List Ser} {k:Nat} {x:Ser} (h:l[k]? = some x):jfs l (k+1)=jgv k x (jfs l k):=by
 show (match l[k]? with | some x=>jgv k x (jfs l k) | none=>jfs l k)=_;rw[h]
structure jw2 (l:List Ser) (k:Nat) (s:Nat × Int × Bool):Prop where
 none:s.2.2=false->s.1=0/\s.2.1=0/\∀ i x,i<k->l[i]? = some x->jcO x=false
 some:s.2.2=true->s.1<k/\(∃ x,l[s.1]? = some x/\jcO x=true/\jaO x=s.2.1)/\∀ i x,i<k->l[i]? = some x->jcO x=true->jaO x<=s.2.1/\(jaO x=s.2.1->s.1<=i)
theorem jof (l:List Ser):∀ k,k<=l.length->jw2 l k (jfs l k)
 | 0,_=>⟨fun _=>⟨rfl,rfl,fun i x h=>by omega⟩,fun h=>by cases h⟩
 | k+1,hk=>by
  have I:=jof l k (by omega);obtain⟨x,E⟩:∃ x,l[k]? = some x:=⟨_,List.getElem?_eq_getElem (by omega)⟩;rw[jjj E];generalize jfs l k=s at I;obtain⟨G,g,f⟩:=s;unfold jgv
  cases L:jcO x with
  | false =>
   rw[Bool.false_and,if_neg (by simp)];refine⟨fun h=>?_,fun h=>?_⟩
   ·obtain⟨H,F,D⟩:=I.none h
    refine⟨H,F,fun i y J C=>?_⟩;by_cases B:i=k
    ·subst B;rw[E] at C;cases C;exact L
    ·exact D i y (by omega) C
   ·obtain⟨H,F,D⟩:=I.some h
    refine⟨by omega,F,fun i y J C A=>?_⟩;by_cases B:i=k
    ·subst B;rw[E] at C;cases C;rw[L] at A;cases A
    ·exact D i y (by omega) C A
  | true =>
   rw[Bool.true_and];dsimp only
   cases f with
   | false =>
    rw[if_pos (by rfl)];obtain⟨H,F,D⟩:=I.none rfl;refine⟨fun h=>(by cases h),fun _=>⟨Nat.lt_succ_self k,⟨x,E,L,rfl⟩,fun i y J C A=>?_⟩⟩;by_cases B:i=k
    ·subst B;rw[E] at C;cases C;exact⟨Int.le_refl _,fun _=>Nat.le_refl _⟩
    ·rw[D i y (by omega) C] at A;cases A
   | true =>
    obtain⟨H,F,D⟩:=I.some rfl;dsimp only at H F D;by_cases M:g<jaO x
    ·rw[if_pos (by simp[M])]
     refine⟨fun h=>(by cases h),fun _=>⟨Nat.lt_succ_self k,⟨x,E,L,rfl⟩,fun i y J C A=>?_⟩⟩;by_cases B:i=k
     ·subst B;rw[E] at C;cases C;exact⟨Int.le_refl _,fun _=>Nat.le_refl _⟩
     ·have:=(D i y (by omega) C A).1
      show jaO y<=jaO x/\(jaO y=jaO x->k<=i);exact⟨by omega,fun e=>by omega⟩
    ·rw[if_neg (by simp[M])]
     refine⟨fun h=>(by cases h),fun _=>⟨by show G<k+1;omega,F,fun i y J C A=>?_⟩⟩;by_cases B:i=k
     ·subst B;rw[E] at C;cases C;exact⟨by show jaO x<=g;omega,fun _=>by show G<=i;omega⟩
     ·exact D i y (by omega) C A
theorem jvI (l:List Ser):jw2 l l.length (vic l):=jof l _ (Nat.le_refl _)
def jdN (l:List Ser):Option Nat:=if (vic l).2.2 then some (vic l).1 else none
theorem jnn {l:List Ser} (h:jdN l=none):(vic l).2.2=false/\∀ x∈l,jcO x=false:=by
 unfold jdN at h;split at h
 ·cases h
 ·rename_i C
  have A:(vic l).2.2=false:=by simpa using C
  refine⟨A,fun x D=>?_⟩;obtain⟨i,B⟩:=List.mem_iff_getElem?.1 D;exact ((jvI l).none A).2.2 i x (List.getElem?_eq_some_iff.1 B).1 B
theorem jd8 {l:List Ser} {v:Nat} (h:jdN l=some v):(vic l).2.2=true/\(vic l).1=v/\v<l.length/\∃ x,l[v]? = some x/\jcO x=true:=by
 unfold jdN at h;split at h
 ·rename_i A
  injection h with h
  subst h;obtain⟨B,⟨x,C,D,-⟩,-⟩:=(jvI l).some A;exact⟨A,rfl,B,x,C,D⟩
 ·cases h
def jdZ (l:List Ser) (i:Nat):List Ser:=match l[i]? with
 | some x=>l.set i (jgF x)
 | none=>l
theorem jg3 {l:List Ser} {i:Nat} {x:Ser} (h:l[i]? = some x):jdZ l i=l.set i (jgF x):=by unfold jdZ;rw[h]
structure QT (l:List Ser):Prop where
 right:jaj l=true
 good:∀ x∈l,x.good
theorem jwN {l:List Ser} {i:Nat} {y z:Ser} (h:z∈l.set i y):z∈l\/z=y:=by
 rcases List.mem_or_eq_of_mem_set h with h | h
 ·exact .inl h
 ·exact .inr h
theorem jm8 {l m:List Ser} (h:l.map (·.l)=m.map (·.l)) (B:Sorted l):Sorted m:=by
 unfold Sorted at *;have A:(l.map (·.l)).Pairwise (fun a b=>jak a b=true):=List.pairwise_map.2 B;rw[h] at A;exact List.pairwise_map.1 A
theorem jpm {l m:List Ser} (h:l.map (·.l)=m.map (·.l)) (hr:jaj l=true) (H:∀ x∈m,jfv x.sk=true):jaj m=true:=by
 obtain⟨J,E,F⟩:=(jaS l).1 hr;have C:m.length=l.length:=by have:=congrArg List.length h;simpa using this.symm
 refine (jaS m).2 ⟨by omega,fun x D=>?_,jm8 h F⟩;obtain⟨i,G⟩:=List.mem_iff_getElem?.1 D;have A:(m.map (·.l))[i]? = some x.l:=by rw[List.getElem?_map,G];rfl
 rw[<- h,List.getElem?_map,Option.map_eq_some_iff] at A;obtain⟨y,I,e⟩:=A;have B:=E y (List.mem_of_getElem? I);simp only[jaI,Bool.and_eq_true] at B ⊢;exact⟨by rw[<- e];exact B.1,H x D⟩
theorem jgj (l:List Ser) (i:Nat):(jdZ l i).map (·.l)=l.map (·.l):=by
 unfold jdZ
 cases h:l[i]? with
 | none=>rfl
 | some x =>
  show (l.set i (jgF x)).map (·.l)=_;rw[List.map_set];apply List.ext_getElem?;intro j;rw[List.getElem?_set];by_cases A:i=j
  ·subst A
   have B:=(List.getElem?_eq_some_iff.1 h).1;rw[if_pos rfl,if_pos (by simpa using B),List.getElem?_map,h];rfl
  ·rw[if_neg A]
theorem jrb (l:List Ser) (i:Nat):(jdZ l i).length=l.length:=by
 have:=congrArg List.length (jgj l i);simpa using this
theorem QT.low {l:List Ser} (h:QT l) {i:Nat} {x:Ser} (C:l[i]? = some x) (E:jcO x=true):QT (jdZ l i):=by
 have B:∀ y∈jdZ l i,y.good:=fun y A=>by
  rw[jg3 C] at A;rcases jwN A with D | rfl
  ·exact h.good y D
  ·exact (h.good x (List.mem_of_getElem? C)).low E
 exact⟨jpm (jgj l i).symm h.right (fun y A=>(B y A).sk.ok),B⟩
theorem QT.len {l:List Ser} (h:QT l):l.length<=20:=((jaS l).1 h.right).1
def jiv (x:Ser):Nat:=(jaH x.sk.kind-x.sk.level).toNat
def mu:List Ser->Nat
 | []=>0
 | x::r=>jiv x+mu r
theorem jvq:∀ (l:List Ser) (i:Nat) (x y:Ser),l[i]? = some x->jiv y+1=jiv x->mu (l.set i y)+1=mu l
 | [],i,x,y,h,_=>by simp at h
 | z::r,0,x,y,h,hs=>by
  simp only[List.getElem?_cons_zero,Option.some.injEq] at h;subst h;show jiv y+mu r+1=jiv z+mu r;omega
 | z::r,i+1,x,y,h,hs=>by
  have:=jvq r i x y (by simpa using h) hs;show jiv z+mu (r.set i y)+1=jiv z+mu r;omega
theorem jnQ {l:List Ser} (h:QT l) {i:Nat} {x:Ser} (A:l[i]? = some x) (B:jcO x=true):mu (jdZ l i)+1=mu l:=by
 rw[jg3 A];refine jvq l i x _ A ?_;obtain⟨C,D⟩:=jnN (h.good x (List.mem_of_getElem? A));unfold jiv;rw[C,D];unfold jcO at B;rw[decide_eq_true_eq] at B;omega
def jxV (b:Int):Nat->List Ser->Option (List Ser × List Nat)
 | 0,_=>none
 | n+1,l=>if jbh l<=b then some (l,[]) else match jdN l with
  | none=>none
  | some v=>(jxV b n (jdZ l v)).map fun r=>(r.1,v::r.2)
def fit (b:Int) (l:List Ser):Option (List Ser × List Nat):=jxV b (mu l+1) l
theorem jeR {b:Int} {l:List Ser} (h:jbh l<=b):fit b l=some (l,[]):=by
 show (if jbh l<=b then _ else _)=_;rw[if_pos h]
theorem jhv {b:Int} {l:List Ser} (h:b<jbh l) (A:jdN l=none):fit b l=none:=by
 show (if jbh l<=b then _ else _)=_;rw[if_neg (by omega),A]
theorem jnz {b:Int} {l:List Ser} (B:QT l) (h:b<jbh l) {v:Nat} (A:jdN l=some v):fit b l=(fit b (jdZ l v)).map fun r=>(r.1,v::r.2):=by
 show (if jbh l<=b then _ else _)=_;rw[if_neg (by omega),A];obtain⟨-,-,-,x,D,C⟩:=jd8 A;have:=jnQ B D C;show (jxV b (mu l) (jdZ l v)).map _=_;rw[<- this];rfl
theorem jwm (b:Int) (P:List Ser->Option (List Ser × List Nat)->Prop) (done:∀ l,QT l->jbh l<=b->P l (some (l,[]))) (B:∀ l,QT l->b<jbh l->jdN l=none->P l none)
  (step:∀ l v x,QT l->b<jbh l->jdN l=some v->l[v]? = some x->jcO x=true->P (jdZ l v) (fit b (jdZ l v))->P l ((fit b (jdZ l v)).map fun r=>(r.1,v::r.2))):∀ l,QT l->P l (fit b l):=by
 have key:∀ n l,mu l=n->QT l->P l (fit b l):=by
  intro n
  induction n with
  | zero =>
   intro l F A;by_cases h:jbh l<=b
   ·rw[jeR h];exact done l A h
   ·cases C:jdN l with
    | none=>rw[jhv (by omega) C];exact B l A (by omega) C
    | some v =>
     obtain⟨-,-,-,x,E,D⟩:=jd8 C;have:=jnQ A E D;omega
  | succ n ih =>
   intro l F A;by_cases h:jbh l<=b
   ·rw[jeR h];exact done l A h
   ·cases C:jdN l with
    | none=>rw[jhv (by omega) C];exact B l A (by omega) C
    | some v =>
     obtain⟨-,-,-,x,E,D⟩:=jd8 C;have G:=jnQ A E D;rw[jnz A (by omega) C];exact step l v x A (by omega) C E D (ih _ (by omega) (A.low E D))
 exact fun l A=>key _ l rfl A
structure ju7 (b:Int) (l a:List Ser) (ps:List Nat):Prop where
 qt:QT a
 cost:jbh a<=b
 labs:a.map (·.l)=l.map (·.l)
 levels:∀ (i:Nat) (x y:Ser),l[i]? = some x->a[i]? = some y->x.sk.level<=y.sk.level/\y.seen=x.seen
 none:ps=[]↔jbh l<=b
 same:ps=[]->a=l
theorem jt1 (b:Int):∀ l,QT l->∀ a A,fit b l=some (a,A)->ju7 b l a A:=by
 refine jwm b (fun l r=>∀ a A,r=some (a,A)->ju7 b l a A) (fun l H h a A e=>?_) (fun l _ _ _ a A e=>by cases e) (fun l v x H h U E T Q a A e=>?_)
 ·cases e
  exact⟨H,h,rfl,fun i x y G D=>by rw[G] at D;cases D;exact⟨Int.le_refl _,rfl⟩,by simp[h],fun _=>rfl⟩
 ·rw[Option.map_eq_some_iff] at e
  obtain⟨⟨J,I⟩,G,D⟩:=e
  cases D
  obtain⟨L,M,N,O,S,-⟩:=Q J I G;refine⟨L,M,N.trans (jgj l v),fun i y z F P=>?_,by simp;omega,fun h=>by cases h⟩;obtain⟨u,B⟩:∃ u,(jdZ l v)[i]? = some u:=⟨_,List.getElem?_eq_getElem (by rw[jrb];exact (List.getElem?_eq_some_iff.1 F).1)⟩;obtain⟨V,R⟩:=O i u z B P
  have:y.sk.level<=u.sk.level/\u.seen=y.seen:=by
   rw[jg3 E,List.getElem?_set] at B;by_cases C:v=i
   ·subst C
    rw[if_pos rfl,if_pos (List.getElem?_eq_some_iff.1 E).1] at B
    cases B
    rw[E] at F
    cases F
    have:=(jnN (H.good x (List.mem_of_getElem? E))).2;exact⟨by omega,rfl⟩
   ·rw[if_neg C,F] at B
    cases B
    exact⟨Int.le_refl _,rfl⟩
  exact⟨by omega,R.trans this.2⟩
end
def jdq (now life:Int) (x:Ser):Bool:=decide (x.seen<now)&&decide (life<now-x.seen)
section
open Go.Shelf
def jc0:Bd->Nat
 | .bkt _ l=>l.length
 | _=>0
theorem jtw (s:Nat × Bd) (i:Nat × Int):jc0 (jba s i).2<=jc0 s.2+1:=by
 obtain⟨L,B⟩:=s;unfold jba
 cases B with
 | num l =>
  show jc0 (match (jan l [(i.1:Int)]).map Bd.num with | some b=>(L,b) | none=>(L+1,((Bd.num l).low.add i.1 i.2).getD (Bd.num l).low)).2<=0+1
  cases jan l [(i.1:Int)] with
  | some m=>exact Nat.zero_le _
  | none=>exact Nat.zero_le _
 | reg b r=>exact Nat.zero_le _
 | cnt c l=>exact Nat.zero_le _
 | bkt f l=>exact jqT f l i.1 i.2
theorem jjt:∀ (l:List (Nat × Int)) (s:Nat × Bd),jc0 (l.foldl jba s).2<=jc0 s.2+l.length
 | [],_=>Nat.le_refl _
 | i::l,s=>by
  have A:=jjt l (jba s i);have B:=jtw s i;show jc0 (l.foldl jba (jba s i)).2<=_;simp only[List.length_cons];omega
end
end Go.Proofs.YtnegciklhanmbaaGreatDoor

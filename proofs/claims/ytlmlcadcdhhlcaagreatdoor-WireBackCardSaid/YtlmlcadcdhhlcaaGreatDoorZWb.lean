/- Package wire: PutReply. -/
import Derived.Test.YtlmlcadcdhhlcaaGreatDoorZWa
import Derived.Test.YtlmlcadcdhhlcaaGreatDoorZWe
set_option maxHeartbeats 4000000
set_option maxRecDepth 100000
namespace Go.Proofs.YtlmlcadcdhhlcaaGreatDoor
open Go Go.RowKit Go.Shelf
def ryV (y:Ry) (na:Option Addr) (nc:Nat) (ea:Option Addr) (ec:Nat):Array Value:=#[.int .i64 y.e,.int .u64 y.n,.slice na y.nots.length nc,.slice ea y.ents.length ec]
def jeG (x:Ent):List UInt8:=jac [x.seq,x.tm]++(jbl x.text++jac [x.sum])
theorem jgZ (l:List Ent):(l.flatMap jeG).length<=436*l.length:=by
 induction l with
 | nil=>exact Nat.zero_le _
 | cons x l ih =>
  have C:=(jao [x.seq,x.tm]).2;have D:=jbE x.text;have E:=(jao [x.sum]).2;have F:(jeG x).length=(jac [x.seq,x.tm]).length+((jbl x.text).length+(jac [x.sum]).length):=by unfold jeG;rw[List.length_append,List.length_append]
  have A:[x.seq,x.tm].length=2:=rfl;have B:[x.sum].length=1:=rfl;rw[List.flatMap_cons,List.length_append,List.length_cons];omega
theorem Ry.okD {y:Ry} (h:y.ok=true):(0<=y.e/\y.e<=4611686018427387904)/\y.nots.length<=100/\y.ents.length<=100/\(∀ n∈y.nots,jaK n=true)/\∀ x∈y.ents,x.text.size<=400:=by
 simp only[Ry.ok,Bool.and_eq_true,decide_eq_true_eq,List.all_eq_true] at h;obtain⟨⟨⟨⟨A,B⟩,C⟩,D⟩,E⟩:=h;simp only[jaK,Bool.and_eq_true,decide_eq_true_eq] at A;exact⟨A,B,C,D,E⟩
theorem Ry.notOk {y:Ry} (h:¬ ((0<=y.e/\y.e<=4611686018427387904)/\y.nots.length<=100/\y.ents.length<=100/\(∀ n∈y.nots,jaK n=true)/\∀ x∈y.ents,x.text.size<=400)):y.ok=false:=by
 cases e:y.ok with
 | false=>rfl
 | true=>exact absurd (Ry.okD e) h
theorem jdJ (e n:Int) (H:Option Addr) (B I:Nat) (E:Option Addr) (C F:Nat) (w:World) (h:e<0\/4611686018427387904<e\/100<B\/100<C) :
  CR 17 #[.agg #[.int .i64 e,.int .u64 n,.slice H B I,.slice E C F]] w (.tuple #[.string ⟨#[]⟩,.int .i64 200]):=by
 obtain⟨N,L,A,D,M⟩:=jab w #[.int .i64 e,.int .u64 n,.slice H B I,.slice E C F] 52;obtain⟨O,P,Q,c3⟩:=cl4 A;clear A;obtain h | ⟨G,h⟩ | ⟨G,J,h⟩ | ⟨G,J,R,h⟩:e<0\/(¬ e<0/\4611686018427387904<e)\/(¬ e<0/\¬ 4611686018427387904<e/\(100:Int)<B)\/(¬ e<0/\¬ 4611686018427387904<e/\¬ (100:Int)<B/\(100:Int)<C):=by omega
 all_goals
  go_enter Tryz.func17,Tryz.ntmps17;go_wp2_with fail;go_ret2;exact⟨rfl,D⟩
theorem jef (y:Ry) (C:0<=y.e) (D:y.e<=4611686018427387904) (G:y.nots.length<=100) (H:y.ents.length<=100) (E:∀ n∈y.nots,jaK n=true) :
  y.ok = !(y.ents.any fun x=>decide (400<x.text.size))/\((y.ents.any fun x=>decide (400<x.text.size))=false->[]++jac [y.e,y.n,(y.nots.length:Int)]++jac y.nots++jac [(y.ents.length:Int)]++y.ents.flatMap jeG=y.B):=by
 have F:jaK y.e=true:=by simp[jaK,C,D]
 have A:y.nots.all jaK=true:=List.all_eq_true.2 E;refine⟨?_,fun h=>?_⟩
 ·unfold Ry.ok
  rw[F,decide_eq_true G,decide_eq_true H,A,Bool.true_and,Bool.true_and,Bool.true_and,Bool.true_and];clear C D G H E F A
  induction y.ents with
  | nil=>rfl
  | cons x l ih =>
   rw[List.all_cons,List.any_cons,ih,Bool.not_or];congr 1;by_cases h:x.text.size<=400
   ·rw[decide_eq_true h,decide_eq_false (by omega)];rfl
   ·rw[decide_eq_false h,decide_eq_true (by omega)];rfl
 ·have I:∀ a b:Int,jac [a,b]=jac [a]++jac [b]:=fun a b=>jav [a] [b]
  have J:∀ a b c:Int,jac [a,b,c]=jac [a]++(jac [b]++jac [c]):=fun a b c=>(jav [a] [b,c]).trans (by rw[I b c])
  have L:y.ents.flatMap jeG=y.ents.flatMap jgX:=by
   clear C D G H E F A;generalize y.ents=l at h ⊢
   induction l with
   | nil=>rfl
   | cons x l ih =>
    rw[List.any_cons,Bool.or_eq_false_iff] at h;rw[List.flatMap_cons,List.flatMap_cons,ih h.2];congr 1;unfold jeG jgX jbl;rw[if_neg (by simpa using h.1),I,List.append_assoc]
  unfold Ry.B;rw[L,J];simp only[List.nil_append,List.append_assoc]
theorem jew (e n:Int) (A:List Int) (ents:List Ent) (M E:Nat) (na:Option Addr) (nc:Nat) (ea:Option Addr) (ec:Nat) (w:World) (e0:0<=e) (e1:e<=4611686018427387904) (n1:M<=100) (t1:E<=100)
  (hn:U64 n) (he:∀ x∈ents,(U64 x.seq/\U64 x.tm/\U64 x.sum)/\x.text.size<4294967281) (hI:SlE jct 1 w.heap.size w na M A) (hE:SlE Ent.enc 4 w.heap.size w ea E ents) :
  CR 17 #[.agg #[.int .i64 e,.int .u64 n,.slice na M nc,.slice ea E ec]] w (.tuple #[.string (if Ry.ok ⟨e,n,A,ents⟩ then ⟨(Ry.B ⟨e,n,A,ents⟩).toArray⟩ else ⟨#[]⟩),.int .i64 (if Ry.ok ⟨e,n,A,ents⟩ then 0 else 200)]):=by
 obtain⟨RS,R⟩:∃ RS:ByteArray,(if Ry.ok ⟨e,n,A,ents⟩ then (⟨(Ry.B ⟨e,n,A,ents⟩).toArray⟩:ByteArray) else ⟨#[]⟩)=RS:=⟨_,rfl⟩;obtain⟨RE,Q⟩:∃ RE:Int,(if Ry.ok ⟨e,n,A,ents⟩ then (0:Int) else 200)=RE:=⟨_,rfl⟩;rw[R,Q];have aq:=Lib.hid R;have ap:=Lib.hid Q;have ah:=Lib.hid (fun H F h3=>jef ⟨e,n,A,ents⟩ e0 e1 H F h3)
 have af:Hid ((∃ m∈A,jaK m=false)->(⟨#[]⟩:ByteArray)=RS/\(200:Int)=RE):=fun ⟨m,hm,hb⟩=>by
  have h:Ry.ok ⟨e,n,A,ents⟩=false:=Ry.notOk fun h=>by have:=h.2.2.2.1 m hm;rw[hb] at this;cases this
  rw[h] at R Q;exact⟨R,Q⟩
 clear R Q;obtain⟨W0,aD,z,ay,aA⟩:=jab w #[.int .i64 e,.int .u64 n,.slice na M nc,.slice ea E ec] 52;obtain⟨c0,c1,c2,c3⟩:=cl4 z;obtain⟨J,aE,aa,b,ae⟩:=jab W0 #[.pointer none,.slice none 0 0,.bool false] 106;rw[aA] at aa b ae;have S:=known b (by omega) z;obtain⟨d0,d1,d2,d3⟩:=cl4 S;have HZ:Hid (J.heap.size=w.heap.size+1+1):=ae;have P1:Hid (PQ (w.heap.size+1) (w.heap.size+1) [] false J J):=⟨.inl ⟨Nat.le_refl _,_,aa,World.ownsRowF_nil _ _ _ _,(by simp[Value.ownBlock])⟩,WK.refl _ _ _⟩;have HR:Hid (∀ W,WK (w.heap.size+1) (w.heap.size+1) J W->W.heap[w.heap.size]? = some (.cells #[.int .i64 e,.int .u64 n,.slice na M nc,.slice ea E ec] 52 (0,0))):=fun W l=>(l.1.block _ (by omega)).trans S
 have r:Hid (∀ W,WK (w.heap.size+1) (w.heap.size+1) J W->Bw w W):=fun W l=>(ay.trans (b.mono (by omega))).trans (l.1.mono (by omega))
 have HI:=Lib.hid hI;have HE:=Lib.hid hE;have ao:=Lib.hid he;have I:=Lib.hid hI.1;have Y:=Lib.hid hE.1;clear z aa S ae b hI hE he;have D:Hid (w.heap.size+1<=J.heap.size):=by rw[Hid,HZ.out];omega
 go_enter Tryz.func17,Tryz.ntmps17;go_wp2_with fail;refine (jiY e n (M:Int) P1.out ⟨e0,by omega⟩ hn ⟨by omega,by omega⟩ (Nat.zero_le _) D.out).mono ?_;rintro e' w2 ⟨rfl,c⟩;have e2:w2.cell? ⟨w.heap.size,2,none⟩=some (.slice na M nc):=cCc (HR.out w2 c.wk) 2;obtain⟨q,f⟩:∃ q,([]++jac [e,n,(M:Int)])=q:=⟨_,rfl⟩;have L2:Hid (q.length<=27):=by rw[Hid,<- f];exact (jao [e,n,(M:Int)]).2
 rw[f] at c;have P2:=Lib.hid c;have an:=Lib.hid f;clear c c0 c1 c2 c3 d0 d1 d2 d3 P1 f;go_wp2_with fail;go_loopw [44] (fun i wr=>∃ (k:Nat),i=.int .i64 k/\k<=M/\Hid (PQ (w.heap.size+1) (w.heap.size+1) (q++jac (A.take k)) false J wr)/\Hid (∀ m∈A.take k,jaK m=true)) (fun i _=>M-(intOf i).toNat)
 case atStart=>exact⟨0,rfl,Nat.zero_le _,by rw[Hid,List.take_zero,show jac []=[] from rfl,List.append_nil];exact P2.out,(fun m h=>by simp at h)⟩
 case round =>
  obtain⟨k,rfl,l,N,HS⟩:=hrel;by_cases ad:k<M
  ·obtain⟨m,hm⟩:∃ m,A[k]? = some m:=⟨_,List.getElem?_eq_getElem (by rw[<- I.out];exact ad)⟩
   obtain⟨O,V,rfl,L,j⟩:=HI.out.2 k m hm;have C:=r.out wr N.out.wk;have c0:wr.cell? ⟨O,V+k*1,none⟩=some (.int .i64 m):=(C.cell (p:=⟨O,V+k*1,none⟩) L).trans (j 0 (by omega));rw[Nat.mul_one] at c0;have HM:=Lib.hid hm
   cases G:jaK m with
   | false =>
    have Z:=Lib.hid (af.out ⟨m,List.mem_of_getElem? hm,G⟩);have X:=Lib.hid C
    have az:m<0\/(¬ m<0/\4611686018427387904<m):=by
     unfold jaK at G;simp only[Bool.and_eq_false_iff,decide_eq_false_iff_not] at G;omega
    clear j hm C G;rcases az with H | ⟨H,F⟩
    ·go_wp2_with fail
     go_ret2;rw[<- Z.out.1,<- Z.out.2];exact⟨rfl,X.out⟩
    ·go_wp2_with fail
     go_ret2;rw[<- Z.out.1,<- Z.out.2];exact⟨rfl,X.out⟩
   | true =>
    obtain⟨hu,aG⟩:=jcV G;have h0:=hu.1
    have au:Hid (∀ x∈A.take (k+1),jaK x=true):=fun x U=>by
     rw[jaq HM.out] at U;rcases List.mem_append.1 U with U | U
     ·exact HS.out x U
     ·rw[List.mem_singleton.1 U];exact G
    have o:=Lib.hid (jh0 m N.out hu (by
     have H:=L2.out;have F:=(jao (A.take k)).2;rw[List.length_take] at F;rw[List.length_append];omega) D.out)
    clear C j hm G hu;go_wp2_with fail;refine o.out.mono ?_;rintro e' w6 ⟨rfl,ak⟩
    have FI:Hid (PQ (w.heap.size+1) (w.heap.size+1) (q++jac (A.take (k+1))) false J w6):=by
     rw[Hid,jaq HM.out,jav,<- List.append_assoc];exact ak
    clear ak o;go_wp2_with fail;go_roundw
    case rel=>exact⟨k+1,by go_num,by omega,FI,au⟩
    case measure=>simp[intOf];omega
  ·obtain rfl:k=M:=by omega
   have P3:Hid (PQ (w.heap.size+1) (w.heap.size+1) (q++jac A) false J wr):=by
    have h:=N.out;rw[List.take_of_length_le (by rw[<- I.out];exact Nat.le_refl _)] at h;exact h
   have ar:Hid (∀ m∈A,jaK m=true):=by
    have h:=HS.out;rw[List.take_of_length_le (by rw[<- I.out];exact Nat.le_refl _)] at h;exact h
   have e3:wr.cell? ⟨w.heap.size,3,none⟩=some (.slice ea E ec):=cCc (HR.out wr P3.out.wk) 3
   have L3:Hid ((q++jac A).length<=930):=by
    have H:=L2.out;have F:=(jao A).2;rw[<- I.out] at F;rw[Hid,List.length_append];omega
   have o:=Lib.hid (jh0 (E:Int) P3.out ⟨by omega,by omega⟩ (Nat.le_trans L3.out (by omega)) D.out);clear N HS P2 e2;go_wp2_with fail;refine o.out.mono ?_;rintro e' w5 ⟨rfl,d⟩;have e4:w5.cell? ⟨w.heap.size,3,none⟩=some (.slice ea E ec):=cCc (HR.out w5 d.wk) 3;obtain⟨P,g⟩:∃ P,q++jac A++jac [(E:Int)]=P:=⟨_,rfl⟩
   have L5:Hid (P.length<=940):=by
    have H:=L3.out;have F:=(jao [(E:Int)]).2;rw[Hid,<- g,List.length_append];have h3:[(E:Int)].length=1:=rfl;omega
   rw[g] at d;have P5:=Lib.hid d;have ag:=Lib.hid g;clear d g o e3;go_wp2_with fail;go_loopw [70] (fun i wr=>∃ (k:Nat),i=.int .i64 k/\k<=E/\Hid (PQ (w.heap.size+1) (w.heap.size+1) (P++(ents.take k).flatMap jeG) ((ents.take k).any fun x=>decide (400<x.text.size)) J wr)) (fun i _=>E-(intOf i).toNat)
   case atStart=>exact⟨0,rfl,Nat.zero_le _,by rw[Hid,List.take_zero];simp;exact P5.out⟩
   case round =>
    obtain⟨k,rfl,l,N⟩:=hrel;by_cases ad:k<E
    ·obtain⟨x,U⟩:∃ x,ents[k]? = some x:=⟨_,List.getElem?_eq_getElem (by rw[<- Y.out];exact ad)⟩
     obtain⟨O,V,rfl,L,j⟩:=HE.out.2 k x U;have C:=r.out wr N.out.wk;have c0:wr.cell? ⟨O,V+k*4,none⟩=some (.int .u64 x.seq):=(C.cell (p:=⟨O,V+k*4,none⟩) L).trans (j 0 (by omega));have c1:wr.cell? ⟨O,V+k*4+1,none⟩=some (.int .u64 x.tm):=(C.cell (p:=⟨O,V+k*4+1,none⟩) L).trans (j 1 (by omega));have c2:wr.cell? ⟨O,V+k*4+2,none⟩=some (.string x.text):=(C.cell (p:=⟨O,V+k*4+2,none⟩) L).trans (j 2 (by omega));have c3:wr.cell? ⟨O,V+k*4+3,none⟩=some (.int .u64 x.sum):=(C.cell (p:=⟨O,V+k*4+3,none⟩) L).trans (j 3 (by omega));obtain⟨W6,aF,ab,t,aB⟩:=jab wr #[.int .u64 x.seq,.int .u64 x.tm,.string x.text,.int .u64 x.sum] 103;obtain⟨d0,d1,d2,d3⟩:=cl4 ab;have HX:=Lib.hid U;have T:=ao.out x (List.mem_of_getElem? U);have aC:=N.out.wk.1.size;have ac:Hid (w.heap.size+1<=W6.heap.size):=by have:=D.out;rw[Hid];omega
     have Q6:PQ (w.heap.size+1) (w.heap.size+1) (P++(ents.take k).flatMap jeG) ((ents.take k).any fun x=>decide (400<x.text.size)) W6 W6:=⟨N.out.wx.go t,WK.refl _ _ _⟩;have ax:Hid (∀ W,WK (w.heap.size+1) (w.heap.size+1) W6 W->WK (w.heap.size+1) (w.heap.size+1) J W):=fun W l=>N.out.wk.trans ((WK.of_below t (by have:=D.out;omega)).trans l)
     have HC:Hid (∀ W,WK (w.heap.size+1) (w.heap.size+1) W6 W->W.heap[wr.heap.size]? = some (.cells #[.int .u64 x.seq,.int .u64 x.tm,.string x.text,.int .u64 x.sum] 103 (0,0))):=fun W l=>l.2 _ _ ab (by have:=N.out.wx.lt;simp;omega) (fun c' fz e=>by cases e)
     have LK:Hid ((P++(ents.take k).flatMap jeG).length<=45000):=by
      have H:=L5.out;have F:=jgZ (ents.take k);rw[List.length_take] at F;rw[Hid,List.length_append];omega
     have o:=Lib.hid (jg9 x.seq x.tm Q6 T.1.1 T.1.2.1 (Nat.le_trans LK.out (by omega)) ac.out);have aw:=Lib.hid T.2;have av:=Lib.hid T.1.2.2;clear C j U T ab t aB aC Q6;go_wp2_with fail;refine o.out.mono ?_;rintro e' w7 ⟨rfl,u⟩;have g2:w7.cell? ⟨wr.heap.size,2,none⟩=some (.string x.text):=cCc (HC.out w7 u.wk) 2;have ai:=Lib.hid (jiI x.text u aw.out (by have H:=(jao [x.seq,x.tm]).2;have F:=LK.out;have h3:[x.seq,x.tm].length=2:=rfl;rw[List.length_append];omega) ac.out);clear u o;go_wp2_with fail;refine ai.out.mono ?_;rintro e' w8 ⟨rfl,v⟩;have g3:w8.cell? ⟨wr.heap.size,3,none⟩=some (.int .u64 x.sum):=cCc (HC.out w8 v.wk) 3;have aj:=Lib.hid (jh0 x.sum v av.out (by have H:=(jao [x.seq,x.tm]).2;have F:=LK.out;have h3:[x.seq,x.tm].length=2:=rfl;have h4:=jbE x.text;rw[List.length_append,List.length_append];omega) ac.out);clear v ai;go_wp2_with fail;refine aj.out.mono ?_;rintro e' w9 ⟨rfl,y⟩
     have FI:Hid (PQ (w.heap.size+1) (w.heap.size+1) (P++(ents.take (k+1)).flatMap jeG) ((ents.take (k+1)).any fun x=>decide (400<x.text.size)) J w9):=by
      have H:=y.wx
      have e1:P++(ents.take (k+1)).flatMap jeG=P++(ents.take k).flatMap jeG++jac [x.seq,x.tm]++jbl x.text++jac [x.sum]:=by
       rw[jaq HX.out,List.flatMap_append];simp[jeG]
      have e2:((ents.take (k+1)).any fun x=>decide (400<x.text.size))=(((ents.take k).any fun x=>decide (400<x.text.size))||decide (400<x.text.size)):=by rw[jaq HX.out,List.any_append];simp
      rw[Hid,e1,e2];exact⟨H,ax.out w9 y.wk⟩
     clear y aj;go_wp2_with fail;go_roundw
     case rel=>exact⟨k+1,by go_num,by omega,FI⟩
     case measure=>simp[intOf];omega
    ·obtain rfl:k=E:=by omega
     have P6:PQ (w.heap.size+1) (w.heap.size+1) (P++ents.flatMap jeG) (ents.any fun x=>decide (400<x.text.size)) J wr:=by
      have h:=N.out;rw[List.take_of_length_le (by rw[<- Y.out];exact Nat.le_refl _)] at h;exact h
     have a:=(jgR (w.heap.size+1) (w.heap.size+1) _ _ wr P6.wx (fun h=>by
      have H:=(jao [(k:Int)]).1;have F:=congrArg List.length h;rw[List.length_append,<- ag.out,List.length_append] at F;have h3:[(k:Int)].length=1:=rfl;have h4:([]:List UInt8).length=0:=rfl;omega))
     have am:Hid (Bw w wr):=r.out wr P6.wk
     have s:(if (ents.any fun x=>decide (400<x.text.size)) then (⟨#[]⟩:ByteArray) else ⟨(P++ents.flatMap jeG).toArray⟩)=RS/\(if (ents.any fun x=>decide (400<x.text.size)) then (200:Int) else 0)=RE:=by
      obtain⟨H,F⟩:=ah.out (by rw[<- I.out];exact n1) (by rw[<- Y.out];exact t1) ar.out;rw[<- aq.out,<- ap.out,H]
      cases hb:(ents.any fun x=>decide (400<x.text.size)) with
      | true=>exact⟨rfl,rfl⟩
      | false =>
       rw[<- F hb,<- ag.out,<- an.out,I.out,Y.out];exact⟨rfl,rfl⟩
     rw[s.1,s.2] at a;have a:=Lib.hid a;clear N P5 P6 s;go_wp2_with fail;refine a.out.mono ?_;rintro e' w9 ⟨rfl,al⟩;have X:Hid (Bw w w9):=am.out.trans (al.mono (by omega));clear al;go_wp2_with fail;go_ret2;exact⟨rfl,X.out⟩
theorem jci (y:Ry) (C:Option Addr) (E:Nat) (A:Option Addr) (D:Nat) (w:World) (I:U64 y.n) (H:∀ x∈y.ents,(U64 x.seq/\U64 x.tm/\U64 x.sum)/\x.text.size<4294967281) (G:SlE jct 1 w.heap.size w C y.nots.length y.nots) (F:SlE Ent.enc 4 w.heap.size w A y.ents.length y.ents) :
  CR 17 #[.agg (ryV y C E A D)] w (.tuple #[.string (if y.ok then ⟨y.B.toArray⟩ else ⟨#[]⟩),.int .i64 (if y.ok then 0 else 200)]):=by
 by_cases h:y.e<0\/4611686018427387904<y.e\/100<y.nots.length\/100<y.ents.length
 ·rw[Ry.notOk (fun J=>by omega)]
  exact jdJ y.e y.n C _ E A _ D w h
 ·exact jew y.e y.n y.nots y.ents y.nots.length y.ents.length C E A D w (by omega) (by omega) (by omega) (by omega) I H G F
end Go.Proofs.YtlmlcadcdhhlcaaGreatDoor

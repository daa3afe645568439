/- series.Same and the reference of layer 12: One, Same, of any two tables. Printed by gen_i8.py. aviarylaw12.SeriesMeant answers true. -/
import Derived.Test.YtafhpamnegmilaaGreatDoorZI7
set_option maxHeartbeats 8000000
set_option maxRecDepth 100000
namespace Go.Proofs.YtafhpamnegmilaaGreatDoor
open Go Go.RowKit Go.Shelf
def jcg (x y:Ser):Bool:=x.seen==y.seen&&x.l==y.l&&jaw x.sk y.sk
def jc5 (L M:List Ser):Bool:=decide (L.length=M.length)&&(L.zip M).all fun p=>jcg p.1 p.2
theorem jmn (x:Ser):jcg x x=true:=by simp[jcg,jaw]
theorem jiX {L M:List Ser} (h:¬ L.length=M.length):jc5 L M=false:=by simp[jc5,h]
theorem jiW {L M:List Ser} {k:Nat} {x y:Ser} (A:L[k]? = some x) (B:M[k]? = some y) (h:jcg x y=false):jc5 L M=false:=by
 rw[jc5,Bool.and_eq_false_iff];exact .inr (List.all_eq_false.2 ⟨(x,y),List.mem_of_getElem? (List.getElem?_zip_eq_some.2 ⟨A,B⟩),by rw[h];simp⟩)
theorem jfP {L M:List Ser} (D:L.length=M.length) (h:∀ k,k<L.length->∀ x y,L[k]? = some x->M[k]? = some y->jcg x y=true):jc5 L M=true:=by
 rw[jc5,Bool.and_eq_true];refine⟨decide_eq_true D,List.all_eq_true.2 fun p E=>?_⟩;obtain⟨k,C⟩:=List.mem_iff_getElem?.1 E;obtain⟨A,B⟩:=List.getElem?_zip_eq_some.1 C;exact h k (List.getElem?_eq_some_iff.1 A).1 _ _ A B
theorem jmz (L:List Ser):jc5 L L=true:=jfP rfl fun k _ x y B A=>by rw[B] at A;rw[Option.some.inj A];exact jmn y
theorem jrX (x y:Ser) (p q:SerP) (w:World) (M:p.At w.heap.size w x) (N:q.At w.heap.size w y) :
  CR 41 #[.agg #[.slice p.la p.ll p.lc,.int .i64 x.sk.kind,.int .i64 x.sk.level,.slice p.ss.ea p.ss.el p.ss.ec,.int .i64 x.sk.hb,.string x.sk.hr,.int .i64 x.sk.cr,.int .i64 x.sk.cc,.slice p.ss.ca p.ss.cl p.ss.cc,.int .i64 x.sk.gf,.slice p.ss.ga p.ss.gl p.ss.gc,.int .u64 x.seen],.agg #[.slice q.la q.ll q.lc,.int .i64 y.sk.kind,.int .i64 y.sk.level,.slice q.ss.ea q.ss.el q.ss.ec,.int .i64 y.sk.hb,.string y.sk.hr,.int .i64 y.sk.cr,.int .i64 y.sk.cc,.slice q.ss.ca q.ss.cl q.ss.cc,.int .i64 y.sk.gf,.slice q.ss.ga q.ss.gl q.ss.gc,.int .u64 y.seen]] w (.bool (jcg x y)):=by
 obtain⟨G,Y,E,F,B,H⟩:=jaI w #[.slice p.la p.ll p.lc,.int .i64 x.sk.kind,.int .i64 x.sk.level,.slice p.ss.ea p.ss.el p.ss.ec,.int .i64 x.sk.hb,.string x.sk.hr,.int .i64 x.sk.cr,.int .i64 x.sk.cc,.slice p.ss.ca p.ss.cl p.ss.cc,.int .i64 x.sk.gf,.slice p.ss.ga p.ss.gl p.ss.gc,.int .u64 x.seen] 60 #[.slice q.la q.ll q.lc,.int .i64 y.sk.kind,.int .i64 y.sk.level,.slice q.ss.ea q.ss.el q.ss.ec,.int .i64 y.sk.hb,.string y.sk.hr,.int .i64 y.sk.cr,.int .i64 y.sk.cc,.slice q.ss.ca q.ss.cl q.ss.cc,.int .i64 y.sk.gf,.slice q.ss.ga q.ss.gl q.ss.gc,.int .u64 y.seen] 60;obtain⟨d,c1,c2,c3,c4,c5,f,g,h,i,T,U⟩:=jhS E;obtain⟨j,k,m,n,o,r,t,u,v,z,V,X⟩:=jhS F;have J:Hid (p.At G.heap.size G x):=M.go B;have P:Hid (q.At G.heap.size G y):=N.go B;have C:=Lib.hid B;have b:w.heap.size+1<G.heap.size:=by omega
 have c:w.heap.size<G.heap.size:=by omega
 have L:=jlw p.la p.ll p.lc x.l q.la q.ll q.lc y.l G J.out.l.1 P.out.l.1 (Nat.le_trans J.out.l.2.1 J.out.l.2.2.1);have I:Hid (jcg x y=(x.seen==y.seen&&x.l==y.l&&jaw x.sk y.sk)):=rfl;generalize jcg x y=S at I ⊢;generalize (x.l==y.l)=sl at L I
 cases Q:x.seen==y.seen with
 | false =>
  have D:Hid (S=false):=by rw[Hid,I.out,Q];rfl
  clear M N H E F B L;go_enter Tryz.func41,Tryz.ntmps41;go_wp2_with fail;go_ret;exact⟨by rw[D.out];rfl,C.out⟩
 | true =>
  rw[Q] at I
  cases sl with
  | false =>
   have D:Hid (S=false):=by rw[Hid,I.out];rfl
   clear M N H E F B;go_enter Tryz.func41,Tryz.ntmps41;go_wp2_with fail;refine L.mono ?_;rintro e R ⟨rfl,A⟩;go_wp2_with fail;go_ret;exact⟨by rw[D.out];rfl,C.out.trans (A.mono C.out.size)⟩
  | true =>
   have D:Hid (S=jaw x.sk y.sk):=by rw[Hid,I.out];rfl
   clear M N H E F B;go_enter Tryz.func41,Tryz.ntmps41;go_wp2_with fail;refine L.mono ?_;rintro e R ⟨rfl,A⟩;obtain⟨Z,a⟩:=jfA A;go_wp2_with (go_at_call 43;refine (jbV x.sk y.sk p.ss q.ss R (J.out.go A).s (P.out.go A).s).mono ?_;rintro e w2 ⟨rfl,O⟩);go_ret;exact⟨by rw[D.out];rfl,C.out.trans ((A.trans (O.mono A.size)).mono C.out.size)⟩
theorem jqK (args:Array Value) (w:World):(callFunc 41 args).run Tryz.prog w=.ok (.enter 41 args) w:=by kernel_rfl
theorem jkg (l m:List (Ser × SerP)) (a b:Option Addr) (len S cap R:Nat) (w:World) (Z:Tab w.heap.size w a len cap l) (v:Tab w.heap.size w b S R m) :
  CR 40 #[.slice a len cap,.slice b S R,.func (.func 41) #[] #[]] w (.bool (jc5 (l.map (·.1)) (m.map (·.1)))):=by
 have hl:=Z.row.1.1;have hm:=v.row.1.1;subst hl hm;obtain⟨L,o⟩:∃ L,l.map (·.1)=L:=⟨_,rfl⟩;obtain⟨M,r⟩:∃ M,m.map (·.1)=M:=⟨_,rfl⟩;rw[o,r];have c:Hid (∀ (k:Nat) (x:Ser) (p:SerP),l[k]? = some (x,p)->L[k]? = some x):=fun k x p h=>by rw[<- o,List.getElem?_map,h];rfl
 have d:Hid (∀ (k:Nat) (x:Ser) (p:SerP),m[k]? = some (x,p)->M[k]? = some x):=fun k x p h=>by rw[<- r,List.getElem?_map,h];rfl
 have N:L.length=l.length:=by rw[<- o,List.length_map]
 have Q:M.length=m.length:=by rw[<- r,List.length_map]
 by_cases H:l.length=m.length
 case neg =>
  have t0:((l.length:Int) != (m.length:Int))=true:=by rw[bne_iff_ne];omega
  rw[jiX (by rw[N,Q];exact H)];clear Z v o r c d N Q H;go_enter Tryz.func40,Tryz.ntmps40;go_wp2_with fail;go_ret;exact⟨rfl,Below.refl _ _⟩
 have ac:Hid (L.length=M.length):=by rw[N,Q];exact H
 have ad:Hid (L.length=l.length):=N;have V:=H.symm;have t0:((l.length:Int) != (m.length:Int))=false:=by simp[H]
 have ax:((l.length:Int) != (l.length:Int))=false:=by simp
 rw[V];clear o r N Q;have ag:l.length<=maxLen:=Nat.le_trans Z.row.2.1 Z.row.2.2.1;unfold maxLen at ag;have HT:=Lib.hid Z;have HU:=Lib.hid v;clear t0;have ab:=Lib.hid V;have eg:=jqK;clear Z v H V;go_enter Tryz.func40,Tryz.ntmps40;go_wp2_with fail;go_loopw [17] (fun i wr=>∃ (k:Nat),i=.int .i64 k/\k<=l.length/\Bw w wr/\Hid (∀ j,j<k->∀ x y,L[j]? = some x->M[j]? = some y->jcg x y=true)) (fun i _=>l.length-(intOf i).toNat)
 case atStart=>exact⟨0,rfl,Nat.zero_le _,Below.refl _ _,fun j t=>absurd t (Nat.not_lt_zero _)⟩
 case round =>
  obtain⟨k,rfl,hk,T,HJ⟩:=hrel;have Y:=T.size;by_cases u:k<l.length
  ·obtain⟨⟨x,p⟩,z⟩:∃ x,l[k]? = some x:=⟨_,List.getElem?_eq_getElem u⟩
   obtain⟨⟨y,q⟩,hy⟩:∃ x,m[k]? = some x:=⟨_,List.getElem?_eq_getElem (by rw[ab.out];exact u)⟩;have g:Hid (L[k]? = some x):=c.out k x p z;have n:Hid (M[k]? = some y):=d.out k y q hy;obtain⟨so,X⟩:∃ so,jcg x y=so:=⟨_,rfl⟩;have f:=Lib.hid X;obtain⟨I,B,rfl,aj,D⟩:=(HT.out.below T).row.1.2 k (x,p) z;obtain⟨E,A,rfl,ak,C⟩:=(HU.out.below T).row.1.2 k (y,q) hy;have c0:wr.cell? ⟨I,B+k*12,none⟩=some (.slice p.la p.ll p.lc):=D 0 (by omega);have c1:wr.cell? ⟨I,B+k*12+1,none⟩=some (.int .i64 x.sk.kind):=D 1 (by omega);have c2:wr.cell? ⟨I,B+k*12+2,none⟩=some (.int .i64 x.sk.level):=D 2 (by omega);have c3:wr.cell? ⟨I,B+k*12+3,none⟩=some (.slice p.ss.ea p.ss.el p.ss.ec):=D 3 (by omega);have c4:wr.cell? ⟨I,B+k*12+4,none⟩=some (.int .i64 x.sk.hb):=D 4 (by omega);have c5:wr.cell? ⟨I,B+k*12+5,none⟩=some (.string x.sk.hr):=D 5 (by omega);have c6:wr.cell? ⟨I,B+k*12+6,none⟩=some (.int .i64 x.sk.cr):=D 6 (by omega);have c7:wr.cell? ⟨I,B+k*12+7,none⟩=some (.int .i64 x.sk.cc):=D 7 (by omega);have c8:wr.cell? ⟨I,B+k*12+8,none⟩=some (.slice p.ss.ca p.ss.cl p.ss.cc):=D 8 (by omega);have c9:wr.cell? ⟨I,B+k*12+9,none⟩=some (.int .i64 x.sk.gf):=D 9 (by omega);have al:wr.cell? ⟨I,B+k*12+10,none⟩=some (.slice p.ss.ga p.ss.gl p.ss.gc):=D 10 (by omega);have am:wr.cell? ⟨I,B+k*12+11,none⟩=some (.int .u64 x.seen):=D 11 (by omega)
   obtain⟨G,ap,ae,J,ah⟩:=jaf wr #[.slice p.la p.ll p.lc,.int .i64 x.sk.kind,.int .i64 x.sk.level,.slice p.ss.ea p.ss.el p.ss.ec,.int .i64 x.sk.hb,.string x.sk.hr,.int .i64 x.sk.cr,.int .i64 x.sk.cc,.slice p.ss.ca p.ss.cl p.ss.cc,.int .i64 x.sk.gf,.slice p.ss.ga p.ss.gl p.ss.gc,.int .u64 x.seen] 60;obtain⟨W2,aq,af,O,ai⟩:=jaf G #[.slice q.la q.ll q.lc,.int .i64 y.sk.kind,.int .i64 y.sk.level,.slice q.ss.ea q.ss.el q.ss.ec,.int .i64 y.sk.hb,.string y.sk.hr,.int .i64 y.sk.cr,.int .i64 y.sk.cc,.slice q.ss.ca q.ss.cl q.ss.cc,.int .i64 y.sk.gf,.slice q.ss.ga q.ss.gl q.ss.gc,.int .u64 y.seen] 60;replace C:∀ i,i<12->G.cell? ⟨E,A+k*12+i,none⟩=(jev (y,q))[i]? := fun i hi=>(J.cell (p:=⟨E,A+k*12+i,none⟩) (by show E<_;omega)).trans (C i hi)
   have d0:G.cell? ⟨E,A+k*12,none⟩=some (.slice q.la q.ll q.lc):=C 0 (by omega);have d1:G.cell? ⟨E,A+k*12+1,none⟩=some (.int .i64 y.sk.kind):=C 1 (by omega);have d2:G.cell? ⟨E,A+k*12+2,none⟩=some (.int .i64 y.sk.level):=C 2 (by omega);have d3:G.cell? ⟨E,A+k*12+3,none⟩=some (.slice q.ss.ea q.ss.el q.ss.ec):=C 3 (by omega);have d4:G.cell? ⟨E,A+k*12+4,none⟩=some (.int .i64 y.sk.hb):=C 4 (by omega);have d5:G.cell? ⟨E,A+k*12+5,none⟩=some (.string y.sk.hr):=C 5 (by omega);have d6:G.cell? ⟨E,A+k*12+6,none⟩=some (.int .i64 y.sk.cr):=C 6 (by omega);have d7:G.cell? ⟨E,A+k*12+7,none⟩=some (.int .i64 y.sk.cc):=C 7 (by omega);have d8:G.cell? ⟨E,A+k*12+8,none⟩=some (.slice q.ss.ca q.ss.cl q.ss.cc):=C 8 (by omega);have d9:G.cell? ⟨E,A+k*12+9,none⟩=some (.int .i64 y.sk.gf):=C 9 (by omega);have an:G.cell? ⟨E,A+k*12+10,none⟩=some (.slice q.ss.ga q.ss.gl q.ss.gc):=C 10 (by omega);have ao:G.cell? ⟨E,A+k*12+11,none⟩=some (.int .u64 y.seen):=C 11 (by omega);have s:=jab O (Nat.le_refl _) ae;obtain⟨r0,r1,r2,r3,r4,r5,r6,r7,r8,r9,ar,au⟩:=jhS s;obtain⟨s0,s1,s2,s3,s4,s5,s6,s7,s8,s9,av,aw⟩:=jhS af;have HP:Hid (p.At wr.heap.size wr x):=((HT.out.at_ _ (List.mem_of_getElem? z)).below T).mono Y;have HQ:Hid (q.At wr.heap.size wr y):=((HU.out.at_ _ (List.mem_of_getElem? hy)).below T).mono Y;have i0:(0:Int)<=(k:Int):=by omega
   have i1:(k:Int)<(l.length:Int):=by omega
   have F:=jrX x y p q W2 ((HP.out.go J).go O) ((HQ.out.go J).go O);have P:Bw w W2:=T.trans ((J.trans (O.mono J.size)).mono Y);rw[X] at F;clear D C z hy ah ai X
   cases so with
   | false =>
    have aa:=Lib.hid (jiW g.out n.out f.out);go_wp2_with fail;refine F.mono ?_;rintro e w4 ⟨rfl,U⟩;go_wp2_with fail;go_ret;exact⟨by rw[aa.out];rfl,P.trans (U.mono P.size)⟩
   | true =>
    go_wp2_with fail;refine F.mono ?_;rintro e w4 ⟨rfl,U⟩;go_wp2_with fail;go_roundw
    case rel=>exact⟨k+1,by go_num,by omega,P.trans (U.mono P.size),fun j t x' y' h1 h2=>(Nat.lt_or_eq_of_le (Nat.le_of_lt_succ t)).elim (fun h=>HJ.out j h x' y' h1 h2) (fun h=>by subst h;rw[g.out] at h1;rw[n.out] at h2;rw[<- Option.some.inj h1,<- Option.some.inj h2];exact f.out)⟩
    case measure=>simp[intOf];omega
  ·obtain rfl:k=l.length:=by omega
   go_wp2_with fail;go_ret;exact⟨by rw[jfP ac.out (fun j t=>HJ.out j (by rw[ad.out] at t;omega))];rfl,T⟩
theorem je2 (l m:List (Ser × SerP)) (a b:Option Addr) (len C cap A:Nat) (w:World) (F:Tab w.heap.size w a len cap l) (G:Tab w.heap.size w b C A m) :
  CR 14 #[.slice a len cap,.slice b C A] w (.bool (jc5 (l.map (·.1)) (m.map (·.1)))):=by
 have E:=jkg l m a b len C cap A w F G;generalize jc5 (l.map (·.1)) (m.map (·.1))=B at E ⊢;clear F G;go_enter Tryz.func14,Tryz.ntmps14;go_wp2_with fail;refine E.mono ?_;rintro e H ⟨rfl,D⟩;go_wp2_with fail;go_ret;exact⟨rfl,D⟩
theorem jkP (x y:Ser) (p q:SerP) (w:World) (hp:p.At w.heap.size w x) (hq:q.At w.heap.size w y) :
  CR 44 #[.agg #[.slice p.la p.ll p.lc,.int .i64 x.sk.kind,.int .i64 x.sk.level,.slice p.ss.ea p.ss.el p.ss.ec,.int .i64 x.sk.hb,.string x.sk.hr,.int .i64 x.sk.cr,.int .i64 x.sk.cc,.slice p.ss.ca p.ss.cl p.ss.cc,.int .i64 x.sk.gf,.slice p.ss.ga p.ss.gl p.ss.gc,.int .u64 x.seen],.agg #[.slice q.la q.ll q.lc,.int .i64 y.sk.kind,.int .i64 y.sk.level,.slice q.ss.ea q.ss.el q.ss.ec,.int .i64 y.sk.hb,.string y.sk.hr,.int .i64 y.sk.cr,.int .i64 y.sk.cc,.slice q.ss.ca q.ss.cl q.ss.cc,.int .i64 y.sk.gf,.slice q.ss.ga q.ss.gl q.ss.gc,.int .u64 y.seen]] w (.bool (jcg x y)):=by
 obtain⟨R,ac,L,M,E,v⟩:=jaI w #[.slice p.la p.ll p.lc,.int .i64 x.sk.kind,.int .i64 x.sk.level,.slice p.ss.ea p.ss.el p.ss.ec,.int .i64 x.sk.hb,.string x.sk.hr,.int .i64 x.sk.cr,.int .i64 x.sk.cc,.slice p.ss.ca p.ss.cl p.ss.cc,.int .i64 x.sk.gf,.slice p.ss.ga p.ss.gl p.ss.gc,.int .u64 x.seen] 60 #[.slice q.la q.ll q.lc,.int .i64 y.sk.kind,.int .i64 y.sk.level,.slice q.ss.ea q.ss.el q.ss.ec,.int .i64 y.sk.hb,.string y.sk.hr,.int .i64 y.sk.cr,.int .i64 y.sk.cc,.slice q.ss.ca q.ss.cl q.ss.cc,.int .i64 y.sk.gf,.slice q.ss.ga q.ss.gl q.ss.gc,.int .u64 y.seen] 60;obtain⟨a,c1,c2,c3,c4,c5,c,d,f,g,G,H⟩:=jhS L;obtain⟨h,i,j,k,m,n,o,r,t,u,I,J⟩:=jhS M;have V:Hid (p.At R.heap.size R x):=hp.go E;have HQ:Hid (q.At R.heap.size R y):=hq.go E;have Y:=Lib.hid L;have Z:=Lib.hid M;have X:=jjb p.la p.ll p.lc x.l q.la q.ll q.lc y.l R V.out.l.1 HQ.out.l.1 (Nat.le_trans V.out.l.2.1 V.out.l.2.2.1);have Q:Hid (jcg x y=(x.seen==y.seen&&x.l==y.l&&jaw x.sk y.sk)):=rfl;generalize jcg x y=S at Q ⊢;generalize (x.l==y.l)=sl at X Q;have B:=Lib.hid E;clear hp hq v L M E
 cases sl with
 | false =>
  have C:Hid (S=false):=by rw[Hid,Q.out];simp
  go_enter Tryz.func44,Tryz.ntmps44;go_wp2_with fail;refine X.mono ?_;rintro e w1 ⟨rfl,A⟩;go_wp2_with fail;go_ret;exact⟨by rw[C.out];rfl,B.out.trans (A.mono B.out.size)⟩
 | true =>
  obtain⟨ss,P⟩:∃ b,jaw x.sk y.sk=b:=⟨_,rfl⟩;rw[P] at Q;go_enter Tryz.func44,Tryz.ntmps44;go_wp2_with fail;refine X.mono ?_;rintro e w1 ⟨rfl,A⟩;have N:=jab A (Nat.le_refl _) Y.out;have O:=jab A (Nat.le_refl _) Z.out;clear a c1 c2 c3 c4 c5 c d f g G H h i j k m n o r t u I J;obtain⟨a,c1,c2,c3,c4,c5,c,d,f,g,G,H⟩:=jhS N;obtain⟨h,i,j,k,m,n,o,r,t,u,I,J⟩:=jhS O;have F:=ja3 x.sk y.sk p.ss q.ss w1 (V.out.go A).s (HQ.out.go A).s;rw[P] at F;clear X P
  cases ss with
  | false =>
   have C:Hid (S=false):=by rw[Hid,Q.out];simp
   go_wp2_with fail;refine F.mono ?_;rintro e z ⟨rfl,D⟩;go_wp2_with fail;go_ret;exact⟨by rw[C.out];rfl,B.out.trans ((A.trans (D.mono A.size)).mono B.out.size)⟩
  | true =>
   have C:Hid (S=(x.seen==y.seen)):=by rw[Hid,Q.out];simp
   go_wp2_with fail;refine F.mono ?_;rintro e z ⟨rfl,D⟩;have T:=jab D (Nat.le_refl _) N;have U:=jab D (Nat.le_refl _) O;have aa:z.cell? ⟨w.heap.size,11,none⟩=some (.int .u64 x.seen):=cCc T 11;have ab:z.cell? ⟨w.heap.size+1,11,none⟩=some (.int .u64 y.seen):=cCc U 11;clear F N O T U a c1 c2 c3 c4 c5 c d f g G H h i j k m n o r t u I J;go_wp2_with fail;go_ret;exact⟨by rw[C.out];rfl,B.out.trans ((A.trans (D.mono A.size)).mono B.out.size)⟩
theorem jji (l m:List (Ser × SerP)) (a b:Option Addr) (len S cap Q:Nat) (w:World) (Z:Tab w.heap.size w a len cap l) (hU:Tab w.heap.size w b S Q m) :
  CR 15 #[.slice a len cap,.slice b S Q] w (.bool (jc5 (l.map (·.1)) (m.map (·.1)))):=by
 have hl:=Z.row.1.1;have hm:=hU.row.1.1;subst hl hm;obtain⟨L,r⟩:∃ L,l.map (·.1)=L:=⟨_,rfl⟩;obtain⟨M,s⟩:∃ M,m.map (·.1)=M:=⟨_,rfl⟩;rw[r,s];have d:Hid (∀ (k:Nat) (x:Ser) (p:SerP),l[k]? = some (x,p)->L[k]? = some x):=fun k x p h=>by rw[<- r,List.getElem?_map,h];rfl
 have f:Hid (∀ (k:Nat) (x:Ser) (p:SerP),m[k]? = some (x,p)->M[k]? = some x):=fun k x p h=>by rw[<- s,List.getElem?_map,h];rfl
 have O:L.length=l.length:=by rw[<- r,List.length_map]
 have P:M.length=m.length:=by rw[<- s,List.length_map]
 by_cases J:l.length=m.length
 case neg =>
  have t0:((l.length:Int) != (m.length:Int))=true:=by rw[bne_iff_ne];omega
  rw[jiX (by rw[O,P];exact J)];clear Z hU r s d f O P J;go_enter Tryz.func15,Tryz.ntmps15;go_wp2_with fail;go_ret;exact⟨rfl,Below.refl _ _⟩
 have ad:Hid (L.length=M.length):=by rw[O,P];exact J
 have ae:Hid (L.length=l.length):=O;have U:=J.symm;have t0:((l.length:Int) != (m.length:Int))=false:=by simp[J]
 have al:((l.length:Int) != (l.length:Int))=false:=by simp
 rw[U];clear r s O P;have af:l.length<=maxLen:=Nat.le_trans Z.row.2.1 Z.row.2.2.1;unfold maxLen at af;have HT:=Lib.hid Z;have HU:=Lib.hid hU;clear t0;have ac:=Lib.hid U;clear Z hU J U;go_enter Tryz.func15,Tryz.ntmps15;go_wp2_with fail;go_loopw [5] (fun i wr=>∃ (k:Nat),i=.int .i64 k/\k<=l.length/\Bw w wr/\Hid (∀ j,j<k->∀ x y,L[j]? = some x->M[j]? = some y->jcg x y=true)) (fun i _=>l.length-(intOf i).toNat)
 case atStart=>exact⟨0,rfl,Nat.zero_le _,Below.refl _ _,fun j u=>absurd u (Nat.not_lt_zero _)⟩
 case round =>
  obtain⟨k,rfl,hk,hB,HJ⟩:=hrel;by_cases v:k<l.length
  ·obtain⟨⟨x,p⟩,hx⟩:∃ x,l[k]? = some x:=⟨_,List.getElem?_eq_getElem v⟩
   obtain⟨⟨y,q⟩,hy⟩:∃ x,m[k]? = some x:=⟨_,List.getElem?_eq_getElem (by rw[ac.out];exact v)⟩;have n:Hid (L[k]? = some x):=d.out k x p hx;have o:Hid (M[k]? = some y):=f.out k y q hy;obtain⟨so,V⟩:∃ so,jcg x y=so:=⟨_,rfl⟩;have g:=Lib.hid V;obtain⟨H,A,rfl,F,C⟩:=HT.out.row.1.2 k (x,p) hx;obtain⟨I,B,rfl,G,D⟩:=HU.out.row.1.2 k (y,q) hy;have z:=HT.out.at_ _ (List.mem_of_getElem? hx);have aa:=HU.out.at_ _ (List.mem_of_getElem? hy);have HO:Hid (∀ W,Bw w W->CR 44 #[.agg #[.slice p.la p.ll p.lc,.int .i64 x.sk.kind,.int .i64 x.sk.level,.slice p.ss.ea p.ss.el p.ss.ec,.int .i64 x.sk.hb,.string x.sk.hr,.int .i64 x.sk.cr,.int .i64 x.sk.cc,.slice p.ss.ca p.ss.cl p.ss.cc,.int .i64 x.sk.gf,.slice p.ss.ga p.ss.gl p.ss.gc,.int .u64 x.seen],.agg #[.slice q.la q.ll q.lc,.int .i64 y.sk.kind,.int .i64 y.sk.level,.slice q.ss.ea q.ss.el q.ss.ec,.int .i64 y.sk.hb,.string y.sk.hr,.int .i64 y.sk.cr,.int .i64 y.sk.cc,.slice q.ss.ca q.ss.cl q.ss.cc,.int .i64 y.sk.gf,.slice q.ss.ga q.ss.gl q.ss.gc,.int .u64 y.seen]] W (.bool so)):=fun W c=>V▸jkP x y p q W ((z.below c).mono c.size) ((aa.below c).mono c.size)
   have i0:(0:Int)<=(k:Int):=by omega
   have i1:(k:Int)<(l.length:Int):=by omega
   let Inv0:World->Prop:=fun W=>Bw w W
   have t:∀ W W',Inv0 W->Bw W W'->Inv0 W':=fun W W' h c=>Below.trans h (c.mono (Below.size h))
   have K1:Hid (∀ X:WIn Inv0,Calls Tryz.prog 44 #[.agg #[.slice p.la p.ll p.lc,.int .i64 x.sk.kind,.int .i64 x.sk.level,.slice p.ss.ea p.ss.el p.ss.ec,.int .i64 x.sk.hb,.string x.sk.hr,.int .i64 x.sk.cr,.int .i64 x.sk.cc,.slice p.ss.ca p.ss.cl p.ss.cc,.int .i64 x.sk.gf,.slice p.ss.ga p.ss.gl p.ss.gc,.int .u64 x.seen],.agg #[.slice q.la q.ll q.lc,.int .i64 y.sk.kind,.int .i64 y.sk.level,.slice q.ss.ea q.ss.el q.ss.ec,.int .i64 y.sk.hb,.string y.sk.hr,.int .i64 y.sk.cr,.int .i64 y.sk.cc,.slice q.ss.ca q.ss.cl q.ss.cc,.int .i64 y.sk.gf,.slice q.ss.ga q.ss.gl q.ss.gc,.int .u64 y.seen]] X.world fun e w'=>e=.returned (.bool so)/\∃ Y:WIn Inv0,w'=Y.world):=fun X=>jac t (HO.out X.world X.ok)
   have E:Hid (∀ X:WIn Inv0,Bw w X.world):=fun X=>X.ok
   have q0:∀ X:WIn Inv0,X.world.cell? ⟨H,A+k*12,none⟩=some (.slice p.la p.ll p.lc):=fun X=>((E.out X).cell (p:=⟨H,A+k*12,none⟩) F).trans (C 0 (by omega))
   have q1:∀ X:WIn Inv0,X.world.cell? ⟨H,A+k*12+1,none⟩=some (.int .i64 x.sk.kind):=fun X=>((E.out X).cell (p:=⟨H,A+k*12+1,none⟩) F).trans (C 1 (by omega))
   have q2:∀ X:WIn Inv0,X.world.cell? ⟨H,A+k*12+2,none⟩=some (.int .i64 x.sk.level):=fun X=>((E.out X).cell (p:=⟨H,A+k*12+2,none⟩) F).trans (C 2 (by omega))
   have q3:∀ X:WIn Inv0,X.world.cell? ⟨H,A+k*12+3,none⟩=some (.slice p.ss.ea p.ss.el p.ss.ec):=fun X=>((E.out X).cell (p:=⟨H,A+k*12+3,none⟩) F).trans (C 3 (by omega))
   have q4:∀ X:WIn Inv0,X.world.cell? ⟨H,A+k*12+4,none⟩=some (.int .i64 x.sk.hb):=fun X=>((E.out X).cell (p:=⟨H,A+k*12+4,none⟩) F).trans (C 4 (by omega))
   have q5:∀ X:WIn Inv0,X.world.cell? ⟨H,A+k*12+5,none⟩=some (.string x.sk.hr):=fun X=>((E.out X).cell (p:=⟨H,A+k*12+5,none⟩) F).trans (C 5 (by omega))
   have q6:∀ X:WIn Inv0,X.world.cell? ⟨H,A+k*12+6,none⟩=some (.int .i64 x.sk.cr):=fun X=>((E.out X).cell (p:=⟨H,A+k*12+6,none⟩) F).trans (C 6 (by omega))
   have q7:∀ X:WIn Inv0,X.world.cell? ⟨H,A+k*12+7,none⟩=some (.int .i64 x.sk.cc):=fun X=>((E.out X).cell (p:=⟨H,A+k*12+7,none⟩) F).trans (C 7 (by omega))
   have q8:∀ X:WIn Inv0,X.world.cell? ⟨H,A+k*12+8,none⟩=some (.slice p.ss.ca p.ss.cl p.ss.cc):=fun X=>((E.out X).cell (p:=⟨H,A+k*12+8,none⟩) F).trans (C 8 (by omega))
   have q9:∀ X:WIn Inv0,X.world.cell? ⟨H,A+k*12+9,none⟩=some (.int .i64 x.sk.gf):=fun X=>((E.out X).cell (p:=⟨H,A+k*12+9,none⟩) F).trans (C 9 (by omega))
   have ah:∀ X:WIn Inv0,X.world.cell? ⟨H,A+k*12+10,none⟩=some (.slice p.ss.ga p.ss.gl p.ss.gc):=fun X=>((E.out X).cell (p:=⟨H,A+k*12+10,none⟩) F).trans (C 10 (by omega))
   have ai:∀ X:WIn Inv0,X.world.cell? ⟨H,A+k*12+11,none⟩=some (.int .u64 x.seen):=fun X=>((E.out X).cell (p:=⟨H,A+k*12+11,none⟩) F).trans (C 11 (by omega))
   have r0:∀ X:WIn Inv0,X.world.cell? ⟨I,B+k*12,none⟩=some (.slice q.la q.ll q.lc):=fun X=>((E.out X).cell (p:=⟨I,B+k*12,none⟩) G).trans (D 0 (by omega))
   have r1:∀ X:WIn Inv0,X.world.cell? ⟨I,B+k*12+1,none⟩=some (.int .i64 y.sk.kind):=fun X=>((E.out X).cell (p:=⟨I,B+k*12+1,none⟩) G).trans (D 1 (by omega))
   have r2:∀ X:WIn Inv0,X.world.cell? ⟨I,B+k*12+2,none⟩=some (.int .i64 y.sk.level):=fun X=>((E.out X).cell (p:=⟨I,B+k*12+2,none⟩) G).trans (D 2 (by omega))
   have r3:∀ X:WIn Inv0,X.world.cell? ⟨I,B+k*12+3,none⟩=some (.slice q.ss.ea q.ss.el q.ss.ec):=fun X=>((E.out X).cell (p:=⟨I,B+k*12+3,none⟩) G).trans (D 3 (by omega))
   have r4:∀ X:WIn Inv0,X.world.cell? ⟨I,B+k*12+4,none⟩=some (.int .i64 y.sk.hb):=fun X=>((E.out X).cell (p:=⟨I,B+k*12+4,none⟩) G).trans (D 4 (by omega))
   have r5:∀ X:WIn Inv0,X.world.cell? ⟨I,B+k*12+5,none⟩=some (.string y.sk.hr):=fun X=>((E.out X).cell (p:=⟨I,B+k*12+5,none⟩) G).trans (D 5 (by omega))
   have r6:∀ X:WIn Inv0,X.world.cell? ⟨I,B+k*12+6,none⟩=some (.int .i64 y.sk.cr):=fun X=>((E.out X).cell (p:=⟨I,B+k*12+6,none⟩) G).trans (D 6 (by omega))
   have r7:∀ X:WIn Inv0,X.world.cell? ⟨I,B+k*12+7,none⟩=some (.int .i64 y.sk.cc):=fun X=>((E.out X).cell (p:=⟨I,B+k*12+7,none⟩) G).trans (D 7 (by omega))
   have r8:∀ X:WIn Inv0,X.world.cell? ⟨I,B+k*12+8,none⟩=some (.slice q.ss.ca q.ss.cl q.ss.cc):=fun X=>((E.out X).cell (p:=⟨I,B+k*12+8,none⟩) G).trans (D 8 (by omega))
   have r9:∀ X:WIn Inv0,X.world.cell? ⟨I,B+k*12+9,none⟩=some (.int .i64 y.sk.gf):=fun X=>((E.out X).cell (p:=⟨I,B+k*12+9,none⟩) G).trans (D 9 (by omega))
   have aj:∀ X:WIn Inv0,X.world.cell? ⟨I,B+k*12+10,none⟩=some (.slice q.ss.ga q.ss.gl q.ss.gc):=fun X=>((E.out X).cell (p:=⟨I,B+k*12+10,none⟩) G).trans (D 10 (by omega))
   have ak:∀ X:WIn Inv0,X.world.cell? ⟨I,B+k*12+11,none⟩=some (.int .u64 y.seen):=fun X=>((E.out X).cell (p:=⟨I,B+k*12+11,none⟩) G).trans (D 11 (by omega))
   have T:Hid (Inv0 (World.drew wr)):=hB.drew;have ag:Nonempty (WIn Inv0):=⟨⟨_,T.out⟩⟩;clear t hB C D hx hy z aa HO V;clear_value Inv0;go_wp2_with fail;refine jad Inv0 (by kernel_rfl) (by kernel_rfl) T.out ?_
   repeat (first | go_big_quiet_step ((go_at_call 44;with_reducible exact K1.out _)) | quiet_step ((go_at_call 44;with_reducible exact K1.out _)))
   refine wpQuiet_nil ?_;rintro _ ⟨X,rfl⟩;have N:=E.out X;obtain⟨w2,R⟩:∃ w2,X.world=w2:=⟨_,rfl⟩;rw[R] at N ⊢;clear E K1 q0 q1 q2 q3 q4 q5 q6 q7 q8 q9 ah ai r0 r1 r2 r3 r4 r5 r6 r7 r8 r9 aj ak T ag R X
   cases so with
   | false =>
    have ab:=Lib.hid (jiW n.out o.out g.out);go_wp2_with fail;go_ret;exact⟨by rw[ab.out];rfl,N⟩
   | true =>
    go_wp2_with fail;go_roundw
    case rel=>exact⟨k+1,by go_num,by omega,N,fun j u x' y' h1 h2=>(Nat.lt_or_eq_of_le (Nat.le_of_lt_succ u)).elim (fun h=>HJ.out j h x' y' h1 h2) (fun h=>by subst h;rw[n.out] at h1;rw[o.out] at h2;rw[<- Option.some.inj h1,<- Option.some.inj h2];exact g.out)⟩
    case measure=>simp[intOf];omega
  ·have i1:¬ (k:Int)<(l.length:Int):=by omega
   go_wp2_with fail;go_ret;exact⟨by rw[jfP ad.out (fun j u=>HJ.out j (by rw[ae.out] at u;omega))];rfl,hB⟩
theorem jiR (l:List (Ser × SerP)) (a:Option Addr) (len cap:Nat) (sc:ByteArray) (I:Int) (l3:List (Ser × SerP)) (a3:Option Addr) (q o:Nat) (w:World) (hT:Tab w.heap.size w a len cap l) (hU:∀ x∈l.map (·.1),Ser.wn x/\I64 x.sk.cc) (_h2:I64 I) (aV:Tab w.heap.size w a3 q o l3) (_hU3:∀ x∈l3.map (·.1),Ser.wn x/\I64 x.sk.cc) (hG:GW w) (hg:GT w) :
  CR 3 #[.slice a len cap,.string sc,.int .i64 I,.slice a3 q o] w (.bool true):=by
 have HT:=Lib.hid hT;have aR:=Lib.hid aV;have HG:=Lib.hid hG;have aG:=Lib.hid hg;obtain⟨L,hL⟩:∃ L,jh4 (l.map (·.1))=L:=⟨_,rfl⟩;have HQ:Hid (jas L=true->QT L):=by rw[<- hL];exact jwW (fun x hx=>(hU x hx).1)
 have aF:Hid (∀ x∈L,x.fine):=by rw[<- hL];exact jof (fun y hy=>(hU y hy).1.wf)
 have aI:Hid (jhK L):=by rw[<- hL];exact jvA hU
 have HL:=Lib.hid hL;obtain⟨C,a1⟩:∃ C:jb4,C.1=jmX 500 sc:=⟨⟨jmX 500 sc,jmY 500 (by decide) sc⟩,rfl⟩;have aQ:=Lib.hid a1
 have HC:Hid (∀ W,CR 8 #[.string sc] W (.string C.1)):=fun W=>by
  have h:=jqF sc W;rw[<- aQ.out] at h;exact h
 clear hT aV hU hG hg hL a1;go_enter Tryz.func3,Tryz.ntmps3;go_wp2_with (go_at_call 5;refine (jnJ w HG.out).mono ?_;rintro e w1 ⟨rfl,J⟩);refine (jlz l a len cap w1 (HT.out.go J)).mono ?_;rintro e w0 ⟨M,A,m,rfl,aU,hm,aA,az,Q⟩;clear aA az;go_wp2_with fail;refine (jlz l3 a3 q o w0 (aR.out.go (J.trans (Q.mono J.size)))).mono ?_;rintro e G ⟨a4,X,m4,rfl,aW,bg,aA,az,f⟩;clear aA az;have d:Bw w G:=J.trans ((Q.trans (f.mono Q.size)).mono J.size);have HM:Hid (m.map (·.1)=L):=hm.trans HL.out;have F:Hid (Tab G.heap.size G M m.length A m):=aU.go f;have ao:=Lib.hid aW;have HF:Hid (jdl m):=jmx F.out (by rw[HM.out];exact aF.out);have k:Hid (jhK (m.map (·.1))):=by rw[Hid,HM.out];exact aI.out
 have an:Hid (jas (m.map (·.1))=true->∀ x∈m.map (·.1),SkGood x.sk):=fun hr x hx=>by rw[HM.out] at hr hx;exact ((HQ.out hr).good x hx).sk
 have aa:Hid (∀ W,Bw G W->GW W/\GT W):=fun W D=>⟨HG.out.below (d.trans (D.mono d.size)),aG.out.go (d.trans (D.mono d.size))⟩
 have ab:Hid (∀ W,Bw G W->Calls Tryz.prog 7 #[.slice M m.length A,.string C.1] W (jby L C W)):=fun W D=>by
  have h:=jla C m M m.length A W (F.out.go D) HF.out (aa.out W D).1;rw[HM.out] at h;exact h
 have ac:Hid (∀ W,Bw G W->Calls Tryz.prog 9 #[.slice M m.length A,.string C.1] W (jby L C W)):=fun W D=>by
  have h:=jeW C m M m.length A W (F.out.go D) HF.out k.out;rw[HM.out] at h;exact h
 have O:Hid (∀ W,Bw G W->Calls Tryz.prog 10 #[.slice M m.length A,.string C.1,.int .i64 I] W (jgx I (jbe L C) (ja0 L I (jaZ L C)) W)):=fun W D=>by
  have h:=joS C I m M m.length A W (F.out.go D) HF.out an.out (aa.out W D).1 (aa.out W D).2;rw[HM.out] at h;exact h
 have u:Hid (∀ W,Bw G W->Calls Tryz.prog 11 #[.slice M m.length A,.string C.1,.int .i64 I] W (jgx I (jbe L C) (ja0 L I (jaZ L C)) W)):=fun W D=>by
  have h:=jhw C I m M m.length A W (F.out.go D) HF.out k.out an.out;rw[HM.out] at h;exact h
 obtain⟨B,au⟩:∃ B,jc5 (m.map (·.1)) (m4.map (·.1))=B:=⟨_,rfl⟩;have aN:Hid (∀ W,Bw G W->CR 14 #[.slice M m.length A,.slice a4 m4.length X] W (.bool B)):=fun W D=>au▸je2 m m4 M a4 _ _ A X W (F.out.go D) (ao.out.go D)
 have aO:Hid (∀ W,Bw G W->CR 15 #[.slice M m.length A,.slice a4 m4.length X] W (.bool B)):=fun W D=>au▸jji m m4 M a4 _ _ A X W (F.out.go D) (ao.out.go D)
 have aP:Hid (∀ W,Bw G W->CR 14 #[.slice M m.length A,.slice M m.length A] W (.bool true)):=fun W D=>by
  have h:=je2 m m M M _ _ A A W (F.out.go D) (F.out.go D);rw[jmz] at h;exact h
 have aE:=Lib.hid d;clear aU aW hm bg J Q f d au HT aR HL HM F ao HF k an aa HQ aF aI HG aG aQ;generalize m.length=ml at *;generalize m4.length=ml4 at *;have P:Hid (∀ w e w',jby L C w e w'->∃ a cap,e=.returned (.tuple #[.slice a (jaZ L C).length cap,.int .i64 (jbe L C)])/\SlC ji4 1 w'.heap.size w' a (jaZ L C).length cap (jaZ L C)/\Bw w w'):=fun _ _ _ h=>h
 have c:Hid (∀ w e w',jgx I (jbe L C) (ja0 L I (jaZ L C)) w e w'->∃ (y:Sk) (s:SS),y=jnU I (jbe L C) (ja0 L I (jaZ L C))/\e=.returned (.tuple #[.agg #[.int .i64 y.kind,.int .i64 y.level,.slice s.ea s.el s.ec,.int .i64 y.hb,.string y.hr,.int .i64 y.cr,.int .i64 y.cc,.slice s.ca s.cl s.cc,.int .i64 y.gf,.slice s.ga s.gl s.gc],.int .i64 (jmH (jbe L C) I)])/\s.At w'.heap.size w' y/\Bw w w'):=fun _ _ _ h=>h
 generalize jnU I (jbe L C) (ja0 L I (jaZ L C))=yS at c;generalize jgx I (jbe L C) (ja0 L I (jaZ L C))=PS at O u c;generalize jby L C=PM at ab ac P;generalize jmH (jbe L C) I=es at c;generalize jbe L C=em at P;generalize jaZ L C=ps at P;generalize C.1=sc5 at HC ab ac O u;obtain⟨pl,aB⟩:∃ n,ps.length=n:=⟨_,rfl⟩;rw[aB] at P;have bk:=Lib.hid aB;clear aB;go_wp2_with fail;refine (HC.out G).mono ?_;rintro e w3 ⟨rfl,f⟩;have v:=Lib.hid f;clear f;go_wp2_with fail;refine (ab.out w3 v.out).mono ?_;rintro e w4 p;obtain⟨pa,pc,rfl,hp,a0⟩:=P.out _ _ _ p;have al:Hid (Bw G w4):=v.out.trans (a0.mono v.out.size);have aJ:Hid (SlC ji4 1 w4.heap.size w4 pa pl pc ps):=hp;clear p hp a0 v ab;go_wp2_with fail;refine (HC.out w4).mono ?_;rintro e w5 ⟨rfl,av⟩;have z:Hid (Bw G w5):=al.out.trans (av.mono al.out.size);have aK:Hid (SlC ji4 1 w5.heap.size w5 pa pl pc ps):=aJ.out.go av;clear av al aJ;go_wp2_with fail;refine (ac.out w5 z.out).mono ?_;rintro e w6 p;obtain⟨qa,qc,rfl,hp,aw⟩:=P.out _ _ _ p;have am:Hid (Bw G w6):=z.out.trans (aw.mono z.out.size);have aL:Hid (SlC ji4 1 w6.heap.size w6 pa pl pc ps):=aK.out.go aw;have aM:Hid (SlC ji4 1 w6.heap.size w6 qa pl qc ps):=hp
 have aH:Hid (∀ W,Bw w6 W->CR 12 #[.slice pa pl pc,.slice qa pl qc] W (.bool true)):=fun W D=>by
  have h:=jjh pa pl pc ps qa pl qc ps W (aL.out.go D).1 (aM.out.go D).1 (Nat.le_trans hp.2.1 hp.2.2.1);rw[show (ps==ps)=true by simp] at h;exact h
 clear p hp aw z aK ac aL aM;go_wp2_with fail;refine (HC.out w6).mono ?_;rintro e w7 ⟨rfl,ax⟩;have Z:Hid (Bw G w7):=am.out.trans (ax.mono am.out.size);have i:=Lib.hid ax;clear ax am;go_wp2_with fail;refine (O.out w7 Z.out).mono ?_;rintro e w8 p;obtain⟨y1,r,a5,rfl,hA,ay⟩:=c.out _ _ _ p;obtain⟨W9,bl,aZ,ar,bm⟩:=jaf w8 #[.int .i64 y1.kind,.int .i64 y1.level,.slice r.ea r.el r.ec,.int .i64 y1.hb,.string y1.hr,.int .i64 y1.cr,.int .i64 y1.cc,.slice r.ca r.cl r.cc,.int .i64 y1.gf,.slice r.ga r.gl r.gc] 41;have j:Hid (Bw w7 W9):=ay.trans (ar.mono ay.size);have aq:=Lib.hid aZ;have bf:=Lib.hid a5;have aC:=Lib.hid (hA.go ar);clear p aZ ar ay hA a5 O;obtain⟨b1,J⟩:∃ b,w8.heap.size=b:=⟨_,rfl⟩;rw[J] at aq;go_wp2_with fail;clear J;refine (HC.out W9).mono ?_;rintro e a7 ⟨rfl,Y⟩;have R:Hid (Bw w7 a7):=j.out.trans (Y.mono j.out.size);have af:=Lib.hid (jab Y (Nat.le_refl _) aq.out);have ad:=Lib.hid (aC.out.go Y);clear Y j aq aC HC;go_wp2_with fail;refine (u.out a7 (Z.out.trans (R.out.mono Z.out.size))).mono ?_;rintro e a8 p;obtain⟨y2,t,a6,rfl,hA,E⟩:=c.out _ _ _ p;obtain⟨aT,bi,ag,N,bj⟩:=jaf a8 #[.int .i64 y2.kind,.int .i64 y2.level,.slice t.ea t.el t.ec,.int .i64 y2.hb,.string y2.hr,.int .i64 y2.cr,.int .i64 y2.cc,.slice t.ca t.cl t.cc,.int .i64 y2.gf,.slice t.ga t.gl t.gc] 41;have S:Hid (Bw w7 aT):=R.out.trans ((E.trans (N.mono E.size)).mono R.out.size);have aS:=Lib.hid (jab (E.trans (N.mono E.size)) (Nat.le_refl _) af.out);have ap:=Lib.hid ag
 have O:=Lib.hid (ad.out.go (E.trans (N.mono E.size)));have ae:=Lib.hid (hA.go N);have be:Hid (jaw y1 y2=true):=by rw[Hid,bf.out,a6];simp[jaw]
 obtain⟨b2,Q⟩:∃ b,a8.heap.size=b:=⟨_,rfl⟩;rw[Q] at ap;clear p ag N E hA a6 u R af ad P c;go_wp2_with fail;clear Q;refine (aH.out aT (i.out.trans (S.out.mono i.out.size))).mono ?_;rintro e a9 ⟨rfl,H⟩;have g:Hid (Bw G a9):=Z.out.trans ((S.out.trans (H.mono S.out.size)).mono Z.out.size);have aX:=jab H (Nat.le_refl _) aS.out;have aY:=jab H (Nat.le_refl _) ap.out;obtain⟨c0,c1,c2,c3,c4,c5,c6,c7,c8,c9⟩:=jam aX;obtain⟨d0,d1,d2,d3,d4,d5,d6,d7,d8,d9⟩:=jam aY;have hSk:=ja3 y1 y2 r t a9 (O.out.go H) (ae.out.go H);rw[be.out] at hSk;clear H S aX aY aS ap O ae aH i Z;go_wp2_with fail;refine hSk.mono ?_;rintro e ba ⟨rfl,ah⟩;have T:Hid (Bw G ba):=g.out.trans (ah.mono g.out.size);clear ah g hSk c0 c1 c2 c3 c4 c5 c6 c7 c8 c9 d0 d1 d2 d3 d4 d5 d6 d7 d8 d9;go_wp2_with fail;refine (aN.out ba T.out).mono ?_;rintro e bb ⟨rfl,ai⟩;have U:Hid (Bw G bb):=T.out.trans (ai.mono T.out.size);clear ai T aN;go_wp2_with fail;refine (aO.out bb U.out).mono ?_;rintro e bc ⟨rfl,aj⟩;have V:Hid (Bw G bc):=U.out.trans (aj.mono U.out.size);clear aj U aO;go_wp2_with fail;refine (aP.out bc V.out).mono ?_;rintro e bh ⟨rfl,ak⟩;have aD:Hid (Bw G bh):=V.out.trans (ak.mono V.out.size);clear ak V aP;go_wp2_with fail;go_ret;exact⟨rfl,aE.out.trans (aD.out.mono aE.out.size)⟩
end Go.Proofs.YtafhpamnegmilaaGreatDoor

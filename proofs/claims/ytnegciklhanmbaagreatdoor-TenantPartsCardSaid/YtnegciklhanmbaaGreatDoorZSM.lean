/- series.Merged. -/
import Derived.Test.YtnegciklhanmbaaGreatDoorZUD
set_option maxHeartbeats 8000000
set_option maxRecDepth 100000
namespace Go.Proofs.YtnegciklhanmbaaGreatDoor
open Go Go.RowKit Go.Shelf
section
theorem jpG (k:Nat) (S:List (Nat × Bd)) (t:Nat × Bd):jdk k (S++[t])=jbz (jdk k S) t:=by unfold jdk;rw[List.foldl_append];rfl
structure MI (k:Nat) (S:List (Nat × Bd)) (w:World) (r b:Nat) (W:World):Prop where
 sk:∃ (y:Sk) (s:SS),y=jcy k (jdk k S).1 (jdk k S).2/\W.heap[b]? = some (.cells (skv y s) 44 (0,0))/\s.At W.heap.size W y
 res:W.heap[r]? = some (.cells zsV 44 (0,0))
 below:Bw w W
theorem MI.go {k:Nat} {S:List (Nat × Bd)} {w W A:World} {r b:Nat} (h:MI k S w r b W) (hb:Bw W A):MI k S w r b A:=by
 obtain⟨⟨y,s,C,D,E⟩,F,B⟩:=h;exact⟨⟨y,s,C,known hb (Nat.le_refl _) D,E.go hb⟩,known hb (Nat.le_refl _) F,B.trans (hb.mono B.size)⟩
theorem jpb {k:Nat} (P:k=1\/k=2\/k=3) {S:List (Nat × Bd)} (N:∀ t∈S,t.2.Ok k t.1) {x:Ser} (F:SkGood x.sk) (A:x.sk.kind=(k:Int)) {v:Value} {p:SS} {W:World} (R:SkB W v k (jdk k S).1 (jdk k S).2) (Q:p.At W.heap.size W x.sk) (O:GT W) :
  Calls Tryz.prog 51 #[v,.agg (skv x.sk p)] W fun e w'=>∃ (y:Sk) (s:SS),e=.returned (.tuple #[.agg (skv y s),.int .i64 0])/\y=jcy k (jdk k (S++jdw (k:Int) x)).1 (jdk k (S++jdw (k:Int) x)).2/\s.At w'.heap.size w' y/\Bw W w':=by
 have D:jdw (k:Int) x=[skB x.sk]:=by unfold jdw;rw[A];simp
 rw[D,jpG];have C:=jvB F A
 have E:SkB W (.agg (skv x.sk p)) k (skB x.sk).1 (skB x.sk).2:=by
  obtain⟨G,L,B,e,M⟩:=F;rw[e,(jaL G L B).1] at A;obtain rfl:G=k:=by omega
  refine⟨x.sk,p,?_,rfl,Q⟩;rw[e,jlS M]
 refine (jpT (joh P N) C O R E).mono ?_;rintro e w' ⟨v',rfl,⟨y,s,H,I,J⟩,hb⟩;subst I;exact⟨y,s,rfl,H,J,hb⟩
attribute [-go_sem] Builtin.append_
theorem jon (s:jcL) (kind:Int) (l:List (Ser × SerP)) (a:Option Addr) (len cap:Nat) (w:World) (hT:Tab w.heap.size w a len cap l) (hF:jdl l) (hQ:jaj (l.map (·.1))=true->∀ x∈l.map (·.1),SkGood x.sk) (hG:GW w) (hg:GT w) :
  Calls Tryz.prog 28 #[.slice a len cap,.string s.1,.int .i64 kind] w (jel kind (jbm (l.map (·.1)) s) (jaG (l.map (·.1)) kind (jbb (l.map (·.1)) s)) w):=by
 have ax:=hT.row.1.1;subst ax;obtain⟨W0,a2,aw,R,a3⟩:=jab w zsV 44;have hM:=jpS s l a l.length cap W0 (hT.go R) hF (hG.below R);unfold jha at hM;have HT:=Lib.hid (hT.go R);have aE:Hid (GT W0):=hg.go R;have aK:=Lib.hid aw;have ah:=Lib.hid R
 have ay:Hid (∀ i∈jbb (l.map (·.1)) s,i<l.length):=by
  rw[Hid,jbb];split
  ·intro i hi
   have:=((jnO s (l.map (·.1)) 0).1 i hi).2;rw[List.length_map] at this;omega
  ·intro i hi;cases hi
 have ar:jbm (l.map (·.1)) s=0->∀ x∈l.map (·.1),SkGood x.sk:=fun h=>by
  refine hQ ?_;unfold jbm at h;split at h
  ·assumption
  ·cases h
 have q:=Lib.hid ar;generalize jbb (l.map (·.1)) s=pl at hM ay ⊢;generalize jbm (l.map (·.1)) s=er at hM q ⊢;have HL:Hid (∀ (i:Nat) (x:Ser) (p:SerP),l[i]? = some (x,p)->(l.map (·.1))[i]? = some x):=fun i x p h=>by rw[List.getElem?_map,h];rfl
 generalize l.map (·.1)=L at q HL ⊢;clear hT hF hQ hG hg aw R ar;go_enter Tryz.func28,Tryz.ntmps28;go_wp2_with fail;refine hM.mono ?_;rintro e E ⟨pa,pc,rfl,hp,z⟩;have g:=known z (Nat.le_refl _) aK.out;have ac:=Lib.hid g;have Q:Hid (Bw w E):=ah.out.trans (z.mono ah.out.size);obtain⟨r0,r1,r2,r3,r4,r5,r6,r7,r8,r9⟩:=jbg g;obtain⟨g0,g1,g2,g3,g4,g5,g6,g7,g8,g9⟩:=jft g;obtain⟨d0,d1,d2,d3,d4,d5,d6,d7,d8,d9⟩:=jxL g;have ao:=Lib.hid z;clear g z hM;by_cases he:er=0
 case neg =>
  have t1:(er != 0)=true:=by rw[bne_iff_ne];exact he
  have HS:Hid (jgP er kind=er):=by unfold Hid jgP;rw[if_neg (by simpa using he)]
  have HE:=Lib.hid he;clear he;go_wp2_with fail;refine bodyPost_ret (v:=.tuple #[.agg zsV,.int .i64 er]) (by simp[results,Tryz.f28,go_sem,r0,r1,r2,r3,r4,r5,r6,r7,r8,r9]) rfl ⟨jgY 0 0 [],SkNil,?_,?_,jn2 _,Q.out⟩
  ·rw[jn6 (by rw[HS.out];exact HE.out)]
  ·rw[HS.out];rfl
 subst he;by_cases hk:kind=1\/kind=2\/kind=3
 case neg =>
  have HS:Hid (jgP 0 kind=101):=by unfold Hid jgP;rw[if_pos (by rfl:((0:Int)==0)=true),if_neg (by simpa [not_or,and_assoc] using hk)]
  have HN:=Lib.hid (ju9 kind (by rw[beq_eq_false_iff_ne];exact fun h=>hk (.inl h)) (by rw[beq_eq_false_iff_ne];exact fun h=>hk (.inr (.inl h))) (by rw[beq_eq_false_iff_ne];exact fun h=>hk (.inr (.inr h))) E);clear hk;go_wp2_with fail;refine HN.out.mono ?_;rintro e w2 ⟨rfl,I⟩;have av:=known I (Nat.le_refl _) ac.out;obtain⟨W3,aV,N,M,a0⟩:=jab w2 zsV 44;have t:=known M (Nat.le_refl _) av;obtain⟨q0,q1,q2,q3,q4,q5,q6,q7,q8,q9⟩:=jbg t;obtain⟨f0,f1,f2,f3,f4,f5,f6,f7,f8,f9⟩:=jft t;obtain⟨a6,a7,a8,a9,ba,bb,bc,bd,be,bf⟩:=jxL t;obtain⟨z0,z1,z2,z3,z4,z5,z6,z7,z8,z9⟩:=jbg N;obtain⟨y0,y1,y2,y3,y4,y5,y6,y7,y8,y9⟩:=jft N;obtain⟨bq,br,bs,bt,bu,bv,bw,bx,bz,bA⟩:=jxL N;have aC:Hid (Bw w W3):=Q.out.trans ((I.trans (M.mono I.size)).mono Q.out.size);clear av N t I M;go_wp2_with fail;refine bodyPost_ret (v:=.tuple #[.agg zsV,.int .i64 101]) (by simp[results,Tryz.f28,go_sem,q0,q1,q2,q3,q4,q5,q6,q7,q8,q9]) rfl ⟨jgY 0 0 [],SkNil,?_,?_,jn2 _,aC.out⟩
  ·rw[jn6 (by rw[HS.out];decide)]
  ·rw[HS.out];rfl
 obtain⟨K,rfl,hK⟩:∃ K:Nat,kind=(K:Int)/\(K=1\/K=2\/K=3):=⟨kind.toNat,by omega,by omega⟩;have HS:=Lib.hid (jn7 (S:=jaG L K pl) hK);have ak:=Lib.hid (q.out rfl);have HN:=Lib.hid (jpU K hK E);have HK:=Lib.hid hK;clear hk hK q;go_wp2_with fail;refine HN.out.mono ?_;rintro e w2 ⟨v2,rfl,⟨y2,s2,az,rfl,ap⟩,I⟩;obtain⟨W3,aV,N,M,a0⟩:=jab w2 (skv y2 s2) 44;have P:=I.trans (M.mono I.size);have al:Hid (MI K [] w w.heap.size w2.heap.size W3):=⟨⟨y2,s2,az,N,ap.go M⟩,known P (Nat.le_refl _) ac.out,Q.out.trans (P.mono Q.out.size)⟩;have HP:Hid (SlC jhr 1 E.heap.size E pa pl.length pc pl):=hp;have aD:=Lib.hid P;have aZ:pl.length<=maxLen:=Nat.le_trans hp.2.1 hp.2.2.1;unfold maxLen at aZ;have aj:Hid (GT E):=aE.out.go ao.out;have an:Hid (Tab E.heap.size E a l.length cap l):=HT.out.go ao.out;obtain⟨b,ad⟩:∃ b,w2.heap.size=b:=⟨_,rfl⟩;have a1:E.heap.size<=b:=by rw[<- ad];exact I.size
 have a4:w.heap.size<b:=by have:=Q.out.size;have:=(Array.getElem?_eq_some_iff.1 ac.out).1;omega
 rw[ad] at al;clear I N M P hp az ap;go_wp2_with fail;clear ad;go_loopw [9,34] (fun e i wr=>∃ m:Nat,m<=pl.length/\e=.int .i64 0/\i=.int .i64 m/\MI K (jaG L K (pl.take m)) w w.heap.size b wr/\Bw E wr) (fun _ i _=>pl.length-(intOf i).toNat)
 case atStart=>exact⟨0,Nat.zero_le _,rfl,rfl,al.out,aD.out⟩
 case round =>
  obtain⟨m,hm,rfl,rfl,d,A⟩:=hrel;by_cases aX:m<pl.length
  ·obtain⟨i,hi⟩:∃ i,pl[m]? = some i:=⟨_,List.getElem?_eq_getElem aX⟩
   have aW:=ay.out i (List.mem_of_getElem? hi);obtain⟨⟨x,p⟩,hx⟩:∃ e,l[i]? = some e:=⟨_,List.getElem?_eq_getElem aW⟩;obtain⟨pb,po,rfl,aY,af⟩:=HP.out.1.2 m i hi;obtain⟨F,G,rfl,H,D⟩:=an.out.row.1.2 i (x,p) hx
   have c0:wr.cell? ⟨pb,po+m,none⟩=some (.int .i64 (i:Int)):=by
    have h1:=af 0 (by omega);simp only[Nat.mul_one,Nat.add_zero] at h1;exact (A.cell (p:=⟨pb,po+m,none⟩) aY).trans h1
   have n0:E.cell? ⟨F,G+i*12,none⟩=some (.slice p.la p.ll p.lc):=D 0 (by omega);have n1:E.cell? ⟨F,G+i*12+1,none⟩=some (.int .i64 x.sk.kind):=D 1 (by omega);have n2:E.cell? ⟨F,G+i*12+2,none⟩=some (.int .i64 x.sk.level):=D 2 (by omega);have n3:E.cell? ⟨F,G+i*12+3,none⟩=some (.slice p.ss.ea p.ss.el p.ss.ec):=D 3 (by omega);have n4:E.cell? ⟨F,G+i*12+4,none⟩=some (.int .i64 x.sk.hb):=D 4 (by omega);have n5:E.cell? ⟨F,G+i*12+5,none⟩=some (.string x.sk.hr):=D 5 (by omega);have n6:E.cell? ⟨F,G+i*12+6,none⟩=some (.int .i64 x.sk.cr):=D 6 (by omega);have n7:E.cell? ⟨F,G+i*12+7,none⟩=some (.int .i64 x.sk.cc):=D 7 (by omega);have n8:E.cell? ⟨F,G+i*12+8,none⟩=some (.slice p.ss.ca p.ss.cl p.ss.cc):=D 8 (by omega);have n9:E.cell? ⟨F,G+i*12+9,none⟩=some (.int .i64 x.sk.gf):=D 9 (by omega);have ag:E.cell? ⟨F,G+i*12+10,none⟩=some (.slice p.ss.ga p.ss.gl p.ss.gc):=D 10 (by omega);have aB:E.cell? ⟨F,G+i*12+11,none⟩=some (.int .u64 x.seen):=D 11 (by omega);have o:=HL.out i x p hx;have O:jaG L K (pl.take (m+1))=jaG L K (pl.take m)++jdw K x:=by rw[jaf hi,jpg,jrL o]
   have am:=Lib.hid O;have aF:=Lib.hid (ak.out x (List.mem_of_getElem? o));have aI:Hid (p.At E.heap.size E x):=an.out.at_ _ (List.mem_of_getElem? hx);have i0:(0:Int)<=(m:Int):=by omega
   have i1:(m:Int)<(pl.length:Int):=by omega
   have j0:(0:Int)<=(i:Int):=by omega
   have j1:(i:Int)<(l.length:Int):=by omega
   have k1:=(A.cell (p:=⟨F,G+i*12+1,none⟩) H).trans n1;have aG:=Lib.hid d;have ai:=Lib.hid A;by_cases Y:x.sk.kind=(K:Int)
   case neg =>
    have t1:(x.sk.kind != (K:Int))=true:=by rw[bne_iff_ne];exact Y
    have aJ:Hid (jaG L K (pl.take (m+1))=jaG L K (pl.take m)):=by
     rw[Hid,am.out];unfold jdw;rw[if_neg (by simpa using Y),List.append_nil]
    clear Y O af D hi hx d A o n1 n2 n3 n4 n5 n6 n7 n8 n9 ag aB n0;go_wp2_with fail
    all_goals go_roundw
    case rel=>exact⟨m+1,by omega,rfl,by go_num,by rw[aJ.out];exact aG.out,ai.out⟩
    case measure=>simp[intOf];omega
   have t1:(x.sk.kind != (K:Int))=false:=by simp[Y]
   obtain⟨⟨y,J,hy,X,Z⟩,B,c⟩:=d
   have aH:Hid (Calls Tryz.prog 51 #[.agg (skv y J),.agg (skv x.sk p.ss)] wr.drew fun e w'=>∃ (y:Sk) (s:SS),e=.returned (.tuple #[.agg (skv y s),.int .i64 0])/\y=jcy K (jdk K (jaG L K (pl.take (m+1)))).1 (jdk K (jaG L K (pl.take (m+1)))).2/\s.At w'.heap.size w' y/\Below wr.drew.heap.size wr.drew w'):=by
    rw[am.out];have ae:Bw wr wr.drew:=(Below.refl _ _).drew;exact jpb HK.out (jlG ak.out _) aF.out Y ⟨y,J,hy,rfl,Z.go ae⟩ (aI.out.go (A.trans (ae.mono A.size))).s (aj.out.go (A.trans (ae.mono A.size)))
   have k2:=(A.cell (p:=⟨F,G+i*12+2,none⟩) H).trans n2;have k3:=(A.cell (p:=⟨F,G+i*12+3,none⟩) H).trans n3;have k4:=(A.cell (p:=⟨F,G+i*12+4,none⟩) H).trans n4;have k5:=(A.cell (p:=⟨F,G+i*12+5,none⟩) H).trans n5;have k6:=(A.cell (p:=⟨F,G+i*12+6,none⟩) H).trans n6;have k7:=(A.cell (p:=⟨F,G+i*12+7,none⟩) H).trans n7;have k8:=(A.cell (p:=⟨F,G+i*12+8,none⟩) H).trans n8;have k9:=(A.cell (p:=⟨F,G+i*12+9,none⟩) H).trans n9;have a5:=(A.cell (p:=⟨F,G+i*12+10,none⟩) H).trans ag;obtain⟨c0,c1,c2,c3,c4,c5,c6,c7,c8,c9⟩:=jbg X;have HX:Hid (wr.drew.heap[b]? = some (.cells (skv y J) 44 (0,0))):=X;have HR:Hid (wr.drew.heap[w.heap.size]? = some (.cells zsV 44 (0,0))):=B;have HB:Hid (Bw w wr.drew):=c.drew;have aa:Hid (Bw E wr.drew):=A.drew;clear Y O af D hi hx A o n1 n2 n3 n4 n5 n6 n7 n8 n9 ag aB n0 hy X Z B c;go_wp2_with fail;refine wp_region_any (by kernel_rfl) ?_;change wpAny _ _ _ _ _ _ _ (World.drew _)
   ·
    refine ta 1 ?_;refine ta 2 ?_;refine ta 3 ?_;refine ta 4 ?_;refine rd [0,5] (.cons rfl (fun r hK=>?_) (.cons rfl (fun r hK=>?_) .nil))
    all_goals go_simp
    all_goals (refine hK _ _ ?_;clear hK r)
    all_goals first
     | (refine rq [5] (.cons rfl (fun r hK=>?_) .nil))
     | (refine rq [0] (.cons rfl (fun r hK=>?_) .nil))
    all_goals go_simp
    all_goals (refine hK _ _ ?_;clear hK r)
    all_goals (refine rd [6] (.cons rfl (fun r hK=>?_) .nil))
    all_goals go_simp
    all_goals
     refine aH.out.mono ?_;rintro e n ⟨y5,k,rfl,aA,aq,j⟩;have C:=known j (Nat.le_refl _) HX.out;have au:=known j (Nat.le_refl _) HR.out;obtain⟨f0,f1,f2,f3,f4,f5,f6,f7,f8,f9⟩:=jbg C;have aL:n.frozen? ⟨b,0,none⟩=false:=cFz C 0;have aM:n.frozen? ⟨b,1,none⟩=false:=cFz C 1;have aN:n.frozen? ⟨b,2,none⟩=false:=cFz C 2;have aO:n.frozen? ⟨b,3,none⟩=false:=cFz C 3;have aP:n.frozen? ⟨b,4,none⟩=false:=cFz C 4;have aQ:n.frozen? ⟨b,5,none⟩=false:=cFz C 5;have aR:n.frozen? ⟨b,6,none⟩=false:=cFz C 6;have aS:n.frozen? ⟨b,7,none⟩=false:=cFz C 7;have aT:n.frozen? ⟨b,8,none⟩=false:=cFz C 8;have aU:n.frozen? ⟨b,9,none⟩=false:=cFz C 9;obtain⟨V,hV,f,U,T⟩:=ja9 (.int .i64 y5.kind) (.int .i64 y5.level) (.slice k.ea k.el k.ec) (.int .i64 y5.hb) (.string y5.hr) (.int .i64 y5.cr) (.int .i64 y5.cc) (.slice k.ca k.cl k.cc) (.int .i64 y5.gf) (.slice k.ga k.gl k.gc) C;have HO:Hid (MI K (jaG L K (pl.take (m+1))) w w.heap.size b V/\Bw E V):=⟨⟨⟨y5,k,aA,f,jdP aq C (fun i u=>jvr y J u) U⟩,(U.2 _ (by omega)).trans au,T _ _ (HB.out.trans (j.mono HB.out.size)) (by omega)⟩,T _ _ (aa.out.trans (j.mono aa.out.size)) a1⟩;clear C au f U T aA aq j;refine hK _ _ ?_;clear hK r
    all_goals (refine ta 7 ?_;refine ta 8 ?_;refine ta 9 ?_;refine rd [10] (.cons rfl (fun r hK=>?_) .nil))
    all_goals go_simp
    all_goals (refine hK _ _ ?_;clear hK r)
    all_goals (refine ta 11 ?_;refine wpAny_done (by kernel_rfl) ?_ _)
    all_goals
     go_wp2_with fail
     all_goals go_roundw
     case rel=>exact⟨m+1,by omega,rfl,by go_num,HO.out.1,HO.out.2⟩
     case measure=>simp[intOf];omega
  ·obtain rfl:m=pl.length:=by omega
   rw[List.take_of_length_le (Nat.le_refl _)] at d;obtain⟨⟨y,J,hy,X,Z⟩,B,c⟩:=d;obtain⟨c0,c1,c2,c3,c4,c5,c6,c7,c8,c9⟩:=jbg X;have bg:wr.cell? ⟨w.heap.size,0,none⟩=some (.int .i64 0):=cCc B 0;have bh:wr.cell? ⟨w.heap.size,1,none⟩=some (.int .i64 0):=cCc B 1;have bi:wr.cell? ⟨w.heap.size,2,none⟩=some (.slice none 0 0):=cCc B 2;have bj:wr.cell? ⟨w.heap.size,3,none⟩=some (.int .i64 0):=cCc B 3;have bk:wr.cell? ⟨w.heap.size,4,none⟩=some (.string ⟨#[]⟩):=cCc B 4;have bl:wr.cell? ⟨w.heap.size,5,none⟩=some (.int .i64 0):=cCc B 5;have bm:wr.cell? ⟨w.heap.size,6,none⟩=some (.int .i64 0):=cCc B 6;have bn:wr.cell? ⟨w.heap.size,7,none⟩=some (.slice none 0 0):=cCc B 7;have bo:wr.cell? ⟨w.heap.size,8,none⟩=some (.int .i64 0):=cCc B 8;have bp:wr.cell? ⟨w.heap.size,9,none⟩=some (.slice none 0 0):=cCc B 9;have aL:wr.frozen? ⟨w.heap.size,0,none⟩=false:=cFz B 0;have aM:wr.frozen? ⟨w.heap.size,1,none⟩=false:=cFz B 1;have aN:wr.frozen? ⟨w.heap.size,2,none⟩=false:=cFz B 2;have aO:wr.frozen? ⟨w.heap.size,3,none⟩=false:=cFz B 3;have aP:wr.frozen? ⟨w.heap.size,4,none⟩=false:=cFz B 4;have aQ:wr.frozen? ⟨w.heap.size,5,none⟩=false:=cFz B 5;have aR:wr.frozen? ⟨w.heap.size,6,none⟩=false:=cFz B 6;have aS:wr.frozen? ⟨w.heap.size,7,none⟩=false:=cFz B 7;have aT:wr.frozen? ⟨w.heap.size,8,none⟩=false:=cFz B 8;have aU:wr.frozen? ⟨w.heap.size,9,none⟩=false:=cFz B 9
   obtain⟨V,hV,f,U,T⟩:=ja9 (.int .i64 y.kind) (.int .i64 y.level) (.slice J.ea J.el J.ec) (.int .i64 y.hb) (.string y.hr) (.int .i64 y.cr) (.int .i64 y.cc) (.slice J.ca J.cl J.cc) (.int .i64 y.gf) (.slice J.ga J.gl J.gc) B;obtain⟨o0,o1,o2,o3,o4,o5,o6,o7,o8,o9⟩:=jbg f;have ab:Hid (y=jcy K (jdk K (jaG L K pl)).1 (jdk K (jaG L K pl)).2/\J.At V.heap.size V y/\Bw w V):=⟨hy,jdP Z B (fun i u=>jcd u) U,T _ _ c (by omega)⟩;clear X B f U T hy Z c;go_wp2_with fail;refine bodyPost_ret (v:=.tuple #[.agg (skv y J),.int .i64 0]) (by simp[results,Tryz.f28,go_sem,o0,o1,o2,o3,o4,o5,o6,o7,o8,o9]) rfl ⟨y,J,ab.out.1.trans HS.out.2.symm,?_,ab.out.2.1,ab.out.2.2⟩;rw[HS.out.1]
end
end Go.Proofs.YtnegciklhanmbaaGreatDoor

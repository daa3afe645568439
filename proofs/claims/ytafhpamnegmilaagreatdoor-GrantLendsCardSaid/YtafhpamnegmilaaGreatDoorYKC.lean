/- The reference of layer 15: Rollup. Printed by gen_kc.py. -/
import Derived.Test.YtafhpamnegmilaaGreatDoorYI7
set_option maxHeartbeats 8000000
set_option maxRecDepth 100000
namespace Go.Proofs.YtafhpamnegmilaaGreatDoor
open Go Go.RowKit Go.Shelf
section
attribute [-go_sem] Builtin.append_
theorem jij (g:jcs) (ga:Option Addr) (gl gc:Nat) (tn:Int) (s:jb4) (F:Int) (l:List (Ser × SerP)) (a:Option Addr) (len cap:Nat) (w:World) (aN:Grs w.heap.size w (.slice ga gl gc) g.l) (aM:g.l.length<=maxLen) (hT:Tab w.heap.size w a len cap l) (hF:jdl l) (aD:jhK (l.map (·.1))) (hQ:jas (l.map (·.1))=true->∀ x∈l.map (·.1),SkGood x.sk) :
  Calls Tryz.prog 22 #[.agg #[.int .u64 g.next,.slice ga gl gc],.int .u64 tn,.slice a len cap,.string s.1,.int .i64 F] w (jgx F (je1 g (l.map (·.1)) s) (ja0 (l.map (·.1)) F (je2 g tn (l.map (·.1)) s)) w):=by
 have aO:=hT.row.1.1;subst aO;obtain⟨W0,bl,aJ,aK,o,bn⟩:=jaI w #[.int .u64 g.next,.slice ga gl gc] 51 #[.int .i64 0,.int .i64 0,.slice none 0 0,.int .i64 0,.string ⟨#[]⟩,.int .i64 0,.int .i64 0,.slice none 0 0,.int .i64 0,.slice none 0 0] 41;have hM:=jf3 g ga gl gc tn s l a l.length cap W0 ((SlAt.below o aN).mono o.size) aM (hT.go o) hF aD;unfold jc5 at hM;have HT:=Lib.hid (hT.go o);have a2:=Lib.hid aK;have aw:=Lib.hid o
 have au:Hid (∀ i∈je2 g tn (l.map (·.1)) s,i<l.length):=fun i hi=>by
  have h1:i∈jaZ (l.map (·.1)) s:=by
   unfold je2 at hi;split at hi
   ·exact (List.mem_filter.1 hi).1
   ·cases hi
  have:=jiP _ _ i h1;rwa [List.length_map] at this
 have aF:je1 g (l.map (·.1)) s=0->∀ x∈l.map (·.1),SkGood x.sk:=fun h=>by
  refine hQ ?_;unfold je1 at h;split at h
  ·exact (jiF h).1
  ·cases h
 have ah:=Lib.hid aF;generalize je2 g tn (l.map (·.1)) s=pl at hM au ⊢;generalize je1 g (l.map (·.1)) s=er at hM ah ⊢;have HL:Hid (∀ (i:Nat) (x:Ser) (p:SerP),l[i]? = some (x,p)->(l.map (·.1))[i]? = some x):=fun i x p h=>by rw[List.getElem?_map,h];rfl
 generalize l.map (·.1)=L at ah HL ⊢;obtain⟨c0,c1⟩:=cl2 aJ;clear aN aM hT hF hQ aD aJ aK o aF;go_enter Tryz.func22,Tryz.ntmps22;go_wp2_with fail;refine hM.mono ?_;rintro e I ⟨pa,pc,rfl,hp,ak⟩;have ae:=jab ak (Nat.le_refl _) a2.out;have ai:=Lib.hid ae;have R:Hid (Bw w I):=aw.out.trans (ak.mono aw.out.size);obtain⟨r0,r1,r2,r3,r4,r5,r6,r7,r8,r9⟩:=jam ae;obtain⟨g0,g1,g2,g3,g4,g5,g6,g7,g8,g9⟩:=jbL ae;obtain⟨d0,d1,d2,d3,d4,d5,d6,d7,d8,d9⟩:=jgQ ae;have a3:=Lib.hid ak;clear ae ak hM;by_cases he:er=0
 case neg =>
  have t1:(er != 0)=true:=by rw[bne_iff_ne];exact he
  have HS:Hid (jmH er F=er):=by unfold Hid jmH;rw[if_neg (by simpa using he)]
  have HE:=Lib.hid he;clear he;go_wp2_with fail;refine bodyPost_ret (v:=.tuple #[.agg #[.int .i64 0,.int .i64 0,.slice none 0 0,.int .i64 0,.string ⟨#[]⟩,.int .i64 0,.int .i64 0,.slice none 0 0,.int .i64 0,.slice none 0 0],.int .i64 er]) (by simp[results,Tryz.f22,go_sem,r0,r1,r2,r3,r4,r5,r6,r7,r8,r9]) rfl ⟨jaQ 0 0 [],SkNil,?_,?_,jkV _,R.out⟩
  ·rw[jgv (by rw[HS.out];exact HE.out)]
  ·rw[HS.out];rfl
 subst he;by_cases hk:F=1\/F=2\/F=3
 case neg =>
  have HS:Hid (jmH 0 F=101):=by unfold Hid jmH;rw[if_pos (by rfl:((0:Int)==0)=true),if_neg (by simpa [not_or,and_assoc] using hk)]
  have hN:=jiH F I;rw[show jwO F=(zsk,101) from if_neg hk] at hN;obtain⟨D,k⟩:∃ D,zsk=D:=⟨_,rfl⟩;have aj:=Lib.hid k;rw[k] at hN;have HN:=Lib.hid hN;clear hk hN k;go_wp2_with fail;refine HN.out.mono ?_;rintro e w2 ⟨C,rfl,z,J⟩;have aI:=jab J (Nat.le_refl _) ai.out;obtain⟨W3,bf,Y,d,bo⟩:=jaf w2 #[.int .i64 0,.int .i64 0,.slice none 0 0,.int .i64 0,.string ⟨#[]⟩,.int .i64 0,.int .i64 0,.slice none 0 0,.int .i64 0,.slice none 0 0] 41;obtain⟨z0,z1,z2,z3,z4,z5,z6,z7,z8,z9⟩:=jam Y;obtain⟨u0,u1,u2,u3,u4,u5,u6,u7,u8,u9⟩:=jbL Y;obtain⟨U,hU,ad,ap,aH⟩:=jaD (.int .i64 D.kind) (.int .i64 D.level) (.slice C.ea C.el C.ec) (.int .i64 D.hb) (.string D.hr) (.int .i64 D.cr) (.int .i64 D.cc) (.slice C.ca C.cl C.cc) (.int .i64 D.gf) (.slice C.ga C.gl C.gc) Y;have Z:U.heap[w.heap.size+1]? = some (.cells #[.int .i64 0,.int .i64 0,.slice none 0 0,.int .i64 0,.string ⟨#[]⟩,.int .i64 0,.int .i64 0,.slice none 0 0,.int .i64 0,.slice none 0 0] 41 (0,0)):=(ap.2 _ (by have:=R.out.size;have:=J.size;have:=(Array.getElem?_eq_some_iff.1 ai.out).1;omega)).trans (jab d (Nat.le_refl _) aI);have am:Bw w W3:=R.out.trans ((J.trans (d.mono J.size)).mono R.out.size);have aT:Hid (Bw w U):=aH _ _ am (Nat.le_trans R.out.size J.size);have aR:Hid (C.At U.heap.size U D):=jee (z.go d) Y (fun i u=>jcP u) ap;have a1:=Lib.hid Z;have a0:=Lib.hid ad;clear aI Y Z J d z ad ap aH am;go_wp2_with fail;go_loopw [15,16] (fun f i wr=>f=.int .i64 101/\i=.int .i64 0/\wr=U) (fun _ _ _=>0)
  case atStart=>exact⟨rfl,rfl,rfl⟩
  case round =>
   obtain⟨rfl,rfl,rfl⟩:=hrel;have ad:=a0.out;have Z:=a1.out;obtain⟨q0,q1,q2,q3,q4,q5,q6,q7,q8,q9⟩:=jam Z;obtain⟨f0,f1,f2,f3,f4,f5,f6,f7,f8,f9⟩:=jbL Z;obtain⟨k0,k1,k2,k3,k4,k5,k6,k7,k8,k9⟩:=jam ad;obtain⟨V,hV,X,Q,P⟩:=jaD (.int .i64 D.kind) (.int .i64 D.level) (.slice C.ea C.el C.ec) (.int .i64 D.hb) (.string D.hr) (.int .i64 D.cr) (.int .i64 D.cc) (.slice C.ca C.cl C.cc) (.int .i64 D.gf) (.slice C.ga C.gl C.gc) Z;obtain⟨o0,o1,o2,o3,o4,o5,o6,o7,o8,o9⟩:=jam X;have T:Hid (C.At V.heap.size V D/\Bw w V):=⟨jee aR.out Z (fun i u=>jcP u) Q,P _ _ aT.out (by omega)⟩;clear ad Z X Q P;by_cases au:0<pl.length
   ·have i1:(0:Int)<(pl.length:Int):=by omega
    go_wp2_with fail;refine bodyPost_ret (v:=.tuple #[.agg #[.int .i64 D.kind,.int .i64 D.level,.slice C.ea C.el C.ec,.int .i64 D.hb,.string D.hr,.int .i64 D.cr,.int .i64 D.cc,.slice C.ca C.cl C.cc,.int .i64 D.gf,.slice C.ga C.gl C.gc],.int .i64 101]) (by simp[results,Tryz.f22,go_sem,o0,o1,o2,o3,o4,o5,o6,o7,o8,o9]) rfl ⟨D,C,?_,?_,T.out.1,T.out.2⟩
    ·rw[jgv (by rw[HS.out];decide)];exact aj.out.symm
    ·rw[HS.out]
   ·have i1:¬ (0:Int)<(pl.length:Int):=by omega
    go_wp2_with fail;refine bodyPost_ret (v:=.tuple #[.agg #[.int .i64 D.kind,.int .i64 D.level,.slice C.ea C.el C.ec,.int .i64 D.hb,.string D.hr,.int .i64 D.cr,.int .i64 D.cc,.slice C.ca C.cl C.cc,.int .i64 D.gf,.slice C.ga C.gl C.gc],.int .i64 101]) (by simp[results,Tryz.f22,go_sem,o0,o1,o2,o3,o4,o5,o6,o7,o8,o9]) rfl ⟨D,C,?_,?_,T.out.1,T.out.2⟩
    ·rw[jgv (by rw[HS.out];decide)];exact aj.out.symm
    ·rw[HS.out]
 obtain⟨K,rfl,hK⟩:∃ K:Nat,F=(K:Int)/\(K=1\/K=2\/K=3):=⟨F.toNat,by omega,by omega⟩;have HS:=Lib.hid (joC (S:=ja0 L K pl) hK);have ay:=Lib.hid (ah.out rfl);have hN:=jiH (K:Int) I;rw[show jwO (K:Int)=(jbu K 0 (jhh K),0) from by unfold jwO;rw[if_pos (by omega),Int.toNat_natCast]] at hN;have HN:=Lib.hid hN;have HK:=Lib.hid hK;clear hk hK ah hN;obtain⟨D,k⟩:∃ D,D=jbu K 0 (jhh K):=⟨_,rfl⟩;rw[<- k] at HN;have aj:=Lib.hid k;clear k;go_wp2_with fail;refine HN.out.mono ?_;rintro e w2 ⟨C,rfl,z,J⟩;obtain⟨Wz,bm,r,ao,bp⟩:=jaf w2 #[.int .i64 0,.int .i64 0,.slice none 0 0,.int .i64 0,.string ⟨#[]⟩,.int .i64 0,.int .i64 0,.slice none 0 0,.int .i64 0,.slice none 0 0] 41;obtain⟨b,aq⟩:∃ b,w2.heap.size=b:=⟨_,rfl⟩;rw[aq] at r;obtain⟨z0,z1,z2,z3,z4,z5,z6,z7,z8,z9⟩:=jam r;obtain⟨f0,f1,f2,f3,f4,f5,f6,f7,f8,f9⟩:=jbL r;obtain⟨W3,bf,Y,aE,an⟩:=jaD (.int .i64 D.kind) (.int .i64 D.level) (.slice C.ea C.el C.ec) (.int .i64 D.hb) (.string D.hr) (.int .i64 D.cr) (.int .i64 D.cc) (.slice C.ca C.cl C.cc) (.int .i64 D.gf) (.slice C.ga C.gl C.gc) r;have d:Bw w2 W3:=an _ _ ao (by omega);have aB:C.At W3.heap.size W3 D:=jee (z.go ao) r (fun i u=>jcP u) aE;have n:=J.trans (d.mono J.size);have aV:Hid (MI K [] w (w.heap.size+1) b W3):=⟨⟨D,C,aj.out,Y,aB⟩,jab n (Nat.le_refl _) ai.out,R.out.trans (n.mono R.out.size)⟩;have HP:Hid (SlC ji4 1 I.heap.size I pa pl.length pc pl):=hp;have aS:=Lib.hid n;have bj:pl.length<=maxLen:=Nat.le_trans hp.2.1 hp.2.2.1;unfold maxLen at bj
 have aA:Hid (Tab I.heap.size I a l.length cap l):=HT.out.go a3.out;have bk:I.heap.size<=b:=by rw[<- aq];exact J.size
 have bq:w.heap.size+1<b:=by have:=R.out.size;have:=(Array.getElem?_eq_some_iff.1 ai.out).1;omega
 clear J Y d n hp z r ao aE an aB;go_wp2_with fail;clear aq;go_loopw [15,16] (fun e i wr=>∃ m:Nat,m<=pl.length/\e=.int .i64 0/\i=.int .i64 m/\MI K (ja0 L K (pl.take m)) w (w.heap.size+1) b wr/\Bw I wr) (fun _ i _=>pl.length-(intOf i).toNat)
 case atStart=>exact⟨0,Nat.zero_le _,rfl,rfl,aV.out,aS.out⟩
 case round =>
  obtain⟨m,hm,rfl,rfl,ac,A⟩:=hrel;by_cases bh:m<pl.length
  ·obtain⟨i,hi⟩:∃ i,pl[m]? = some i:=⟨_,List.getElem?_eq_getElem bh⟩
   have bg:=au.out i (List.mem_of_getElem? hi);obtain⟨⟨x,p⟩,hx⟩:∃ e,l[i]? = some e:=⟨_,List.getElem?_eq_getElem bg⟩;obtain⟨pb,po,rfl,bi,ar⟩:=HP.out.1.2 m i hi;obtain⟨M,N,rfl,O,H⟩:=aA.out.row.1.2 i (x,p) hx
   have c0:wr.cell? ⟨pb,po+m,none⟩=some (.int .i64 (i:Int)):=by
    have h1:=ar 0 (by omega);simp only[Nat.mul_one,Nat.add_zero] at h1;exact (A.cell (p:=⟨pb,po+m,none⟩) bi).trans h1
   have n0:I.cell? ⟨M,N+i*12,none⟩=some (.slice p.la p.ll p.lc):=H 0 (by omega);have n1:I.cell? ⟨M,N+i*12+1,none⟩=some (.int .i64 x.sk.kind):=H 1 (by omega);have n2:I.cell? ⟨M,N+i*12+2,none⟩=some (.int .i64 x.sk.level):=H 2 (by omega);have n3:I.cell? ⟨M,N+i*12+3,none⟩=some (.slice p.ss.ea p.ss.el p.ss.ec):=H 3 (by omega);have n4:I.cell? ⟨M,N+i*12+4,none⟩=some (.int .i64 x.sk.hb):=H 4 (by omega);have n5:I.cell? ⟨M,N+i*12+5,none⟩=some (.string x.sk.hr):=H 5 (by omega);have n6:I.cell? ⟨M,N+i*12+6,none⟩=some (.int .i64 x.sk.cr):=H 6 (by omega);have n7:I.cell? ⟨M,N+i*12+7,none⟩=some (.int .i64 x.sk.cc):=H 7 (by omega);have n8:I.cell? ⟨M,N+i*12+8,none⟩=some (.slice p.ss.ca p.ss.cl p.ss.cc):=H 8 (by omega);have n9:I.cell? ⟨M,N+i*12+9,none⟩=some (.int .i64 x.sk.gf):=H 9 (by omega);have av:I.cell? ⟨M,N+i*12+10,none⟩=some (.slice p.ss.ga p.ss.gl p.ss.gc):=H 10 (by omega);have aQ:I.cell? ⟨M,N+i*12+11,none⟩=some (.int .u64 x.seen):=H 11 (by omega);have ag:=HL.out i x p hx;have j:ja0 L K (pl.take (m+1))=ja0 L K (pl.take m)++jb9 K x:=by rw[jai hi,jjL,jl8 ag]
   have az:=Lib.hid j;have aU:=Lib.hid (ay.out x (List.mem_of_getElem? ag));have aY:Hid (p.At I.heap.size I x):=aA.out.at_ _ (List.mem_of_getElem? hx);have i0:(0:Int)<=(m:Int):=by omega
   have i1:(m:Int)<(pl.length:Int):=by omega
   have j0:(0:Int)<=(i:Int):=by omega
   have j1:(i:Int)<(l.length:Int):=by omega
   have k1:=(A.cell (p:=⟨M,N+i*12+1,none⟩) O).trans n1;have aW:=Lib.hid ac;have ax:=Lib.hid A;by_cases t:x.sk.kind=(K:Int)
   case neg =>
    have t1:(x.sk.kind==(K:Int))=false:=by rw[beq_eq_false_iff_ne];exact t
    have aZ:Hid (ja0 L K (pl.take (m+1))=ja0 L K (pl.take m)):=by
     rw[Hid,az.out];unfold jb9;rw[if_neg (by simpa using t),List.append_nil]
    clear t j ar H hi hx ac A ag n1 n2 n3 n4 n5 n6 n7 n8 n9 av aQ n0;go_wp2_with fail
    all_goals go_roundw
    case rel=>exact⟨m+1,by omega,rfl,by go_num,by rw[aZ.out];exact aW.out,ax.out⟩
    case measure=>simp[intOf];omega
   have t1:(x.sk.kind==(K:Int))=true:=by simp[t]
   obtain⟨⟨y,E,hy,q,aa⟩,B,ab⟩:=ac
   have aX:Hid (Calls Tryz.prog 36 #[.agg #[.int .i64 y.kind,.int .i64 y.level,.slice E.ea E.el E.ec,.int .i64 y.hb,.string y.hr,.int .i64 y.cr,.int .i64 y.cc,.slice E.ca E.cl E.cc,.int .i64 y.gf,.slice E.ga E.gl E.gc],.agg #[.int .i64 x.sk.kind,.int .i64 x.sk.level,.slice p.ss.ea p.ss.el p.ss.ec,.int .i64 x.sk.hb,.string x.sk.hr,.int .i64 x.sk.cr,.int .i64 x.sk.cc,.slice p.ss.ca p.ss.cl p.ss.cc,.int .i64 x.sk.gf,.slice p.ss.ga p.ss.gl p.ss.gc]] wr.drew fun e w'=>∃ (y:Sk) (s:SS),e=.returned (.tuple #[.agg #[.int .i64 y.kind,.int .i64 y.level,.slice s.ea s.el s.ec,.int .i64 y.hb,.string y.hr,.int .i64 y.cr,.int .i64 y.cc,.slice s.ca s.cl s.cc,.int .i64 y.gf,.slice s.ga s.gl s.gc],.int .i64 0])/\y=jbu K (jcx K (ja0 L K (pl.take (m+1)))).1 (jcx K (ja0 L K (pl.take (m+1)))).2/\s.At w'.heap.size w' y/\Below wr.drew.heap.size wr.drew w'):=by
    rw[az.out];have aL:Bw wr wr.drew:=(Below.refl _ _).drew;exact jnk HK.out (jl9 ay.out _) aU.out t hy (aa.go aL) (aY.out.go (A.trans (aL.mono A.size))).s
   have k2:=(A.cell (p:=⟨M,N+i*12+2,none⟩) O).trans n2;have k3:=(A.cell (p:=⟨M,N+i*12+3,none⟩) O).trans n3;have k4:=(A.cell (p:=⟨M,N+i*12+4,none⟩) O).trans n4;have k5:=(A.cell (p:=⟨M,N+i*12+5,none⟩) O).trans n5;have k6:=(A.cell (p:=⟨M,N+i*12+6,none⟩) O).trans n6;have k7:=(A.cell (p:=⟨M,N+i*12+7,none⟩) O).trans n7;have k8:=(A.cell (p:=⟨M,N+i*12+8,none⟩) O).trans n8;have k9:=(A.cell (p:=⟨M,N+i*12+9,none⟩) O).trans n9;have br:=(A.cell (p:=⟨M,N+i*12+10,none⟩) O).trans av;obtain⟨c0,c1,c2,c3,c4,c5,c6,c7,c8,c9⟩:=jam q;have HX:Hid (wr.drew.heap[b]? = some (.cells #[.int .i64 y.kind,.int .i64 y.level,.slice E.ea E.el E.ec,.int .i64 y.hb,.string y.hr,.int .i64 y.cr,.int .i64 y.cc,.slice E.ca E.cl E.cc,.int .i64 y.gf,.slice E.ga E.gl E.gc] 41 (0,0))):=q;have HR:Hid (wr.drew.heap[w.heap.size+1]? = some (.cells #[.int .i64 0,.int .i64 0,.slice none 0 0,.int .i64 0,.string ⟨#[]⟩,.int .i64 0,.int .i64 0,.slice none 0 0,.int .i64 0,.slice none 0 0] 41 (0,0))):=B;have HB:Hid (Bw w wr.drew):=ab.drew;have al:Hid (Bw I wr.drew):=A.drew;clear t j ar H hi hx A ag n1 n2 n3 n4 n5 n6 n7 n8 n9 av aQ n0 hy q aa B ab;go_wp2_with fail;refine wp_region_any (by kernel_rfl) ?_;change wpAny _ _ _ _ _ _ _ (World.drew _)
   ·
    refine ta 1 ?_;refine ta 2 ?_;refine ta 3 ?_;refine ta 4 ?_;refine rd [0,5] (.cons rfl (fun c hK=>?_) (.cons rfl (fun c hK=>?_) .nil))
    all_goals go_simp
    all_goals (refine hK _ _ ?_;clear hK c)
    all_goals first
     | (refine rq [5] (.cons rfl (fun c hK=>?_) .nil))
     | (refine taq 6 ?_;refine taq 7 ?_;refine rq [0,8] (.cons rfl (fun c hK=>?_) (.cons rfl (fun c hK=>?_) .nil)))
    all_goals go_simp
    all_goals (refine hK _ _ ?_;clear hK c)
    all_goals first
     | (refine taq 6 ?_;refine taq 7 ?_;refine rq [8] (.cons rfl (fun c hK=>?_) .nil))
     | (refine rq [8] (.cons rfl (fun c hK=>?_) .nil))
     | (refine rq [0] (.cons rfl (fun c hK=>?_) .nil))
    all_goals go_simp
    all_goals (refine hK _ _ ?_;clear hK c)
    all_goals (refine rd [9] (.cons rfl (fun c hK=>?_) .nil))
    all_goals go_simp
    all_goals
     refine aX.out.mono ?_;rintro e w5 ⟨y5,s5,rfl,aP,aC,af⟩;have G:=jab af (Nat.le_refl _) HX.out;have aG:=jab af (Nat.le_refl _) HR.out;obtain⟨f0,f1,f2,f3,f4,f5,f6,f7,f8,f9⟩:=jam G;have a4:w5.frozen? ⟨b,0,none⟩=false:=cFz G 0;have a5:w5.frozen? ⟨b,1,none⟩=false:=cFz G 1;have a6:w5.frozen? ⟨b,2,none⟩=false:=cFz G 2;have a7:w5.frozen? ⟨b,3,none⟩=false:=cFz G 3;have a8:w5.frozen? ⟨b,4,none⟩=false:=cFz G 4;have a9:w5.frozen? ⟨b,5,none⟩=false:=cFz G 5;have ba:w5.frozen? ⟨b,6,none⟩=false:=cFz G 6;have bb:w5.frozen? ⟨b,7,none⟩=false:=cFz G 7;have bc:w5.frozen? ⟨b,8,none⟩=false:=cFz G 8;have be:w5.frozen? ⟨b,9,none⟩=false:=cFz G 9;obtain⟨V,hV,X,Q,P⟩:=jaD (.int .i64 y5.kind) (.int .i64 y5.level) (.slice s5.ea s5.el s5.ec) (.int .i64 y5.hb) (.string y5.hr) (.int .i64 y5.cr) (.int .i64 y5.cc) (.slice s5.ca s5.cl s5.cc) (.int .i64 y5.gf) (.slice s5.ga s5.gl s5.gc) G;have HO:Hid (MI K (ja0 L K (pl.take (m+1))) w (w.heap.size+1) b V/\Bw I V):=⟨⟨⟨y5,s5,aP,X,jee aC G (fun i u=>ju2 y E u) Q⟩,(Q.2 _ (by omega)).trans aG,P _ _ (HB.out.trans (af.mono HB.out.size)) (by omega)⟩,P _ _ (al.out.trans (af.mono al.out.size)) bk⟩;clear G aG X Q P aP aC af;refine hK _ _ ?_;clear hK c
    all_goals (refine ta 10 ?_;refine ta 11 ?_;refine ta 12 ?_;refine rd [13] (.cons rfl (fun c hK=>?_) .nil))
    all_goals go_simp
    all_goals (refine hK _ _ ?_;clear hK c)
    all_goals (refine rd [14] (.cons rfl (fun c hK=>?_) .nil))
    all_goals go_simp
    all_goals (refine hK _ _ ?_;clear hK c)
    all_goals (refine wpAny_done (by kernel_rfl) ?_ _)
    all_goals
     go_wp2_with fail
     all_goals go_roundw
     case rel=>exact⟨m+1,by omega,rfl,by go_num,HO.out.1,HO.out.2⟩
     case measure=>simp[intOf];omega
  ·obtain rfl:m=pl.length:=by omega
   rw[List.take_of_length_le (Nat.le_refl _)] at ac;obtain⟨⟨y,E,hy,q,aa⟩,B,ab⟩:=ac;obtain⟨c0,c1,c2,c3,c4,c5,c6,c7,c8,c9⟩:=jam q;have bs:wr.cell? ⟨w.heap.size+1,0,none⟩=some (.int .i64 0):=cCc B 0;have bt:wr.cell? ⟨w.heap.size+1,1,none⟩=some (.int .i64 0):=cCc B 1;have bu:wr.cell? ⟨w.heap.size+1,2,none⟩=some (.slice none 0 0):=cCc B 2;have bv:wr.cell? ⟨w.heap.size+1,3,none⟩=some (.int .i64 0):=cCc B 3;have bw:wr.cell? ⟨w.heap.size+1,4,none⟩=some (.string ⟨#[]⟩):=cCc B 4;have bx:wr.cell? ⟨w.heap.size+1,5,none⟩=some (.int .i64 0):=cCc B 5;have bz:wr.cell? ⟨w.heap.size+1,6,none⟩=some (.int .i64 0):=cCc B 6;have bA:wr.cell? ⟨w.heap.size+1,7,none⟩=some (.slice none 0 0):=cCc B 7;have bB:wr.cell? ⟨w.heap.size+1,8,none⟩=some (.int .i64 0):=cCc B 8;have bC:wr.cell? ⟨w.heap.size+1,9,none⟩=some (.slice none 0 0):=cCc B 9;have a4:wr.frozen? ⟨w.heap.size+1,0,none⟩=false:=cFz B 0;have a5:wr.frozen? ⟨w.heap.size+1,1,none⟩=false:=cFz B 1;have a6:wr.frozen? ⟨w.heap.size+1,2,none⟩=false:=cFz B 2;have a7:wr.frozen? ⟨w.heap.size+1,3,none⟩=false:=cFz B 3;have a8:wr.frozen? ⟨w.heap.size+1,4,none⟩=false:=cFz B 4;have a9:wr.frozen? ⟨w.heap.size+1,5,none⟩=false:=cFz B 5;have ba:wr.frozen? ⟨w.heap.size+1,6,none⟩=false:=cFz B 6;have bb:wr.frozen? ⟨w.heap.size+1,7,none⟩=false:=cFz B 7;have bc:wr.frozen? ⟨w.heap.size+1,8,none⟩=false:=cFz B 8;have be:wr.frozen? ⟨w.heap.size+1,9,none⟩=false:=cFz B 9
   obtain⟨V,hV,X,Q,P⟩:=jaD (.int .i64 y.kind) (.int .i64 y.level) (.slice E.ea E.el E.ec) (.int .i64 y.hb) (.string y.hr) (.int .i64 y.cr) (.int .i64 y.cc) (.slice E.ca E.cl E.cc) (.int .i64 y.gf) (.slice E.ga E.gl E.gc) B;obtain⟨o0,o1,o2,o3,o4,o5,o6,o7,o8,o9⟩:=jam X;have T:Hid (y=jbu K (jcx K (ja0 L K pl)).1 (jcx K (ja0 L K pl)).2/\E.At V.heap.size V y/\Bw w V):=⟨hy,jee aa B (fun i u=>jcP u) Q,P _ _ ab (by omega)⟩;clear q B X Q P hy aa ab;go_wp2_with fail;refine bodyPost_ret (v:=.tuple #[.agg #[.int .i64 y.kind,.int .i64 y.level,.slice E.ea E.el E.ec,.int .i64 y.hb,.string y.hr,.int .i64 y.cr,.int .i64 y.cc,.slice E.ca E.cl E.cc,.int .i64 y.gf,.slice E.ga E.gl E.gc],.int .i64 0]) (by simp[results,Tryz.f22,go_sem,o0,o1,o2,o3,o4,o5,o6,o7,o8,o9]) rfl ⟨y,E,T.out.1.trans HS.out.2.symm,?_,T.out.2.1,T.out.2.2⟩;rw[HS.out.1]
end
end Go.Proofs.YtafhpamnegmilaaGreatDoor
